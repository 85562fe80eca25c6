/- Chapter 6, the document's: Decode. -/
import Derived.Test.YtiebjnibmomcjaaDoorRf6E
import Derived.Test.YtiebjnibmomcjaaDoorRf6Q
import Derived.Test.YtiebjnibmomcjaaDoorRefG
import Derived.Test.YtiebjnibmomcjaaDoorMsgW
namespace Go.Proofs.YtiebjnibmomcjaaDoor
open Go.RowKit

/-- bits that a slice reads as -/
structure Bt6 (w : World) (B : Nat) (A : Option Addr) (n c : Nat) (l : List Bool) : Prop where
  rd : Rd w B 1 A n (l.map .bool)
  len : l.length = n
  cap : n ≤ c
  big : n ≤ 1000000
theorem Bt6.keep {S : Nat → Prop} {w w' : World} {B n c : Nat} {A : Option Addr} {l : List Bool} (h : Bt6 w B A n c l) (hk : Keep S w w') (hS : ∀ i, S i → B ≤ i) : Bt6 w' B A n c l := ⟨h.rd.keep hk hS, h.len, h.cap, h.big⟩
theorem Bt6.get {W : World} {B n c : Nat} {A : Option Addr} {l : List Bool} (h : Bt6 W B A n c l) (k : Int) :
    Calls Tryd.prog 49 #[.slice A n c, .int .i64 k] W fun e w' => ∃ A' n' c', e = .returned (.tuple #[.int .i64 (getN l k), .slice A' n' c', .int .i64 (getE l.length k)]) ∧ Bt6 w' B A' n' c' (getL l k) ∧ Keep Never W w' :=
  (rget_any A n c B l h.len W h.rd h.big h.cap k).mono (fun _ _ ⟨A', n', c', h1, h2, h3, h4, h5, _⟩ => ⟨A', n', c', h1, ⟨h4, h2.symm, h3, by have a1 := getL_le l k; have a2 := h.len; have a3 := h.big; omega⟩, h5⟩)
theorem r6_results {fn : Func} {r s : Nat} (h : fn.results = #[.cell r 25, .tmp s]) {w : World} {b : Nat} {v0 v1 v2 v3 v4 v5 : Value} (hb : Blk w b 25 #[v0, v1, v2, v3, v4, v5]) (tmps : Array Value) (ht : tmps.getD r undef = .pointer (some ⟨b, 0, none⟩)) :
    (results fn tmps).run Tryd.prog w = .ok (.tuple #[.agg #[v0, v1, v2, v3, v4, v5], tmps.getD s undef]) w := by
  have q0 : w.cell? ⟨b, 0, none⟩ = some v0 := hb.cell 0
  have q1 : w.cell? ⟨b, 1, none⟩ = some v1 := hb.cell 1
  have q2 : w.cell? ⟨b, 2, none⟩ = some v2 := hb.cell 2
  have q3 : w.cell? ⟨b, 3, none⟩ = some v3 := hb.cell 3
  have q4 : w.cell? ⟨b, 4, none⟩ = some v4 := hb.cell 4
  have q5 : w.cell? ⟨b, 5, none⟩ = some v5 := hb.cell 5
  have ht' : tmps[r]?.getD undef = .pointer (some ⟨b, 0, none⟩) := by rw [← Array.getD_eq_getD_getElem?]; exact ht
  simp [results, h, ht', go_sem, q0, q1, q2, q3, q4, q5]
theorem p6r_blk {w : World} {b t : Nat} {u0 u1 u2 u3 u4 u5 : Value} (h : Blk w b t #[u0, u1, u2, u3, u4, u5]) (v0 v1 v2 v3 v4 v5 : Value) : Blk ((((((w.setCell ⟨b, 0, none⟩ v0).setCell ⟨b, 1, none⟩ v1).setCell ⟨b, 2, none⟩ v2).setCell ⟨b, 3, none⟩ v3).setCell ⟨b, 4, none⟩ v4).setCell ⟨b, 5, none⟩ v5) b t #[v0, v1, v2, v3, v4, v5] := by
  have := (((((h.set_ 0 v0).set_ 1 v1).set_ 2 v2).set_ 3 v3).set_ 4 v4).set_ 5 v5
  simpa using this
theorem p6r_keep (w : World) (b : Nat) (v0 v1 v2 v3 v4 v5 : Value) : Keep (fun i => i = b) w ((((((w.setCell ⟨b, 0, none⟩ v0).setCell ⟨b, 1, none⟩ v1).setCell ⟨b, 2, none⟩ v2).setCell ⟨b, 3, none⟩ v3).setCell ⟨b, 4, none⟩ v4).setCell ⟨b, 5, none⟩ v5) :=
  ((((((Keep.refl (fun i => i = b) w).set_ (p := ⟨b, 0, none⟩) (.inl rfl) v0).set_ (p := ⟨b, 1, none⟩) (.inl rfl) v1).set_ (p := ⟨b, 2, none⟩) (.inl rfl) v2).set_ (p := ⟨b, 3, none⟩) (.inl rfl) v3).set_ (p := ⟨b, 4, none⟩) (.inl rfl) v4).set_ (p := ⟨b, 5, none⟩) (.inl rfl) v5
theorem headM_ge (id : Int) : 2 ≤ (headM id).length := by unfold headM; split <;> simp
theorem headM_down {id : Int} (h : upM id = false) : (headM id).length = 3 := by unfold headM; rw [if_neg (by rw [h]; simp)]; rfl
theorem onesM_le6 : ∀ (names : List Int) (l : List Bool) (e : Int), (onesM names l e).2.1.length ≤ l.length
  | [], _, _ => Nat.le_refl _
  | v :: names, l, e => by
    have h1 := onesM_le6 names (oneB l e v).2.1 (oneB l e v).2.2
    have h2 : (oneB l e v).2.1.length ≤ l.length := by
      have h3 : (takeB l e v).2.1.length ≤ l.length := by unfold takeB; split; exact Nat.le_refl _; exact getL_le _ _
      unfold oneB
      split
      · exact h3
      · exact h3
    exact Nat.le_trans h1 h2
set_option maxHeartbeats 16000000 in
set_option maxRecDepth 100000 in
theorem rdec6_any (B : Nat) (b : List Nat) (A : Option Addr) (n c : Nat) (w : World) (hr : Rd w B 1 A n (b.map u8v)) (hbl : b.length = n) (h8 : ∀ x ∈ b, x < 256) (hn : n ≤ 1500) (hB : B ≤ w.heap.size) :
    Calls Tryd.prog 19 #[.slice A n c] w (DecRet w (DecodeM b)) := by
  have HBy := Lib.hid (And.intro hr (And.intro hbl h8))
  have HBb := Lib.hid hB
  clear hr hbl h8 hB
  obtain ⟨w1, hw1⟩ : ∃ V : World, w.alloc (.cells #[.int .i64 0, .int .i64 0, .int .i64 0, .int .i64 0, .slice none 0 0, .slice none 0 0] 25) = V := ⟨_, rfl⟩
  have kw1 : Keep Never w w1 := by rw [← hw1]; exact (Keep.refl _ _).alloc _
  have bw1 := Blk.new w 25 #[.int .i64 0, .int .i64 0, .int .i64 0, .int .i64 0, .slice none 0 0, .slice none 0 0]
  have hs1 : w1.heap.size = w.heap.size + 1 := by rw [← hw1]; simp
  rw [hw1] at bw1
  have z0 : (w1.alloc (.cells #[.int .i64 0, .int .i64 0, .int .i64 0, .int .i64 0, .slice none 0 0, .slice none 0 0] 25)).cell? ⟨w1.heap.size, 0, none⟩ = some (.int .i64 0) := (Blk.new w1 25 #[.int .i64 0, .int .i64 0, .int .i64 0, .int .i64 0, .slice none 0 0, .slice none 0 0]).cell 0
  have zf0 := (Blk.new w1 25 #[.int .i64 0, .int .i64 0, .int .i64 0, .int .i64 0, .slice none 0 0, .slice none 0 0]).frozen 0
  have z1 : (w1.alloc (.cells #[.int .i64 0, .int .i64 0, .int .i64 0, .int .i64 0, .slice none 0 0, .slice none 0 0] 25)).cell? ⟨w1.heap.size, 1, none⟩ = some (.int .i64 0) := (Blk.new w1 25 #[.int .i64 0, .int .i64 0, .int .i64 0, .int .i64 0, .slice none 0 0, .slice none 0 0]).cell 1
  have zf1 := (Blk.new w1 25 #[.int .i64 0, .int .i64 0, .int .i64 0, .int .i64 0, .slice none 0 0, .slice none 0 0]).frozen 1
  have z2 : (w1.alloc (.cells #[.int .i64 0, .int .i64 0, .int .i64 0, .int .i64 0, .slice none 0 0, .slice none 0 0] 25)).cell? ⟨w1.heap.size, 2, none⟩ = some (.int .i64 0) := (Blk.new w1 25 #[.int .i64 0, .int .i64 0, .int .i64 0, .int .i64 0, .slice none 0 0, .slice none 0 0]).cell 2
  have zf2 := (Blk.new w1 25 #[.int .i64 0, .int .i64 0, .int .i64 0, .int .i64 0, .slice none 0 0, .slice none 0 0]).frozen 2
  have z3 : (w1.alloc (.cells #[.int .i64 0, .int .i64 0, .int .i64 0, .int .i64 0, .slice none 0 0, .slice none 0 0] 25)).cell? ⟨w1.heap.size, 3, none⟩ = some (.int .i64 0) := (Blk.new w1 25 #[.int .i64 0, .int .i64 0, .int .i64 0, .int .i64 0, .slice none 0 0, .slice none 0 0]).cell 3
  have zf3 := (Blk.new w1 25 #[.int .i64 0, .int .i64 0, .int .i64 0, .int .i64 0, .slice none 0 0, .slice none 0 0]).frozen 3
  have z4 : (w1.alloc (.cells #[.int .i64 0, .int .i64 0, .int .i64 0, .int .i64 0, .slice none 0 0, .slice none 0 0] 25)).cell? ⟨w1.heap.size, 4, none⟩ = some (.slice none 0 0) := (Blk.new w1 25 #[.int .i64 0, .int .i64 0, .int .i64 0, .int .i64 0, .slice none 0 0, .slice none 0 0]).cell 4
  have zf4 := (Blk.new w1 25 #[.int .i64 0, .int .i64 0, .int .i64 0, .int .i64 0, .slice none 0 0, .slice none 0 0]).frozen 4
  have z5 : (w1.alloc (.cells #[.int .i64 0, .int .i64 0, .int .i64 0, .int .i64 0, .slice none 0 0, .slice none 0 0] 25)).cell? ⟨w1.heap.size, 5, none⟩ = some (.slice none 0 0) := (Blk.new w1 25 #[.int .i64 0, .int .i64 0, .int .i64 0, .int .i64 0, .slice none 0 0, .slice none 0 0]).cell 5
  have zf5 := (Blk.new w1 25 #[.int .i64 0, .int .i64 0, .int .i64 0, .int .i64 0, .slice none 0 0, .slice none 0 0]).frozen 5
  go_enter Tryd.func19, Tryd.ntmps19
  go_upto_region 2 with (fail)
  clear z0 z1 z2 z3 z4 z5 zf0 zf1 zf2 zf3 zf4 zf5 hw1
  obtain ⟨w2, hw2⟩ : ∃ V : World, w1.alloc (.cells #[.int .i64 0, .int .i64 0, .int .i64 0, .int .i64 0, .slice none 0 0, .slice none 0 0] 25) = V := ⟨_, rfl⟩
  have kw2 : Keep Never w1 w2 := by rw [← hw2]; exact (Keep.refl _ _).alloc _
  have bw2 := Blk.new w1 25 #[.int .i64 0, .int .i64 0, .int .i64 0, .int .i64 0, .slice none 0 0, .slice none 0 0]
  (try rw [hw2])
  rw [hw2] at bw2
  (try rw [hs1]); rw [hs1] at bw2
  have HK2 := Lib.hid (kw1.trans kw2)
  have HRs2 := Lib.hid (bw1.keep kw2 (fun h => h))
  have HBz2 := Lib.hid bw2
  clear kw1 kw2 bw1 bw2 hw2 hs1
  have HC := Lib.hid (rbits_any A n c B b HBy.out.2.1 w2 (HBy.out.1.keep HK2.out (fun _ h => h.elim)) (Nat.le_trans HBb.out HK2.out.size) HBy.out.2.2 (by omega))
  go_wp2_with fail
  refine HC.out.mono ?_
  rintro en w3 ⟨A1, n1, c1, rfl, hn1, hc1, hr1, hk3, _⟩
  have HK3 := Lib.hid (HK2.out.trans hk3)
  have HRs3 := Lib.hid (HRs2.out.keep hk3 (fun h => h))
  have HBz3 := Lib.hid (HBz2.out.keep hk3 (fun h => h))
  obtain ⟨BB, hBB⟩ : ∃ q, w3.heap.size = q := ⟨_, rfl⟩
  rw [hBB] at hr1
  have HBt : Hid (Bt6 w3 BB A1 n1 c1 (bitsB b)) := Lib.hid ⟨hr1, by have := hr1.1; simpa using this, hc1, by have := HBy.out.2.1; omega⟩
  have HBB : Hid (w.heap.size ≤ BB ∧ BB ≤ w3.heap.size) := Lib.hid ⟨by rw [← hBB]; exact HK3.out.size, by omega⟩
  clear hn1 hc1 hr1 hk3 HC hBB
  have HK33 := Lib.hid (Keep.refl Never w3)
  have hget := HBt.out.get 8
  obtain ⟨id, hid_⟩ : ∃ z, getN (bitsB b) 8 = z := ⟨_, rfl⟩
  obtain ⟨l1, hl1⟩ : ∃ z, getL (bitsB b) 8 = z := ⟨_, rfl⟩
  obtain ⟨e0, he0⟩ : ∃ z, getE (bitsB b).length 8 = z := ⟨_, rfl⟩
  rw [hid_, hl1, he0] at hget
  have HId := Lib.hid hid_
  have HL1 := Lib.hid hl1
  have HE0 := Lib.hid he0
  have HC := Lib.hid hget
  clear hid_ hl1 he0 hget
  go_wp2_with fail
  refine HC.out.mono ?_
  rintro en w4 ⟨A4, n4, c4, rfl, hb4, hk4⟩
  have HK4 := Lib.hid (HK3.out.trans hk4)
  have HRs4 := Lib.hid (HRs3.out.keep hk4 (fun h => h))
  have HBz4 := Lib.hid (HBz3.out.keep hk4 (fun h => h))
  have HBt4 := Lib.hid hb4
  have HK34 := Lib.hid (HK33.out.trans hk4)
  clear hk4 hb4 HC
  by_cases ge : e0 = 0
  rotate_left
  · have t0 : (e0 != 0) = true := by simpa using ge
    have HR : Hid (DecodeM b = .error e0) := Lib.hid (by rw [dec6_e0 (by rw [HE0.out]; exact ge), HE0.out])
    have HX := Lib.hid ge
    clear ge
    have r0 : w4.cell? ⟨w.heap.size, 0, none⟩ = some (.int .i64 0) := HRs4.out.cell 0
    have rf0 := HRs4.out.frozen 0
    have r1 : w4.cell? ⟨w.heap.size, 1, none⟩ = some (.int .i64 0) := HRs4.out.cell 1
    have rf1 := HRs4.out.frozen 1
    have r2 : w4.cell? ⟨w.heap.size, 2, none⟩ = some (.int .i64 0) := HRs4.out.cell 2
    have rf2 := HRs4.out.frozen 2
    have r3 : w4.cell? ⟨w.heap.size, 3, none⟩ = some (.int .i64 0) := HRs4.out.cell 3
    have rf3 := HRs4.out.frozen 3
    have r4 : w4.cell? ⟨w.heap.size, 4, none⟩ = some (.slice none 0 0) := HRs4.out.cell 4
    have rf4 := HRs4.out.frozen 4
    have r5 : w4.cell? ⟨w.heap.size, 5, none⟩ = some (.slice none 0 0) := HRs4.out.cell 5
    have rf5 := HRs4.out.frozen 5
    have y0 : w4.cell? ⟨w.heap.size + 1, 0, none⟩ = some (.int .i64 0) := HBz4.out.cell 0
    have y1 : w4.cell? ⟨w.heap.size + 1, 1, none⟩ = some (.int .i64 0) := HBz4.out.cell 1
    have y2 : w4.cell? ⟨w.heap.size + 1, 2, none⟩ = some (.int .i64 0) := HBz4.out.cell 2
    have y3 : w4.cell? ⟨w.heap.size + 1, 3, none⟩ = some (.int .i64 0) := HBz4.out.cell 3
    have y4 : w4.cell? ⟨w.heap.size + 1, 4, none⟩ = some (.slice none 0 0) := HBz4.out.cell 4
    have y5 : w4.cell? ⟨w.heap.size + 1, 5, none⟩ = some (.slice none 0 0) := HBz4.out.cell 5
    go_wp2_with fail
    (try simp only [Exit.inBlock, Exit.then])
    refine bodyPost_ret (r6_results rfl (p6r_blk HRs4.out _ _ _ _ _ _) _ rfl) rfl ⟨0, 0, 0, 0, none, 0, 0, none, 0, 0, e0, rfl, HK4.out.then_ (p6r_keep _ _ _ _ _ _ _ _) (fun i hi e => by omega), .inr ⟨HR.out, HX.out, rfl, rfl, rfl, rfl, rfl, rfl, rfl, rfl, rfl, rfl⟩⟩
  subst ge
  have t0 : ((0 : Int) != 0) = false := by decide
  have hgt := rget6_any id w4
  unfold RGet6 at hgt
  cases hF : formM id with
  | none =>
    have HR : Hid (DecodeM b = .error 4) := Lib.hid (dec6_none HE0.out (by rw [HId.out]; exact hF))
    rw [hF] at hgt
    have HGt := Lib.hid hgt
    clear hgt hF
    generalize (rowS id).1 = s1 at *
    generalize (rowS id).2.1 = s2 at *
    generalize (rowS id).2.2 = s3 at *
    simp only [Option.isSome_none] at HGt
    go_wp2_with fail
    refine HGt.out.mono ?_
    rintro en w5 ⟨rfl, hk5⟩
    have hk6 : Keep Never w4 (w5.alloc (.cells #[.string s1, .string s2, .string s3] 58)) := hk5.alloc _
    clear t0
    go_upto_region 7 with (fail)
    obtain ⟨w6, hw6⟩ : ∃ V : World, w5.alloc (.cells #[.string s1, .string s2, .string s3] 58) = V := ⟨_, rfl⟩
    rw [hw6] at hk6
    (try rw [hw6])
    have HK6 := Lib.hid (HK4.out.trans hk6)
    have HRs6 := Lib.hid (HRs4.out.keep hk6 (fun h => h))
    have HBz6 := Lib.hid (HBz4.out.keep hk6 (fun h => h))
    clear hk5 hk6 hw6 HGt
    have r0 : w6.cell? ⟨w.heap.size, 0, none⟩ = some (.int .i64 0) := HRs6.out.cell 0
    have rf0 := HRs6.out.frozen 0
    have r1 : w6.cell? ⟨w.heap.size, 1, none⟩ = some (.int .i64 0) := HRs6.out.cell 1
    have rf1 := HRs6.out.frozen 1
    have r2 : w6.cell? ⟨w.heap.size, 2, none⟩ = some (.int .i64 0) := HRs6.out.cell 2
    have rf2 := HRs6.out.frozen 2
    have r3 : w6.cell? ⟨w.heap.size, 3, none⟩ = some (.int .i64 0) := HRs6.out.cell 3
    have rf3 := HRs6.out.frozen 3
    have r4 : w6.cell? ⟨w.heap.size, 4, none⟩ = some (.slice none 0 0) := HRs6.out.cell 4
    have rf4 := HRs6.out.frozen 4
    have r5 : w6.cell? ⟨w.heap.size, 5, none⟩ = some (.slice none 0 0) := HRs6.out.cell 5
    have rf5 := HRs6.out.frozen 5
    have y0 : w6.cell? ⟨w.heap.size + 1, 0, none⟩ = some (.int .i64 0) := HBz6.out.cell 0
    have y1 : w6.cell? ⟨w.heap.size + 1, 1, none⟩ = some (.int .i64 0) := HBz6.out.cell 1
    have y2 : w6.cell? ⟨w.heap.size + 1, 2, none⟩ = some (.int .i64 0) := HBz6.out.cell 2
    have y3 : w6.cell? ⟨w.heap.size + 1, 3, none⟩ = some (.int .i64 0) := HBz6.out.cell 3
    have y4 : w6.cell? ⟨w.heap.size + 1, 4, none⟩ = some (.slice none 0 0) := HBz6.out.cell 4
    have y5 : w6.cell? ⟨w.heap.size + 1, 5, none⟩ = some (.slice none 0 0) := HBz6.out.cell 5
    go_wp2_with fail
    (try simp only [Exit.inBlock, Exit.then])
    refine bodyPost_ret (r6_results rfl (p6r_blk HRs6.out _ _ _ _ _ _) _ rfl) rfl ⟨0, 0, 0, 0, none, 0, 0, none, 0, 0, 4, rfl, HK6.out.then_ (p6r_keep _ _ _ _ _ _ _ _) (fun i hi e => by omega), .inr ⟨HR.out, (by decide), rfl, rfl, rfl, rfl, rfl, rfl, rfl, rfl, rfl, rfl⟩⟩
  | some f =>
  obtain ⟨own, must, may⟩ := f
  have hro := row_of hF
  have HNc : Hid (∀ W, Calls Tryd.prog 32 #[.int .i64 id, .agg #[.string (rowS id).1, .string (rowS id).2.1, .string (rowS id).2.2]] W (WWords W (namesS (headM id ++ own)))) := Lib.hid (fun W => names6_any id _ _ _ own hro.1 (form_own hF) hro.2.2.2.2.1 W)
  have HFt : Hid (∀ W B' A2 k d ids, IdsAt W B' A2 k ids → k ≤ 100000 → Calls Tryd.prog 38 #[.agg #[.string (rowS id).1, .string (rowS id).2.1, .string (rowS id).2.2], .slice A2 k d] W fun e w' => e = .returned (.bool (fitsM must may ids)) ∧ Keep Never W w') := Lib.hid (fun W B' A2 k d ids hi hk => fits6_any B' hF A2 k d _ W hi hk)
  have HNr : Hid (∀ v ∈ headM id ++ own, 0 ≤ v ∧ v < 96) := Lib.hid (fun v hv => by
    rcases List.mem_append.1 hv with h | h
    · exact head_names id v h
    · exact hro.2.1 v h)
  have HHl : Hid ((headM id).length ≤ (headM id ++ own).length ∧ (headM id ++ own).length ≤ 10) := Lib.hid (by have := headM_len id; have := form_own hF; simp only [List.length_append]; omega)
  have HF := Lib.hid hF
  rw [hF] at hgt
  have HGt := Lib.hid hgt
  clear hgt hF hro
  generalize (rowS id).1 = s1 at *
  generalize (rowS id).2.1 = s2 at *
  generalize (rowS id).2.2 = s3 at *
  simp only [Option.isSome_some] at HGt
  go_wp2_with fail
  refine HGt.out.mono ?_
  rintro en w5 ⟨rfl, hk5⟩
  have hk6 : Keep Never w4 (w5.alloc (.cells #[.string s1, .string s2, .string s3] 58)) := hk5.alloc _
  have bb := Blk.new w5 58 #[.string s1, .string s2, .string s3]
  clear t0
  go_upto_region 7 with (fail)
  obtain ⟨w6, hw6⟩ : ∃ V : World, w5.alloc (.cells #[.string s1, .string s2, .string s3] 58) = V := ⟨_, rfl⟩
  rw [hw6] at hk6 bb
  (try rw [hw6])
  obtain ⟨br, hbr⟩ : ∃ q, w5.heap.size = q := ⟨_, rfl⟩
  rw [hbr] at bb
  (try rw [hbr])
  have HK6 := Lib.hid (HK4.out.trans hk6)
  have HRs6 := Lib.hid (HRs4.out.keep hk6 (fun h => h))
  have HBz6 := Lib.hid (HBz4.out.keep hk6 (fun h => h))
  have HRo6 := Lib.hid bb
  have HBt6 := Lib.hid (HBt4.out.keep hk6 (fun _ h => h.elim))
  have HK36 := Lib.hid (HK34.out.trans hk6)
  clear hk5 hk6 hw6 HGt bb hbr
  have hget := HBt6.out.get 10
  obtain ⟨sz, hsz⟩ : ∃ z, getN l1 10 = z := ⟨_, rfl⟩
  obtain ⟨l2, hl2⟩ : ∃ z, getL l1 10 = z := ⟨_, rfl⟩
  obtain ⟨e1, he1⟩ : ∃ z, getE l1.length 10 = z := ⟨_, rfl⟩
  rw [hsz, hl2, he1] at hget
  have HSz := Lib.hid hsz
  have HL2 := Lib.hid hl2
  have HE1 := Lib.hid he1
  have HC := Lib.hid hget
  clear hsz hl2 he1 hget
  go_wp2_with fail
  refine HC.out.mono ?_
  rintro en w7 ⟨A7, n7, c7, rfl, hb7, hk7⟩
  have HK7 := Lib.hid (HK6.out.trans hk7)
  have HRs7 := Lib.hid (HRs6.out.keep hk7 (fun h => h))
  have HBz7 := Lib.hid (HBz6.out.keep hk7 (fun h => h))
  have HRo7 := Lib.hid (HRo6.out.keep hk7 (fun h => h))
  have HBt7 := Lib.hid hb7
  have HK37 := Lib.hid (HK36.out.trans hk7)
  clear hk7 hb7 HC
  by_cases ge : e1 = 0
  rotate_left
  · have t0 : (e1 != 0) = true := by simpa using ge
    have HR : Hid (DecodeM b = .error e1) := Lib.hid (by rw [dec6_e1 HE0.out (by rw [HId.out]; exact HF.out) (by rw [HL1.out, HE1.out]; exact ge), HL1.out, HE1.out])
    have HX := Lib.hid ge
    clear ge
    have r0 : w7.cell? ⟨w.heap.size, 0, none⟩ = some (.int .i64 0) := HRs7.out.cell 0
    have rf0 := HRs7.out.frozen 0
    have r1 : w7.cell? ⟨w.heap.size, 1, none⟩ = some (.int .i64 0) := HRs7.out.cell 1
    have rf1 := HRs7.out.frozen 1
    have r2 : w7.cell? ⟨w.heap.size, 2, none⟩ = some (.int .i64 0) := HRs7.out.cell 2
    have rf2 := HRs7.out.frozen 2
    have r3 : w7.cell? ⟨w.heap.size, 3, none⟩ = some (.int .i64 0) := HRs7.out.cell 3
    have rf3 := HRs7.out.frozen 3
    have r4 : w7.cell? ⟨w.heap.size, 4, none⟩ = some (.slice none 0 0) := HRs7.out.cell 4
    have rf4 := HRs7.out.frozen 4
    have r5 : w7.cell? ⟨w.heap.size, 5, none⟩ = some (.slice none 0 0) := HRs7.out.cell 5
    have rf5 := HRs7.out.frozen 5
    have y0 : w7.cell? ⟨w.heap.size + 1, 0, none⟩ = some (.int .i64 0) := HBz7.out.cell 0
    have y1 : w7.cell? ⟨w.heap.size + 1, 1, none⟩ = some (.int .i64 0) := HBz7.out.cell 1
    have y2 : w7.cell? ⟨w.heap.size + 1, 2, none⟩ = some (.int .i64 0) := HBz7.out.cell 2
    have y3 : w7.cell? ⟨w.heap.size + 1, 3, none⟩ = some (.int .i64 0) := HBz7.out.cell 3
    have y4 : w7.cell? ⟨w.heap.size + 1, 4, none⟩ = some (.slice none 0 0) := HBz7.out.cell 4
    have y5 : w7.cell? ⟨w.heap.size + 1, 5, none⟩ = some (.slice none 0 0) := HBz7.out.cell 5
    go_wp2_with fail
    (try simp only [Exit.inBlock, Exit.then])
    refine bodyPost_ret (r6_results rfl (p6r_blk HRs7.out _ _ _ _ _ _) _ rfl) rfl ⟨0, 0, 0, 0, none, 0, 0, none, 0, 0, e1, rfl, HK7.out.then_ (p6r_keep _ _ _ _ _ _ _ _) (fun i hi e => by omega), .inr ⟨HR.out, HX.out, rfl, rfl, rfl, rfl, rfl, rfl, rfl, rfl, rfl, rfl⟩⟩
  subst ge
  have t0 : ((0 : Int) != 0) = false := by decide
  by_cases gs : sz = (n : Int)
  rotate_left
  · have t1 : (sz != (n : Int)) = true := by simpa using gs
    have HR : Hid (DecodeM b = .error 8) := Lib.hid (dec6_size HE0.out (by rw [HId.out]; exact HF.out) (by rw [HL1.out, HE1.out]) (by rw [HL1.out, HSz.out, HBy.out.2.1]; exact gs))
    clear gs
    have r0 : w7.cell? ⟨w.heap.size, 0, none⟩ = some (.int .i64 0) := HRs7.out.cell 0
    have rf0 := HRs7.out.frozen 0
    have r1 : w7.cell? ⟨w.heap.size, 1, none⟩ = some (.int .i64 0) := HRs7.out.cell 1
    have rf1 := HRs7.out.frozen 1
    have r2 : w7.cell? ⟨w.heap.size, 2, none⟩ = some (.int .i64 0) := HRs7.out.cell 2
    have rf2 := HRs7.out.frozen 2
    have r3 : w7.cell? ⟨w.heap.size, 3, none⟩ = some (.int .i64 0) := HRs7.out.cell 3
    have rf3 := HRs7.out.frozen 3
    have r4 : w7.cell? ⟨w.heap.size, 4, none⟩ = some (.slice none 0 0) := HRs7.out.cell 4
    have rf4 := HRs7.out.frozen 4
    have r5 : w7.cell? ⟨w.heap.size, 5, none⟩ = some (.slice none 0 0) := HRs7.out.cell 5
    have rf5 := HRs7.out.frozen 5
    have y0 : w7.cell? ⟨w.heap.size + 1, 0, none⟩ = some (.int .i64 0) := HBz7.out.cell 0
    have y1 : w7.cell? ⟨w.heap.size + 1, 1, none⟩ = some (.int .i64 0) := HBz7.out.cell 1
    have y2 : w7.cell? ⟨w.heap.size + 1, 2, none⟩ = some (.int .i64 0) := HBz7.out.cell 2
    have y3 : w7.cell? ⟨w.heap.size + 1, 3, none⟩ = some (.int .i64 0) := HBz7.out.cell 3
    have y4 : w7.cell? ⟨w.heap.size + 1, 4, none⟩ = some (.slice none 0 0) := HBz7.out.cell 4
    have y5 : w7.cell? ⟨w.heap.size + 1, 5, none⟩ = some (.slice none 0 0) := HBz7.out.cell 5
    go_wp2_with fail
    (try simp only [Exit.inBlock, Exit.then])
    refine bodyPost_ret (r6_results rfl (p6r_blk HRs7.out _ _ _ _ _ _) _ rfl) rfl ⟨0, 0, 0, 0, none, 0, 0, none, 0, 0, 8, rfl, HK7.out.then_ (p6r_keep _ _ _ _ _ _ _ _) (fun i hi e => by omega), .inr ⟨HR.out, (by decide), rfl, rfl, rfl, rfl, rfl, rfl, rfl, rfl, rfl, rfl⟩⟩
  subst gs
  have t1 : ((n : Int) != (n : Int)) = false := by simp
  have HDo : Hid (DecodeM b = tailM b id (onesM (headM id ++ own) l2 0)) := Lib.hid (by rw [dec6_ones HE0.out (by rw [HId.out]; exact HF.out) (by rw [HL1.out, HE1.out]) (by rw [HL1.out, HSz.out, HBy.out.2.1]), HId.out, HL1.out, HL2.out])
  have HUs : Hid (∀ (vs : List Int) (l8 : List Bool), onesM (headM id ++ own) l2 0 = (vs, l8, 0) → ∀ (Q : List (Int × List Int)) (e : Int), packsG b (8 * b.length) (8 * (b.length : Int) - (l8.length : Nat)) = .ok (Q, e) → usedM id Q = e ∧ 0 ≤ e ∧ e ≤ 8 * (b.length : Int) ∧ 8 * (b.length : Int) < e + 8) := Lib.hid (fun vs l8 ho Q e => by
    have h0 : takeB (bitsB b) 0 0 = (id, l1, 0) := by rw [takeB0, wid0, HId.out, HL1.out, HE0.out]
    have h1 : takeB l1 (errA id 0) 1 = ((n : Int), l2, 0) := by
      have hA : errA id 0 = 0 := by unfold errA; rw [if_neg (fun hc => by rw [HF.out] at hc; exact absurd hc.2 (by simp))]
      rw [hA, takeB0, wid1, HSz.out, HL2.out, HE1.out]
    have h2 : onesM (headM id ++ ((formM id).getD ([], 0, [])).1) l2 (errB b.length (n : Int) 0) = (vs, l8, 0) := by
      have hB : errB b.length (n : Int) 0 = 0 := by unfold errB; rw [if_neg (fun hc => hc.2 (by rw [HBy.out.2.1]))]
      rw [hB, HF.out]
      exact ho
    exact (decode_used h0 h1 h2).2)
  have HL2n : Hid (l2.length ≤ 8 * n) := Lib.hid (by have a1 := getL_le (bitsB b) 8; have a2 := getL_le l1 10; rw [HL1.out] at a1; rw [HL2.out] at a2; have a3 := length_bitsB b; have a4 := HBy.out.2.1; omega)
  clear HSz HL2 HE1 HE0 HId HL1
  have q0 : w7.cell? ⟨br, 0, none⟩ = some (.string s1) := HRo7.out.cell 0
  have q1 : w7.cell? ⟨br, 1, none⟩ = some (.string s2) := HRo7.out.cell 1
  have q2 : w7.cell? ⟨br, 2, none⟩ = some (.string s3) := HRo7.out.cell 2
  go_wp2_with fail
  refine (HNc.out _).mono ?_
  rintro en w8 ⟨A8, m8, c8, rfl, hn8, ho8, hk8⟩
  have HK8 := Lib.hid (HK7.out.trans hk8)
  have HRs8 := Lib.hid (HRs7.out.keep hk8 (fun h => h))
  have HBz8 := Lib.hid (HBz7.out.keep hk8 (fun h => h))
  have HK38 : Hid (Keep Never w3 w8) := Lib.hid (HK37.out.trans hk8)
  have HRo8 := Lib.hid (HRo7.out.keep hk8 (fun h => h))
  have HBt8 := Lib.hid (HBt7.out.keep hk8 (fun _ h => h.elim))
  obtain ⟨names, hnm⟩ : ∃ z, headM id ++ own = z := ⟨_, rfl⟩
  rw [hnm] at ho8 hn8 HNr HHl HDo HUs
  have hm8 : m8 = names.length := by rw [hn8]; simp [namesS]
  subst hm8
  have HNm := Lib.hid ho8
  have HNames := Lib.hid hnm
  clear hk8 ho8 hn8 hnm HNc q0 q1 q2 t0 t1
  go_wp2_with fail
  go_loopw [5, 13, 14] (fun s5 s13 s14 wr => ∃ (j nb cb cv : Nat) (Ab Av : Option Addr), j ≤ names.length ∧ s5 = .slice Ab nb cb ∧ s13 = .slice Av j cv ∧ s14 = .int .i64 j ∧ Hid (∃ vs lj, Keep Never w8 wr ∧ Bt6 wr BB Ab nb cb lj ∧ onesM (names.take j) l2 0 = (vs, lj, 0) ∧ Own wr w8.heap.size 3 1 Av j cv (vs.map (.int .i64)))) (fun _ _ i _ => names.length - (intOf i).toNat)
  case atStart => exact ⟨0, _, _, 0, _, none, by omega, rfl, rfl, rfl, Lib.hid ⟨[], l2, Keep.refl _ _, HBt8.out, rfl, Own.nil _ _ _ _⟩⟩
  case round =>
    obtain ⟨j, nb, cb, cv, Ab, Av, hj, rfl, rfl, rfl, HH⟩ := hrel
    obtain ⟨vs, lj, hkr, hbr, hon, hov⟩ := HH.out
    have HKr := Lib.hid (HK8.out.trans hkr)
    have HRsr := Lib.hid (HRs8.out.keep hkr (fun h => h))
    have HBzr := Lib.hid (HBz8.out.keep hkr (fun h => h))
    have HBtr := Lib.hid hbr
    have HOn := Lib.hid hon
    have HOv := Lib.hid hov
    have HK8r := Lib.hid hkr
    have hn10 : names.length ≤ 10 := HHl.out.2
    clear hkr hbr hon hov HH
    by_cases h0 : j < names.length
    · have hji : (j : Int) < (names.length : Int) := by omega
      obtain ⟨ad, sv, hA8, _, hsv, hcv⟩ := (HNm.out.rd.keep HK8r.out (fun _ h => h.elim)).at1 h0
      obtain ⟨v, hv, rfl⟩ := names6_at hsv
      subst hA8
      have hvr := HNr.out v (List.mem_of_getElem? hv)
      have HV := Lib.hid hv
      have HFi : Hid (∀ W, Calls Tryd.prog 34 #[.string (vName v.toNat)] W fun e w' => e = .returned (.int .i64 v) ∧ Keep Never W w') := Lib.hid (fun W => find6_any hvr W)
      have HWi : Hid (∀ W, Calls Tryd.prog 36 #[.int .i64 v] W fun e w' => e = .returned (.int .i64 (vWidth v)) ∧ Keep Never W w') := Lib.hid (fun W => by rw [vWidth_eq]; exact rwidth_any v W)
      have HMy : Hid (∀ x W, Calls Tryd.prog 35 #[.int .i64 v, .int .i64 x] W fun e w' => e = .returned (.bool (vMay v x)) ∧ Keep Never W w') := Lib.hid (fun x W => may6_any v x W)
      obtain ⟨nm, hnm⟩ : ∃ z, vName v.toNat = z := ⟨_, rfl⟩
      rw [hnm] at hcv HFi
      clear hsv hv hvr hnm
      go_wp2_with fail
      refine (HFi.out _).mono ?_
      rintro en wa ⟨rfl, hka⟩
      have HKa := Lib.hid (HKr.out.trans hka)
      have HRsa := Lib.hid (HRsr.out.keep hka (fun h => h))
      have HBza := Lib.hid (HBzr.out.keep hka (fun h => h))
      have HBta := Lib.hid (HBtr.out.keep hka (fun _ h => h.elim))
      have HOva := Lib.hid (HOv.out.keep hka (fun _ _ h => h))
      have HK8a := Lib.hid (HK8r.out.trans hka)
      clear hka hcv HFi
      go_wp2_with fail
      refine (HWi.out _).mono ?_
      rintro en wb ⟨rfl, hkb⟩
      have HKb := Lib.hid (HKa.out.trans hkb)
      have HRsb := Lib.hid (HRsa.out.keep hkb (fun h => h))
      have HBzb := Lib.hid (HBza.out.keep hkb (fun h => h))
      have HOvb := Lib.hid (HOva.out.keep hkb (fun _ _ h => h))
      have HK8b := Lib.hid (HK8a.out.trans hkb)
      have hget := (HBta.out.keep hkb (fun _ h => h.elim)).get (vWidth v)
      obtain ⟨x, hx⟩ : ∃ z, getN lj (vWidth v) = z := ⟨_, rfl⟩
      obtain ⟨lx, hlx⟩ : ∃ z, getL lj (vWidth v) = z := ⟨_, rfl⟩
      obtain ⟨eg, heg⟩ : ∃ z, getE lj.length (vWidth v) = z := ⟨_, rfl⟩
      have HSh : Hid (eg ≠ 0 → (onesM names l2 0).2.2 = eg) := Lib.hid (fun h => by rw [← heg] at h ⊢; exact ones6_short HV.out HOn.out h)
      have HMb : Hid (eg = 0 → vMay v x = false → (onesM names l2 0).2.2 = 20) := Lib.hid (fun h h2 => ones6_may HV.out HOn.out (heg.trans h) (by rw [hx]; exact h2))
      have HNx : Hid (eg = 0 → vMay v x = true → onesM (names.take (j + 1)) l2 0 = (vs ++ [x], lx, 0)) := Lib.hid (fun h h2 => by have h3 := ones6_next HV.out HOn.out (heg.trans h) (by rw [hx]; exact h2); rwa [hx, hlx] at h3)
      rw [hx, hlx, heg] at hget
      have HC := Lib.hid hget
      clear hx hlx heg hget hkb HWi
      go_wp2_with fail
      refine HC.out.mono ?_
      rintro en wd ⟨Ad, nd, cd, rfl, hbd, hkd⟩
      have HKd := Lib.hid (HKb.out.trans hkd)
      have HRsd := Lib.hid (HRsb.out.keep hkd (fun h => h))
      have HBzd := Lib.hid (HBzb.out.keep hkd (fun h => h))
      have HBtd := Lib.hid hbd
      have HOvd := Lib.hid (HOvb.out.keep hkd (fun _ _ h => h))
      have HK8d := Lib.hid (HK8b.out.trans hkd)
      clear hbd hkd HC
      by_cases gg : eg = 0
      rotate_left
      · have t0 : (eg != 0) = true := by simpa using gg
        have HR : Hid (DecodeM b = .error eg) := Lib.hid (by have h1 := HSh.out gg; rw [HDo.out, tailM_err (by rw [h1]; exact gg), h1])
        have HX := Lib.hid gg
        clear gg
        have r0 : wd.cell? ⟨w.heap.size, 0, none⟩ = some (.int .i64 0) := HRsd.out.cell 0
        have rf0 := HRsd.out.frozen 0
        have r1 : wd.cell? ⟨w.heap.size, 1, none⟩ = some (.int .i64 0) := HRsd.out.cell 1
        have rf1 := HRsd.out.frozen 1
        have r2 : wd.cell? ⟨w.heap.size, 2, none⟩ = some (.int .i64 0) := HRsd.out.cell 2
        have rf2 := HRsd.out.frozen 2
        have r3 : wd.cell? ⟨w.heap.size, 3, none⟩ = some (.int .i64 0) := HRsd.out.cell 3
        have rf3 := HRsd.out.frozen 3
        have r4 : wd.cell? ⟨w.heap.size, 4, none⟩ = some (.slice none 0 0) := HRsd.out.cell 4
        have rf4 := HRsd.out.frozen 4
        have r5 : wd.cell? ⟨w.heap.size, 5, none⟩ = some (.slice none 0 0) := HRsd.out.cell 5
        have rf5 := HRsd.out.frozen 5
        have y0 : wd.cell? ⟨w.heap.size + 1, 0, none⟩ = some (.int .i64 0) := HBzd.out.cell 0
        have y1 : wd.cell? ⟨w.heap.size + 1, 1, none⟩ = some (.int .i64 0) := HBzd.out.cell 1
        have y2 : wd.cell? ⟨w.heap.size + 1, 2, none⟩ = some (.int .i64 0) := HBzd.out.cell 2
        have y3 : wd.cell? ⟨w.heap.size + 1, 3, none⟩ = some (.int .i64 0) := HBzd.out.cell 3
        have y4 : wd.cell? ⟨w.heap.size + 1, 4, none⟩ = some (.slice none 0 0) := HBzd.out.cell 4
        have y5 : wd.cell? ⟨w.heap.size + 1, 5, none⟩ = some (.slice none 0 0) := HBzd.out.cell 5
        go_wp2_with fail
        (try simp only [Exit.inBlock, Exit.then])
        refine bodyPost_ret (r6_results rfl (p6r_blk HRsd.out _ _ _ _ _ _) _ rfl) rfl ⟨0, 0, 0, 0, none, 0, 0, none, 0, 0, eg, rfl, HKd.out.then_ (p6r_keep _ _ _ _ _ _ _ _) (fun i hi e => by omega), .inr ⟨HR.out, HX.out, rfl, rfl, rfl, rfl, rfl, rfl, rfl, rfl, rfl, rfl⟩⟩
      subst gg
      have t0 : ((0 : Int) != 0) = false := by decide
      go_wp2_with fail
      refine (HMy.out x _).mono ?_
      rintro en we ⟨rfl, hke⟩
      have HKe := Lib.hid (HKd.out.trans hke)
      have HRse := Lib.hid (HRsd.out.keep hke (fun h => h))
      have HBze := Lib.hid (HBzd.out.keep hke (fun h => h))
      have HBte := Lib.hid (HBtd.out.keep hke (fun _ h => h.elim))
      have HOve := Lib.hid (HOvd.out.keep hke (fun _ _ h => h))
      have HK8e := Lib.hid (HK8d.out.trans hke)
      clear hke HMy t0
      cases hm : vMay v x with
      | false =>
        have HR : Hid (DecodeM b = .error 20) := Lib.hid (by have h1 := HMb.out (by first | rfl | trivial) hm; rw [HDo.out, tailM_err (by rw [h1]; decide), h1])
        clear hm
        have r0 : we.cell? ⟨w.heap.size, 0, none⟩ = some (.int .i64 0) := HRse.out.cell 0
        have rf0 := HRse.out.frozen 0
        have r1 : we.cell? ⟨w.heap.size, 1, none⟩ = some (.int .i64 0) := HRse.out.cell 1
        have rf1 := HRse.out.frozen 1
        have r2 : we.cell? ⟨w.heap.size, 2, none⟩ = some (.int .i64 0) := HRse.out.cell 2
        have rf2 := HRse.out.frozen 2
        have r3 : we.cell? ⟨w.heap.size, 3, none⟩ = some (.int .i64 0) := HRse.out.cell 3
        have rf3 := HRse.out.frozen 3
        have r4 : we.cell? ⟨w.heap.size, 4, none⟩ = some (.slice none 0 0) := HRse.out.cell 4
        have rf4 := HRse.out.frozen 4
        have r5 : we.cell? ⟨w.heap.size, 5, none⟩ = some (.slice none 0 0) := HRse.out.cell 5
        have rf5 := HRse.out.frozen 5
        have y0 : we.cell? ⟨w.heap.size + 1, 0, none⟩ = some (.int .i64 0) := HBze.out.cell 0
        have y1 : we.cell? ⟨w.heap.size + 1, 1, none⟩ = some (.int .i64 0) := HBze.out.cell 1
        have y2 : we.cell? ⟨w.heap.size + 1, 2, none⟩ = some (.int .i64 0) := HBze.out.cell 2
        have y3 : we.cell? ⟨w.heap.size + 1, 3, none⟩ = some (.int .i64 0) := HBze.out.cell 3
        have y4 : we.cell? ⟨w.heap.size + 1, 4, none⟩ = some (.slice none 0 0) := HBze.out.cell 4
        have y5 : we.cell? ⟨w.heap.size + 1, 5, none⟩ = some (.slice none 0 0) := HBze.out.cell 5
        go_wp2_with fail
        (try simp only [Exit.inBlock, Exit.then])
        refine bodyPost_ret (r6_results rfl (p6r_blk HRse.out _ _ _ _ _ _) _ rfl) rfl ⟨0, 0, 0, 0, none, 0, 0, none, 0, 0, 20, rfl, HKe.out.then_ (p6r_keep _ _ _ _ _ _ _ _) (fun i hi e => by omega), .inr ⟨HR.out, (by decide), rfl, rfl, rfl, rfl, rfl, rfl, rfl, rfl, rfl, rfl⟩⟩
      | true =>
        have HN2 := Lib.hid (HNx.out (by first | rfl | trivial) hm)
        clear hm
        have hsz : w8.heap.size ≤ (we.alloc (.cells #[.int .i64 x] 3)).heap.size := by have := HK8e.out.size; simp; omega
        go_wp2_with (at_builtin; refine wpList_app _ rfl (.tmp 97) (.tmp 99) _ rfl elemInt w8.heap.size (A := Av) (n := j) (c := cv) (by go_simp) (HOve.out.alloc _) _ (A' := some ⟨we.heap.size, 0, none⟩) (m := 1) (c' := 1) (by go_simp) (Rd.of_blk (n := 1) (cs := [.int .i64 x]) (Blk.new we _ _) rfl) (by simp [Value.oneCell']) (by omega) (by unfold maxLen; omega) hsz ?_; intro A5 c5 w16 hown hk hrow; have hk16 : Keep (InRow Av) we w16 := ((Keep.refl (InRow Av) _).alloc _).trans hk; have HO16 := Lib.hid hown; have HK16 := Lib.hid (HK8e.out.then_ hk16 (fun i hi h => by have := (HOve.out.row h).1; omega)); have HBt16 := Lib.hid (HBte.out.keep hk16 (fun i h => by have h1 := (HOve.out.row h).1; have h2 := HBB.out.2; have h3 := HK38.out.size; omega)); clear hown hk hrow hk16)
        go_roundw
        case measure => simp [intOf]; try omega
        case rel => exact ⟨j + 1, _, _, c5, _, A5, by omega, rfl, rfl, by go_num, Lib.hid ⟨_, _, HK16.out, HBt16.out, HN2.out, by rw [List.map_append]; exact HO16.out⟩⟩
    · obtain rfl : j = names.length := by omega
      have hji : ¬ (names.length : Int) < (names.length : Int) := by omega
      rename World => wq
      have HOnf : Hid (onesM names l2 0 = (vs, lj, 0)) := Lib.hid (by have h1 := HOn.out; rwa [List.take_length] at h1)
      have HDt : Hid (DecodeM b = tailM b id (vs, lj, 0)) := Lib.hid (by rw [HDo.out, HOnf.out])
      have HUs2 := Lib.hid (HUs.out vs lj HOnf.out)
      have HVl : Hid (vs.length = names.length) := Lib.hid (by have h1 := HOv.out.len; simpa using h1)
      have HVi : Hid (∀ x ∈ vs, i64 x) := Lib.hid (ones_i64 HOnf.out)
      have HLj : Hid (lj.length = nb ∧ nb ≤ 8 * n) := Lib.hid (by
        have h1 := HBtr.out.len
        refine ⟨h1, ?_⟩
        have h2 := onesM_le6 names l2 0
        rw [HOnf.out] at h2
        have h3 := HL2n.out
        simp only at h2
        omega)
      clear HOn HDo HUs HOnf
      go_wp2_with fail
      refine (rup6_any id _).mono ?_
      rintro en wu ⟨rfl, hku⟩
      have HKu := Lib.hid (HKr.out.trans hku)
      have HRsu := Lib.hid (HRsr.out.keep hku (fun h => h))
      have HBzu := Lib.hid (HBzr.out.keep hku (fun h => h))
      have HOvu := Lib.hid (HOv.out.keep hku (fun _ _ h => h))
      have HK8u := Lib.hid (HK8r.out.trans hku)
      have HKru := Lib.hid hku
      clear hku
      obtain ⟨adv, a0, hAv, _, ha0, hc0⟩ := HOvu.out.rd.at1 (k := 0) (by have := HHl.out; have h2 := headM_ge id; omega)
      have HA0 := Lib.hid ha0
      have h0n : 0 < names.length := by have := HHl.out; have h2 := headM_ge id; omega
      clear ha0
      subst hAv
      have hc0' : wu.cell? adv = some (.int .i64 a0) := by have h1 := hc0; rwa [show adv.add 0 = adv from by unfold Addr.add; split <;> simp_all] at h1
      have z0 : (wu.alloc (.cells #[.int .i64 0, .int .i64 0, .int .i64 0, .int .i64 0, .slice none 0 0, .slice none 0 0] 25)).cell? ⟨wu.heap.size, 0, none⟩ = some (.int .i64 0) := (Blk.new wu 25 #[.int .i64 0, .int .i64 0, .int .i64 0, .int .i64 0, .slice none 0 0, .slice none 0 0]).cell 0
      have zf0 := (Blk.new wu 25 #[.int .i64 0, .int .i64 0, .int .i64 0, .int .i64 0, .slice none 0 0, .slice none 0 0]).frozen 0
      have z1 : (wu.alloc (.cells #[.int .i64 0, .int .i64 0, .int .i64 0, .int .i64 0, .slice none 0 0, .slice none 0 0] 25)).cell? ⟨wu.heap.size, 1, none⟩ = some (.int .i64 0) := (Blk.new wu 25 #[.int .i64 0, .int .i64 0, .int .i64 0, .int .i64 0, .slice none 0 0, .slice none 0 0]).cell 1
      have zf1 := (Blk.new wu 25 #[.int .i64 0, .int .i64 0, .int .i64 0, .int .i64 0, .slice none 0 0, .slice none 0 0]).frozen 1
      have z2 : (wu.alloc (.cells #[.int .i64 0, .int .i64 0, .int .i64 0, .int .i64 0, .slice none 0 0, .slice none 0 0] 25)).cell? ⟨wu.heap.size, 2, none⟩ = some (.int .i64 0) := (Blk.new wu 25 #[.int .i64 0, .int .i64 0, .int .i64 0, .int .i64 0, .slice none 0 0, .slice none 0 0]).cell 2
      have zf2 := (Blk.new wu 25 #[.int .i64 0, .int .i64 0, .int .i64 0, .int .i64 0, .slice none 0 0, .slice none 0 0]).frozen 2
      have z3 : (wu.alloc (.cells #[.int .i64 0, .int .i64 0, .int .i64 0, .int .i64 0, .slice none 0 0, .slice none 0 0] 25)).cell? ⟨wu.heap.size, 3, none⟩ = some (.int .i64 0) := (Blk.new wu 25 #[.int .i64 0, .int .i64 0, .int .i64 0, .int .i64 0, .slice none 0 0, .slice none 0 0]).cell 3
      have zf3 := (Blk.new wu 25 #[.int .i64 0, .int .i64 0, .int .i64 0, .int .i64 0, .slice none 0 0, .slice none 0 0]).frozen 3
      have z4 : (wu.alloc (.cells #[.int .i64 0, .int .i64 0, .int .i64 0, .int .i64 0, .slice none 0 0, .slice none 0 0] 25)).cell? ⟨wu.heap.size, 4, none⟩ = some (.slice none 0 0) := (Blk.new wu 25 #[.int .i64 0, .int .i64 0, .int .i64 0, .int .i64 0, .slice none 0 0, .slice none 0 0]).cell 4
      have zf4 := (Blk.new wu 25 #[.int .i64 0, .int .i64 0, .int .i64 0, .int .i64 0, .slice none 0 0, .slice none 0 0]).frozen 4
      have z5 : (wu.alloc (.cells #[.int .i64 0, .int .i64 0, .int .i64 0, .int .i64 0, .slice none 0 0, .slice none 0 0] 25)).cell? ⟨wu.heap.size, 5, none⟩ = some (.slice none 0 0) := (Blk.new wu 25 #[.int .i64 0, .int .i64 0, .int .i64 0, .int .i64 0, .slice none 0 0, .slice none 0 0]).cell 5
      have zf5 := (Blk.new wu 25 #[.int .i64 0, .int .i64 0, .int .i64 0, .int .i64 0, .slice none 0 0, .slice none 0 0]).frozen 5
      go_upto_region 30 with (fail)
      clear z0 z1 z2 z3 z4 z5 zf0 zf1 zf2 zf3 zf4 zf5 hc0 hc0' h0n
      obtain ⟨wm, hwm⟩ : ∃ V : World, wu.alloc (.cells #[.int .i64 id, .int .i64 a0, .int .i64 0, .int .i64 0, .slice none 0 0, .slice none 0 0] 25) = V := ⟨_, rfl⟩
      have km : Keep Never wu wm := by rw [← hwm]; exact (Keep.refl _ _).alloc _
      have bm0 := Blk.new wu 25 #[.int .i64 id, .int .i64 a0, .int .i64 0, .int .i64 0, .slice none 0 0, .slice none 0 0]
      rw [hwm] at bm0
      (try rw [hwm])
      obtain ⟨bm, hbm⟩ : ∃ q, wu.heap.size = q := ⟨_, rfl⟩
      rw [hbm] at bm0
      (try rw [hbm])
      have HKm := Lib.hid (HKu.out.trans km)
      have HRsm := Lib.hid (HRsu.out.keep km (fun h => h))
      have HBzm := Lib.hid (HBzu.out.keep km (fun h => h))
      have HKum := Lib.hid km
      have HOvm := Lib.hid (HOvu.out.keep km (fun _ _ h => h))
      have HK8m := Lib.hid (HK8u.out.trans km)
      have HBm := Lib.hid bm0
      have HLt : Hid (bm < wm.heap.size ∧ w8.heap.size ≤ bm ∧ w.heap.size + 1 < bm) := Lib.hid ⟨bm0.lt, by rw [← hbm]; exact HK8u.out.size, by have h1 := HBz8.out.lt; have h2 := HK8u.out.size; omega⟩
      clear km bm0 hwm hbm
      go_upto_if 109 with fail
      go_cut [20] (fun s20 wx => s20 = .bool (upM id) ∧ ∃ (t' ack' of' : Int) (VS : List Int) (A2 : Option Addr) (n2 c2 : Nat), Hid (partsM id vs = (t', ack', of', VS) ∧ Keep (fun k => k = bm) wm wx ∧ Blk wx bm 25 #[.int .i64 id, .int .i64 t', .int .i64 ack', .int .i64 of', .slice A2 n2 c2, .slice none 0 0] ∧ Rd wx wm.heap.size 1 A2 n2 (VS.map (.int .i64)) ∧ VS.length = n2 ∧ n2 ≤ c2 ∧ n2 ≤ 10 ∧ (∀ x ∈ VS, i64 x) ∧ ∀ q, InRow A2 q → w8.heap.size ≤ q ∧ q ≠ bm))
      case first =>
        cases hu : upM id with
        | true =>
          have hl2 : 2 ≤ names.length := by have := HHl.out; have h2 := headM_ge id; omega
          obtain ⟨a1', vs2, hvs⟩ : ∃ y r, vs = a0 :: y :: r := by
            have h1 := HVl.out
            have h2 := HA0.out
            rcases vs with _ | ⟨p, _ | ⟨q, r⟩⟩
            · simp at h1; omega
            · simp at h1; omega
            · simp only [List.getElem?_cons_zero, Option.some.injEq] at h2
              subst h2
              exact ⟨q, r, rfl⟩
          obtain ⟨adx, a1, hAx, _, ha1, hc1⟩ := HOvm.out.rd.at1 (k := 1) (by omega)
          obtain rfl : adv = adx := by injection hAx
          obtain rfl : a1' = a1 := by rw [hvs] at ha1; simpa using ha1
          have hc1 : wm.cell? ⟨adv.block, adv.off + 1, none⟩ = some (.int .i64 a1') := hc1
          have HVs := Lib.hid hvs
          have mf3 := HBm.out.frozen 3
          have m3 : wm.cell? ⟨bm, 3, none⟩ = some (.int .i64 0) := HBm.out.cell 3
          clear ha1 hvs hAx
          go_upto_region 32 with (fail)
          obtain ⟨wx, hwx⟩ : ∃ V : World, wm.setCell ⟨bm, 3, none⟩ (.int .i64 a1') = V := ⟨_, rfl⟩
          rw [hwx]
          have kx : Keep (fun i => i = bm) wm wx := by rw [← hwx]; exact (Keep.refl (fun i => i = bm) wm).set_ (p := ⟨bm, 3, none⟩) (.inl rfl) _
          have HBx : Hid (Blk wx bm 25 #[.int .i64 id, .int .i64 a0, .int .i64 0, .int .i64 a1', .slice none 0 0, .slice none 0 0]) := Lib.hid (by rw [← hwx]; have := HBm.out.set_ 3 (.int .i64 a1'); simpa using this)
          have HKx := Lib.hid kx
          clear hwx kx m3 mf3 hc1
          have mf4 := HBx.out.frozen 4
          have m4 : wx.cell? ⟨bm, 4, none⟩ = some (.slice none 0 0) := HBx.out.cell 4
          go_wp2_with (refine wpList_from rfl (.tmp 114) (.const (.int .i64 2)) _ rfl Tryd.underlying22 Tryd.sizeOf3 (some adv) names.length cv 2 (by go_simp) 2 (by go_simp) rfl hl2 ?_; intro A2 c2 HS)
          go_meet
          have HRs2 := Lib.hid (HS.out.1 wm _ _ HOvm.out.cap_le HOvm.out.rd)
          have HCs2 := Lib.hid (HS.out.2.1 HOvm.out.cap_le)
          have HRw := Lib.hid HS.out.2.2.2
          have ky : Keep (fun i => i = bm) wx (wx.setCell ⟨bm, 4, none⟩ (.slice A2 (names.length - 2) c2)) := (Keep.refl (fun i => i = bm) wx).set_ (p := ⟨bm, 4, none⟩) (.inl rfl) _
          refine ⟨by first | rfl | rw [hu], a0, 0, a1', vs2, A2, names.length - 2, c2, Lib.hid ⟨by rw [HVs.out]; exact parts_up hu _ _ _, HKx.out.trans ky, ?_, ?_, ?_, HCs2.out, by omega, fun x hx => HVi.out x (by rw [HVs.out]; simp [hx]), fun q hq => ⟨(HOvm.out.row (HRw.out q hq)).1, HOvm.out.ne_blk HBm.out (by decide) q (HRw.out q hq)⟩⟩⟩
          · have := HBx.out.set_ 4 (.slice A2 (names.length - 2) c2); simpa using this
          · have h1 := HRs2.out
            rw [HVs.out] at h1
            exact Rd.keep_far (by simpa using h1) (HKx.out.trans ky) (fun ad e _ hs => HOvm.out.ne_blk HBm.out (by decide) ad.block (HRw.out _ ⟨ad, e, rfl⟩) hs)
          · have h1 := HVl.out; rw [HVs.out] at h1; simp at h1; omega
        | false =>
          have hl3 : 3 ≤ names.length := by have h1 := headM_down hu; have := HHl.out; omega
          obtain ⟨a1', a2', vs2, hvs⟩ : ∃ y z r, vs = a0 :: y :: z :: r := by
            have h1 := HVl.out
            have h2 := HA0.out
            rcases vs with _ | ⟨p, _ | ⟨q, _ | ⟨z, r⟩⟩⟩
            · simp at h1; omega
            · simp at h1; omega
            · simp at h1; omega
            · simp only [List.getElem?_cons_zero, Option.some.injEq] at h2
              subst h2
              exact ⟨q, z, r, rfl⟩
          obtain ⟨adx, a1, hAx, _, ha1, hc1⟩ := HOvm.out.rd.at1 (k := 1) (by omega)
          obtain rfl : adv = adx := by injection hAx
          obtain rfl : a1' = a1 := by rw [hvs] at ha1; simpa using ha1
          have hc1 : wm.cell? ⟨adv.block, adv.off + 1, none⟩ = some (.int .i64 a1') := hc1
          have HVs := Lib.hid hvs
          have mf2 := HBm.out.frozen 2
          have m2 : wm.cell? ⟨bm, 2, none⟩ = some (.int .i64 0) := HBm.out.cell 2
          have h1n : 1 < names.length := by omega
          clear ha1 hvs hAx
          go_upto_region 34 with (fail)
          obtain ⟨wx, hwx⟩ : ∃ V : World, wm.setCell ⟨bm, 2, none⟩ (.int .i64 a1') = V := ⟨_, rfl⟩
          rw [hwx]
          have kx : Keep (fun i => i = bm) wm wx := by rw [← hwx]; exact (Keep.refl (fun i => i = bm) wm).set_ (p := ⟨bm, 2, none⟩) (.inl rfl) _
          have HBx : Hid (Blk wx bm 25 #[.int .i64 id, .int .i64 a0, .int .i64 a1', .int .i64 0, .slice none 0 0, .slice none 0 0]) := Lib.hid (by rw [← hwx]; have := HBm.out.set_ 2 (.int .i64 a1'); simpa using this)
          have HKx := Lib.hid kx
          have HOvx := Lib.hid (HOvm.out.keep kx (HOvm.out.ne_blk HBm.out (by decide)))
          clear hwx kx m2 mf2 hc1
          obtain ⟨adx, a2, hAx, _, ha2, hc2⟩ := HOvx.out.rd.at1 (k := 2) (by omega)
          obtain rfl : adv = adx := by injection hAx
          obtain rfl : a2' = a2 := by rw [HVs.out] at ha2; simpa using ha2
          have hc2 : wx.cell? ⟨adv.block, adv.off + 2, none⟩ = some (.int .i64 a2') := hc2
          have mf3 := HBx.out.frozen 3
          have m3 : wx.cell? ⟨bm, 3, none⟩ = some (.int .i64 0) := HBx.out.cell 3
          have h2n : 2 < names.length := by omega
          clear ha2 hAx
          go_upto_region 35 with (fail)
          obtain ⟨wy, hwy⟩ : ∃ V : World, wx.setCell ⟨bm, 3, none⟩ (.int .i64 a2') = V := ⟨_, rfl⟩
          rw [hwy]
          have ky : Keep (fun i => i = bm) wx wy := by rw [← hwy]; exact (Keep.refl (fun i => i = bm) wx).set_ (p := ⟨bm, 3, none⟩) (.inl rfl) _
          have HBy2 : Hid (Blk wy bm 25 #[.int .i64 id, .int .i64 a0, .int .i64 a1', .int .i64 a2', .slice none 0 0, .slice none 0 0]) := Lib.hid (by rw [← hwy]; have := HBx.out.set_ 3 (.int .i64 a2'); simpa using this)
          have HKy := Lib.hid ky
          clear hwy ky m3 mf3 hc2
          have mf4 := HBy2.out.frozen 4
          have m4 : wy.cell? ⟨bm, 4, none⟩ = some (.slice none 0 0) := HBy2.out.cell 4
          go_wp2_with (refine wpList_from rfl (.tmp 125) (.const (.int .i64 3)) _ rfl Tryd.underlying22 Tryd.sizeOf3 (some adv) names.length cv 3 (by go_simp) 3 (by go_simp) rfl hl3 ?_; intro A2 c2 HS)
          go_meet
          have HRs2 := Lib.hid (HS.out.1 wm _ _ HOvm.out.cap_le HOvm.out.rd)
          have HCs2 := Lib.hid (HS.out.2.1 HOvm.out.cap_le)
          have HRw := Lib.hid HS.out.2.2.2
          have kz : Keep (fun i => i = bm) wy (wy.setCell ⟨bm, 4, none⟩ (.slice A2 (names.length - 3) c2)) := (Keep.refl (fun i => i = bm) wy).set_ (p := ⟨bm, 4, none⟩) (.inl rfl) _
          refine ⟨by first | rfl | rw [hu], a0, a1', a2', vs2, A2, names.length - 3, c2, Lib.hid ⟨by rw [HVs.out]; exact parts_down hu _ _ _ _, (HKx.out.trans HKy.out).trans kz, ?_, ?_, ?_, HCs2.out, by omega, fun x hx => HVi.out x (by rw [HVs.out]; simp [hx]), fun q hq => ⟨(HOvm.out.row (HRw.out q hq)).1, HOvm.out.ne_blk HBm.out (by decide) q (HRw.out q hq)⟩⟩⟩
          · have := HBy2.out.set_ 4 (.slice A2 (names.length - 3) c2); simpa using this
          · have h1 := HRs2.out
            rw [HVs.out] at h1
            exact Rd.keep_far (by simpa using h1) ((HKx.out.trans HKy.out).trans kz) (fun ad e _ hs => HOvm.out.ne_blk HBm.out (by decide) ad.block (HRw.out _ ⟨ad, e, rfl⟩) hs)
          · have h1 := HVl.out; rw [HVs.out] at h1; simp at h1; omega
      case rest =>
      obtain ⟨hs20, t', ack', of', VS, A2, n2, c2, hcc⟩ := hcut
      subst hs20
      rename World => wc
      obtain ⟨hpa, hkc, hbc, hrc, hlc, hcc2, hn2, hvi, hvr⟩ := hcc.out
      have HVr := Lib.hid hvr
      have HPa := Lib.hid hpa
      have HKmc := Lib.hid hkc
      have HBc := Lib.hid hbc
      have HVc := Lib.hid (And.intro hrc (And.intro hlc (And.intro hcc2 hvi)))
      have HKc := Lib.hid (HKm.out.then_ hkc (fun i hi e => by have := HLt.out; omega))
      have HRsc := Lib.hid (HRsm.out.keep hkc (fun h => by have := HLt.out; omega))
      have HBzc := Lib.hid (HBzm.out.keep hkc (fun h => by have := HLt.out; omega))
      have HRoc := Lib.hid (((HRo8.out.keep (HK8r.out.trans (HKru.out.trans HKum.out)) (fun h => h))).keep hkc (fun h => by have h1 := HLt.out; have h2 := HRo8.out.lt; omega))
      clear hpa hkc hbc hrc hlc hcc2 hvi hvr hcc
      have HT : Hid (DecodeM b = match packsG b (8 * n) (8 * (n : Int) - nb) with
          | .error e => .error e
          | .ok s =>
            if blankM b (usedM id s.1) = false then .error 8
            else if fitsM must may (s.1.map (·.1)) = false then .error 50
            else .ok (id, t', ack', of', VS, s.1)) := Lib.hid (by
        rw [HDt.out, tail6, HPa.out, HF.out, HBy.out.2.1, HLj.out.1]
        rfl)
      have HU2 : Hid (∀ (Q : List (Int × List Int)) (e : Int), packsG b (8 * n) (8 * (n : Int) - nb) = .ok (Q, e) → usedM id Q = e ∧ 0 ≤ e ∧ e ≤ 8 * (n : Int) ∧ 8 * (n : Int) < e + 8) := Lib.hid (fun Q e hq => by
        have h1 := HUs2.out Q e
        rw [HBy.out.2.1, HLj.out.1] at h1
        exact h1 hq)
      have hnb : nb ≤ 8 * n := HLj.out.2
      have hrowb : Hid (∀ W, Keep Never w W → Rd W W.heap.size 1 A n (b.map u8v)) := Lib.hid (fun W h => (HBy.out.1.keep h (fun _ h => h.elim)).more (Nat.le_trans HBb.out h.size))
      clear HDt HUs2 HPa
      have HRoL : Hid (br ≠ bm) := Lib.hid (by have h1 := HRo8.out.lt; have h2 := HLt.out; omega)
      have HKmb : Hid (wm.heap.size ≤ wc.heap.size) := Lib.hid HKmc.out.size
      obtain ⟨z0n, hz0⟩ : ∃ z : Nat, 8 * n - nb = z := ⟨_, rfl⟩
      have hz0' : 8 * (n : Int) - (nb : Int) = (z0n : Int) := by omega
      have hz08 : z0n ≤ 8 * n := by omega
      rw [hz0'] at HT HU2
      have Hz0 := Lib.hid hz0'
      clear hz0
      go_wp2_with fail
      (try rw [Hz0.out])
      go_loopw [22] (fun z wi => ∃ (zz f c8 : Nat) (P : List (Int × List Int)) (A8 : Option Addr) (css : List (List Value)), z = .int .i64 zz ∧ zz ≤ 8 * n ∧ Hid (Keep Never w wi ∧ Keep (fun k => k = bm) wc wi ∧ Blk wi bm 25 #[.int .i64 id, .int .i64 t', .int .i64 ack', .int .i64 of', .slice A2 n2 c2, .slice A8 P.length c8] ∧ Own wi wc.heap.size 39 2 A8 P.length c8 css.flatten ∧ All2 (PkOk wi A8 wc.heap.size) P css ∧ (∀ p ∈ P, p.2.length ≤ 8200) ∧
          packsG b (8 * n) (z0n : Int) = preG P (packsG b f (zz : Int)) ∧ 8 * (n : Int) - zz ≤ f ∧ 8 * P.length ≤ zz)) (fun z _ => 8 * n - (intOf z).toNat)
      case atStart => exact ⟨z0n, 8 * n, 0, [], none, [], by first | rfl | (congr 1; omega), hz08, Lib.hid ⟨HKc.out, Keep.refl _ _, HBc.out, Own.nil _ _ _ _, trivial, by simp, by rw [preG_nil], by omega, by simp⟩⟩
      case round =>
        obtain ⟨zz, f, c8, P, A8, css, rfl, hz8, HJ⟩ := hrel
        obtain ⟨hkr, hkb, hbm, ho8, hall, hP, hpk, hf, hPz⟩ := HJ.out
        have HKi := Lib.hid hkr
        have HKbi := Lib.hid hkb
        have HBmi := Lib.hid hbm
        have H8 := Lib.hid ho8
        have Hall := Lib.hid hall
        have HP := Lib.hid hP
        have Hpk := Lib.hid hpk
        have HRsi := Lib.hid (HRsc.out.keep hkb (fun h => by have := HLt.out; omega))
        have HBzi := Lib.hid (HBzc.out.keep hkb (fun h => by have := HLt.out; omega))
        have HP1 : Hid (P.length ≤ 1500) := Lib.hid (by omega)
        have HZ := Lib.hid (And.intro hz8 (And.intro hf hPz))
        have hP1500 : P.length ≤ 1500 := HP1.out
        clear HJ hkr hkb hbm ho8 hall hP hpk
        rename World => wi
        by_cases h8z : 8 ≤ 8 * (n : Int) - (zz : Int)
        · obtain ⟨f', hs1, hs2⟩ := packsG_step (b := b) (f := f) (z := (zz : Int)) (P := P) (by rw [HBy.out.2.1]; exact h8z) (by rw [HBy.out.2.1]; exact hf)
          have HS1 := Lib.hid hs1
          have HS2 := Lib.hid hs2
          have hGet : Hid (Calls Tryd.prog 50 #[.slice A n c, .int .i64 zz] wi (GRet wi (GetM b (zz : Int)))) := Lib.hid (rGet_any b zz A n c wi (hrowb.out wi HKi.out) HBy.out.2.1 HBy.out.2.2 (by omega))
          clear hs1 hs2 hf hPz
          go_wp2_with fail
          refine hGet.out.mono ?_
          rintro en w7 ⟨pid, A9, n9, c9, d9, x9, rfl, hk7, hpo⟩
          have HK7 := Lib.hid hk7
          clear hGet
          unfold packCells
          go_upto_region 39 with (fail)
          obtain ⟨wp, hwp⟩ : ∃ V : World, w7.alloc (.cells #[.int .i64 pid, .slice A9 n9 c9] 39) = V := ⟨_, rfl⟩
          have kp : Keep Never w7 wp := by rw [← hwp]; exact (Keep.refl _ _).alloc _
          have bp0 := Blk.new w7 39 #[.int .i64 pid, .slice A9 n9 c9]
          rw [hwp] at bp0
          (try rw [hwp])
          obtain ⟨bp, hbp⟩ : ∃ q, w7.heap.size = q := ⟨_, rfl⟩
          rw [hbp] at bp0
          (try rw [hbp])
          have HKp := Lib.hid (HKi.out.trans (hk7.trans kp))
          have HRsp := Lib.hid (HRsi.out.keep (hk7.trans kp) (fun h => h))
          have HBzp := Lib.hid (HBzi.out.keep (hk7.trans kp) (fun h => h))
          have HBmp := Lib.hid (HBmi.out.keep (hk7.trans kp) (fun h => h))
          have H8p := Lib.hid (H8.out.keep (hk7.trans kp) (fun _ _ h => h))
          have HBp := Lib.hid bp0
          have HK7p := Lib.hid kp
          clear hk7 kp bp0 hwp hbp
          rcases hpo with ⟨V, hg, rfl, hn9, hr9, hnc9, hcm9, hrow9⟩ | ⟨hg, hx9, rfl, rfl, rfl, rfl, rfl⟩
          rotate_left
          · have x1 : (x9 != 0) = true := by simpa using hx9
            have HR : Hid (DecodeM b = .error x9) := Lib.hid (by rw [HT.out, Hpk.out, HS2.out _ hg])
            have HX := Lib.hid hx9
            clear hg hx9
            have r0 : wp.cell? ⟨w.heap.size, 0, none⟩ = some (.int .i64 0) := HRsp.out.cell 0
            have rf0 := HRsp.out.frozen 0
            have r1 : wp.cell? ⟨w.heap.size, 1, none⟩ = some (.int .i64 0) := HRsp.out.cell 1
            have rf1 := HRsp.out.frozen 1
            have r2 : wp.cell? ⟨w.heap.size, 2, none⟩ = some (.int .i64 0) := HRsp.out.cell 2
            have rf2 := HRsp.out.frozen 2
            have r3 : wp.cell? ⟨w.heap.size, 3, none⟩ = some (.int .i64 0) := HRsp.out.cell 3
            have rf3 := HRsp.out.frozen 3
            have r4 : wp.cell? ⟨w.heap.size, 4, none⟩ = some (.slice none 0 0) := HRsp.out.cell 4
            have rf4 := HRsp.out.frozen 4
            have r5 : wp.cell? ⟨w.heap.size, 5, none⟩ = some (.slice none 0 0) := HRsp.out.cell 5
            have rf5 := HRsp.out.frozen 5
            have y0 : wp.cell? ⟨w.heap.size + 1, 0, none⟩ = some (.int .i64 0) := HBzp.out.cell 0
            have y1 : wp.cell? ⟨w.heap.size + 1, 1, none⟩ = some (.int .i64 0) := HBzp.out.cell 1
            have y2 : wp.cell? ⟨w.heap.size + 1, 2, none⟩ = some (.int .i64 0) := HBzp.out.cell 2
            have y3 : wp.cell? ⟨w.heap.size + 1, 3, none⟩ = some (.int .i64 0) := HBzp.out.cell 3
            have y4 : wp.cell? ⟨w.heap.size + 1, 4, none⟩ = some (.slice none 0 0) := HBzp.out.cell 4
            have y5 : wp.cell? ⟨w.heap.size + 1, 5, none⟩ = some (.slice none 0 0) := HBzp.out.cell 5
            go_wp2_with fail
            (try simp only [Exit.inBlock, Exit.then])
            refine bodyPost_ret (r6_results rfl (p6r_blk HRsp.out _ _ _ _ _ _) _ rfl) rfl ⟨0, 0, 0, 0, none, 0, 0, none, 0, 0, x9, rfl, HKp.out.then_ (p6r_keep _ _ _ _ _ _ _ _) (fun i hi e => by omega), .inr ⟨HR.out, HX.out, rfl, rfl, rfl, rfl, rfl, rfl, rfl, rfl, rfl, rfl⟩⟩
          · obtain ⟨g1, g2, g3, g4, g5, g6, g7⟩ := HS1.out pid V d9 hg
            rw [HBy.out.2.1] at g3 g4
            obtain ⟨z', rfl⟩ : ∃ z' : Nat, d9 = z' := ⟨d9.toNat, by omega⟩
            have Hg1 := Lib.hid g1
            have Hz' := Lib.hid (And.intro g2 (And.intro g3 g4))
            have hpk7 : PkOk w7 A8 wc.heap.size (pid, V) [.int .i64 pid, .slice A9 n9 c9] := ⟨A9, n9, c9, rfl, g7, hr9, hn9.symm, hnc9, hcm9, g6, fun h0 k hk => ⟨by
              have h1 := hrow9 k hk; have h2 := HKbi.out.size; omega, fun h => by
              have h1 := hrow9 k hk; have h2 := H8.out.row h; omega, by
              obtain ⟨ad', e', hb', _⟩ := hr9.2 h0
              obtain ⟨ad, e, rfl⟩ := hk
              rw [e'] at e
              injection e with e
              subst e
              exact hb'⟩⟩
            have Hpk7 := Lib.hid hpk7
            have HV8 : Hid (V.length ≤ 8200) := Lib.hid g5
            clear g1 g2 g3 g4 g5 g6 g7 hpk7 hr9 hnc9 hcm9 hrow9 hg hn9
            have t0 : ((0 : Int) != 0) = false := by decide
            have q5 : wp.cell? ⟨bm, 5, none⟩ = some (.slice A8 P.length c8) := HBmp.out.cell 5
            have qf5 := HBmp.out.frozen 5
            have p0 : wp.cell? ⟨bp, 0, none⟩ = some (.int .i64 pid) := HBp.out.cell 0
            have p1 : wp.cell? ⟨bp, 1, none⟩ = some (.slice A9 n9 c9) := HBp.out.cell 1
            have hsz : wc.heap.size ≤ (wp.alloc (.cells #[.int .i64 pid, .slice A9 n9 c9] 39)).heap.size := by have h1 := HKbi.out.size; have h2 := HK7.out.size; have h3 := HK7p.out.size; simp; omega
            go_wp2_with (at_builtin; refine wpList_app _ rfl (.tmp 152) (.tmp 154) _ rfl elemPk wc.heap.size (A := A8) (n := P.length) (c := c8) (by go_simp) (H8p.out.alloc _) _ (A' := some ⟨wp.heap.size, 0, none⟩) (m := 1) (c' := 1) (news := [.int .i64 pid, .slice A9 n9 c9]) (by go_simp) (Rd.of_blk (n := 1) (cs := [.int .i64 pid, .slice A9 n9 c9]) (Blk.new wp _ _) rfl) (by simp [Value.oneCell']) (by omega) (by unfold maxLen; omega) hsz ?_; intro A10 c10 w10 hown hk hrow; have hk10 : Keep (InRow A8) wp w10 := ((Keep.refl (InRow A8) _).alloc _).trans hk; have HO10 := Lib.hid hown; have HR10 := Lib.hid hrow; have HK10 := Lib.hid hk10; have HBm10 := Lib.hid (HBmp.out.keep hk10 (fun h => H8p.out.ne_blk HBmp.out (by decide) _ h rfl)); have q10 := HBm10.out.cell 5; have f10 := HBm10.out.frozen 5; clear hown hk hrow hk10)
            have HF2 : Hid (Keep (fun k => k = bm) w10 (w10.setCell ⟨bm, 5, none⟩ (.slice A10 (P.length + 1) c10))) := Lib.hid ((Keep.refl (fun k => k = bm) w10).set_ (p := ⟨bm, 5, none⟩) (.inl rfl) _)
            have HBm11 : Hid (Blk (w10.setCell ⟨bm, 5, none⟩ (.slice A10 (P.length + 1) c10)) bm 25 #[.int .i64 id, .int .i64 t', .int .i64 ack', .int .i64 of', .slice A2 n2 c2, .slice A10 (P.length + 1) c10]) := Lib.hid (by have := HBm10.out.set_ 5 (.slice A10 (P.length + 1) c10); simpa using this)
            have HO11 : Hid (Own (w10.setCell ⟨bm, 5, none⟩ (.slice A10 (P.length + 1) c10)) wc.heap.size 39 2 A10 (P.length + 1) c10 (css ++ [([.int .i64 pid, .slice A9 n9 c9] : List Value)]).flatten) := Lib.hid (by
              have h1 := HO10.out.far (p := ⟨bm, 5, none⟩) (HO10.out.ne_blk HBm10.out (by decide)) (.slice A10 (P.length + 1) c10)
              rw [List.flatten_append]
              simpa using h1)
            have kA : Keep (fun k => InRow A8 k ∨ k = bm) w7 (w10.setCell ⟨bm, 5, none⟩ (.slice A10 (P.length + 1) c10)) := ((HK7p.out.mono (fun _ _ h => h.elim)).trans (HK10.out.mono (fun _ _ h => .inl h))).trans (HF2.out.mono (fun _ _ h => .inr h))
            have HKw : Hid (Keep Never w (w10.setCell ⟨bm, 5, none⟩ (.slice A10 (P.length + 1) c10))) := Lib.hid ((HKi.out.trans HK7.out).then_ kA (fun i hi h => by rcases h with h | h; have := (H8.out.row h).1; have h2 := HKc.out.size; omega; have := HLt.out; omega))
            have HKwb : Hid (Keep (fun k => k = bm) wc (w10.setCell ⟨bm, 5, none⟩ (.slice A10 (P.length + 1) c10))) := Lib.hid ((HKbi.out.trans (HK7.out.mono (fun _ _ h => h.elim))).then_ kA (fun i hi h => by rcases h with h | h; (have := (H8.out.row h).1; omega); exact h))
            have h8r : ∀ k, InRow A8 k → wc.heap.size ≤ k ∧ k < wi.heap.size := fun k h => H8.out.row h
            have hs7 := HK7.out.size
            have hs7p := HK7p.out.size
            have hbmc : bm < wc.heap.size := by have h1 := HLt.out; have h2 := HKmc.out.size; omega
            have hA10 : ∀ k, InRow A10 k → InRow A8 k ∨ w7.heap.size ≤ k := fun k h => (HR10.out k h).imp (fun h => h) (fun h => by simp at h; omega)
            have HAll : Hid (All2 (PkOk (w10.setCell ⟨bm, 5, none⟩ (.slice A10 (P.length + 1) c10)) A10 wc.heap.size) (P ++ [(pid, V)]) (css ++ [([.int .i64 pid, .slice A9 n9 c9] : List Value)])) := by
              refine Lib.hid (All2.app (Hall.out.imp fun p cs h => ?_) ⟨?_, trivial⟩)
              · refine h.step ((HK7.out.mono (fun _ _ h => h.elim)).trans kA) (fun k h => ?_) (fun k h => (hA10 k h).imp (fun h => h) (fun h => by omega))
                rcases h with h | h
                · exact .inl h
                · right; left; omega
              · refine Hpk7.out.step kA (fun k h => ?_) hA10
                rcases h with h | h
                · exact .inl h
                · right; left; omega
            have HPn : Hid (∀ p ∈ P ++ [(pid, V)], p.2.length ≤ 8200) := Lib.hid (fun p hp => by
              rcases List.mem_append.1 hp with hp | hp
              · exact HP.out p hp
              · rw [List.mem_singleton.1 hp]; exact HV8.out)
            have HL : Hid ((P ++ [(pid, V)]).length = P.length + 1) := Lib.hid (by simp)
            clear kA h8r hs7 hs7p hA10 q5 qf5 p0 p1 q10 f10
            go_roundw
            case rel => exact ⟨z', f', c10, P ++ [(pid, V)], A10, css ++ [([.int .i64 pid, .slice A9 n9 c9] : List Value)], rfl, by have := Hz'.out.2.2; omega, Lib.hid (by rw [HL.out]; exact ⟨HKw.out, HKwb.out, HBm11.out, HO11.out, HAll.out, HPn.out, by rw [Hpk.out, Hg1.out], Hz'.out.2.1, by have h1 := HZ.out.2.2; have h2 := Hz'.out.1; omega⟩)⟩
            case measure => have h1 := Hz'.out.1; have h2 := Hz'.out.2.2; simp [intOf]; omega
        · have hpkz : packsG b (8 * n) (z0n : Int) = .ok (P, (zz : Int)) := by
            rw [Hpk.out, packsG_none (by rw [HBy.out.2.1]; exact h8z)]
            simp [preG]
          have Hpz := Lib.hid hpkz
          obtain ⟨hu0, hu1, hu2, hu3⟩ := HU2.out P zz hpkz
          have HUz := Lib.hid (And.intro hu0 hu3)
          have h8z' : 8 * (n : Int) - (zz : Int) < 8 := by omega
          have HC := Lib.hid (rbits_any A n c wi.heap.size b HBy.out.2.1 wi (hrowb.out wi HKi.out) (Nat.le_refl _) HBy.out.2.2 (by omega))
          clear hpkz hu0 hu1 hu2 hu3 hf hPz
          go_wp2_with fail
          refine HC.out.mono ?_
          rintro en wz ⟨A5, n5, c5, rfl, hn5, hc5, hr5, hkz, _⟩
          rw [HBy.out.2.1] at hn5
          subst hn5
          have HKz := Lib.hid (HKi.out.trans hkz)
          have HKiz := Lib.hid hkz
          have HR5 := Lib.hid hr5
          clear hkz hc5 hr5 HC
          go_wp2_with fail
          go_loopw [27] (fun s27 wi => ∃ i : Nat, zz ≤ i ∧ i ≤ 8 * n ∧ s27 = .int .i64 i ∧ Hid (Keep Never wz wi ∧ ∀ t, zz ≤ t → t < i → (bitsB b)[t]? = some false)) (fun s _ => 8 * n - (intOf s).toNat)
          case atStart => exact ⟨zz, Nat.le_refl _, hz8, rfl, Lib.hid ⟨Keep.refl _ _, fun t h1 h2 => by omega⟩⟩
          case round =>
            obtain ⟨i, hi1, hi2, rfl, HH⟩ := hrel
            rename World => wk
            have HKk := Lib.hid (HKz.out.trans HH.out.1)
            have HRsk := Lib.hid (HRsi.out.keep (HKiz.out.trans HH.out.1) (fun h => h))
            have HBzk := Lib.hid (HBzi.out.keep (HKiz.out.trans HH.out.1) (fun h => h))
            have HBmk := Lib.hid (HBmi.out.keep (HKiz.out.trans HH.out.1) (fun h => h))
            by_cases h0 : i < 8 * n
            · have hii : (i : Int) < ((8 * n : Nat) : Int) := by omega
              obtain ⟨ad, bt, hA5, _, hbt, hcb⟩ := (HR5.out.keep HH.out.1 (fun _ h => h.elim)).at1 h0
              subst hA5
              have HBit := Lib.hid hbt
              clear hbt
              cases bt with
              | true =>
                have hbl : blankM b (usedM id P) = false := by
                  rw [HUz.out.1, ← Bool.not_eq_true, blankM_iff HBy.out.2.2 (by omega) (by rw [HBy.out.2.1]; omega) (by rw [HBy.out.2.1]; omega)]
                  intro h
                  have h1 := HBit.out
                  have h2 : true ∈ leftB b (zz : Int).toNat := by
                    unfold leftB
                    rw [List.mem_iff_getElem?]
                    exact ⟨i - zz, by rw [List.getElem?_drop, Int.toNat_natCast, show zz + (i - zz) = i by omega]; exact h1⟩
                  exact absurd (h true h2) (by decide)
                have HR : Hid (DecodeM b = .error 8) := Lib.hid (by rw [HT.out, Hpz.out]; simp only; rw [if_pos hbl])
                clear hbl
                have r0 : wk.cell? ⟨w.heap.size, 0, none⟩ = some (.int .i64 0) := HRsk.out.cell 0
                have rf0 := HRsk.out.frozen 0
                have r1 : wk.cell? ⟨w.heap.size, 1, none⟩ = some (.int .i64 0) := HRsk.out.cell 1
                have rf1 := HRsk.out.frozen 1
                have r2 : wk.cell? ⟨w.heap.size, 2, none⟩ = some (.int .i64 0) := HRsk.out.cell 2
                have rf2 := HRsk.out.frozen 2
                have r3 : wk.cell? ⟨w.heap.size, 3, none⟩ = some (.int .i64 0) := HRsk.out.cell 3
                have rf3 := HRsk.out.frozen 3
                have r4 : wk.cell? ⟨w.heap.size, 4, none⟩ = some (.slice none 0 0) := HRsk.out.cell 4
                have rf4 := HRsk.out.frozen 4
                have r5 : wk.cell? ⟨w.heap.size, 5, none⟩ = some (.slice none 0 0) := HRsk.out.cell 5
                have rf5 := HRsk.out.frozen 5
                have y0 : wk.cell? ⟨w.heap.size + 1, 0, none⟩ = some (.int .i64 0) := HBzk.out.cell 0
                have y1 : wk.cell? ⟨w.heap.size + 1, 1, none⟩ = some (.int .i64 0) := HBzk.out.cell 1
                have y2 : wk.cell? ⟨w.heap.size + 1, 2, none⟩ = some (.int .i64 0) := HBzk.out.cell 2
                have y3 : wk.cell? ⟨w.heap.size + 1, 3, none⟩ = some (.int .i64 0) := HBzk.out.cell 3
                have y4 : wk.cell? ⟨w.heap.size + 1, 4, none⟩ = some (.slice none 0 0) := HBzk.out.cell 4
                have y5 : wk.cell? ⟨w.heap.size + 1, 5, none⟩ = some (.slice none 0 0) := HBzk.out.cell 5
                go_wp2_with fail
                (try simp only [Exit.inBlock, Exit.then])
                refine bodyPost_ret (r6_results rfl (p6r_blk HRsk.out _ _ _ _ _ _) _ rfl) rfl ⟨0, 0, 0, 0, none, 0, 0, none, 0, 0, 8, rfl, HKk.out.then_ (p6r_keep _ _ _ _ _ _ _ _) (fun i hi e => by omega), .inr ⟨HR.out, (by decide), rfl, rfl, rfl, rfl, rfl, rfl, rfl, rfl, rfl, rfl⟩⟩
              | false =>
                have HAn : Hid (∀ t, zz ≤ t → t < i + 1 → (bitsB b)[t]? = some false) := Lib.hid (fun t h1 h2 => by
                  by_cases e : t = i
                  · rw [e]; exact HBit.out
                  · exact HH.out.2 t h1 (by omega))
                have HKzk := Lib.hid HH.out.1
                go_wp2_with fail
                refine ⟨⟨i + 1, by omega, by omega, by go_num, Lib.hid ⟨HKzk.out, HAn.out⟩⟩, ?_⟩
                simp [intOf]; try omega
            · obtain rfl : i = 8 * n := by omega
              have hii : ¬ ((8 * n : Nat) : Int) < ((8 * n : Nat) : Int) := by omega
              have hbl : blankM b (usedM id P) = true := by
                rw [HUz.out.1, blankM_iff HBy.out.2.2 (by omega) (by rw [HBy.out.2.1]; omega) (by rw [HBy.out.2.1]; omega)]
                intro x hx
                unfold leftB at hx
                obtain ⟨t, ht⟩ := List.mem_iff_getElem?.1 hx
                rw [List.getElem?_drop, Int.toNat_natCast] at ht
                have h1 := (List.getElem?_eq_some_iff.1 ht).1
                rw [length_bitsB, HBy.out.2.1] at h1
                have h2 := HH.out.2 (zz + t) (by omega) (by omega)
                rw [h2] at ht
                injection ht with ht
                exact ht.symm
              have Hbl := Lib.hid hbl
              have HRok := Lib.hid ((HRoc.out.keep HKbi.out (fun h => HRoL.out h)).keep (HKiz.out.trans HH.out.1) (fun h => h))
              have H8k := Lib.hid (H8.out.keep (HKiz.out.trans HH.out.1) (fun _ _ h => h))
              have Hallk : Hid (All2 (PkOk wk A8 wc.heap.size) P css) := Lib.hid (Hall.out.imp fun p cs h => h.step (A8' := A8) (HKiz.out.trans HH.out.1) (fun k h => h.elim) (fun k h => .inl h))
              have HVk := Lib.hid ((HVc.out.1.keep_far HKbi.out (fun ad e _ hs => (HVr.out ad.block ⟨ad, e, rfl⟩).2 hs)).keep (HKiz.out.trans HH.out.1) (fun _ h => h.elim))
              have HKmf : Hid (wm.heap.size ≤ wk.heap.size) := Lib.hid (by have a1 := HKmb.out; have a2 := HKbi.out.size; have a3 := HKiz.out.size; have a4 := HH.out.1.size; omega)
              clear hbl HH
              have hSl : repPk.Sl wk wk.heap.size A8 P.length c8 P := Rep.Sl.of_own H8k.out (Hallk.out.imp fun p cs h => h.rep) rfl (Nat.le_refl _)
              have hC := Lib.hid (HFt.out wk wk.heap.size A8 P.length c8 (P.map (·.1)) (IdsAt.of_sl hSl) (by omega))
              clear hSl
              have q0 : wk.cell? ⟨br, 0, none⟩ = some (.string s1) := HRok.out.cell 0
              have q1 : wk.cell? ⟨br, 1, none⟩ = some (.string s2) := HRok.out.cell 1
              have q2 : wk.cell? ⟨br, 2, none⟩ = some (.string s3) := HRok.out.cell 2
              have m5 : wk.cell? ⟨bm, 5, none⟩ = some (.slice A8 P.length c8) := HBmk.out.cell 5
              go_wp2_with fail
              refine hC.out.mono ?_
              rintro en wf ⟨rfl, hkf⟩
              have HKf := Lib.hid (HKk.out.trans hkf)
              have HRsf := Lib.hid (HRsk.out.keep hkf (fun h => h))
              have HBzf := Lib.hid (HBzk.out.keep hkf (fun h => h))
              have HBmf := Lib.hid (HBmk.out.keep hkf (fun h => h))
              have HKkf := Lib.hid hkf
              clear hkf hC q0 q1 q2 m5
              cases hft : fitsM must may (P.map (·.1)) with
              | false =>
                have HR : Hid (DecodeM b = .error 50) := Lib.hid (by rw [HT.out, Hpz.out]; simp only; rw [if_neg (by rw [Hbl.out]; simp), if_pos hft])
                clear hft
                have r0 : wf.cell? ⟨w.heap.size, 0, none⟩ = some (.int .i64 0) := HRsf.out.cell 0
                have rf0 := HRsf.out.frozen 0
                have r1 : wf.cell? ⟨w.heap.size, 1, none⟩ = some (.int .i64 0) := HRsf.out.cell 1
                have rf1 := HRsf.out.frozen 1
                have r2 : wf.cell? ⟨w.heap.size, 2, none⟩ = some (.int .i64 0) := HRsf.out.cell 2
                have rf2 := HRsf.out.frozen 2
                have r3 : wf.cell? ⟨w.heap.size, 3, none⟩ = some (.int .i64 0) := HRsf.out.cell 3
                have rf3 := HRsf.out.frozen 3
                have r4 : wf.cell? ⟨w.heap.size, 4, none⟩ = some (.slice none 0 0) := HRsf.out.cell 4
                have rf4 := HRsf.out.frozen 4
                have r5 : wf.cell? ⟨w.heap.size, 5, none⟩ = some (.slice none 0 0) := HRsf.out.cell 5
                have rf5 := HRsf.out.frozen 5
                have y0 : wf.cell? ⟨w.heap.size + 1, 0, none⟩ = some (.int .i64 0) := HBzf.out.cell 0
                have y1 : wf.cell? ⟨w.heap.size + 1, 1, none⟩ = some (.int .i64 0) := HBzf.out.cell 1
                have y2 : wf.cell? ⟨w.heap.size + 1, 2, none⟩ = some (.int .i64 0) := HBzf.out.cell 2
                have y3 : wf.cell? ⟨w.heap.size + 1, 3, none⟩ = some (.int .i64 0) := HBzf.out.cell 3
                have y4 : wf.cell? ⟨w.heap.size + 1, 4, none⟩ = some (.slice none 0 0) := HBzf.out.cell 4
                have y5 : wf.cell? ⟨w.heap.size + 1, 5, none⟩ = some (.slice none 0 0) := HBzf.out.cell 5
                go_wp2_with fail
                (try simp only [Exit.inBlock, Exit.then])
                refine bodyPost_ret (r6_results rfl (p6r_blk HRsf.out _ _ _ _ _ _) _ rfl) rfl ⟨0, 0, 0, 0, none, 0, 0, none, 0, 0, 50, rfl, HKf.out.then_ (p6r_keep _ _ _ _ _ _ _ _) (fun i hi e => by omega), .inr ⟨HR.out, (by decide), rfl, rfl, rfl, rfl, rfl, rfl, rfl, rfl, rfl, rfl⟩⟩
              | true =>
                have HR : Hid (DecodeM b = .ok (id, t', ack', of', VS, P)) := Lib.hid (by rw [HT.out, Hpz.out]; simp only; rw [if_neg (by rw [Hbl.out]; simp), if_neg (by rw [hft]; simp)])
                clear hft
                have r0 : wf.cell? ⟨w.heap.size, 0, none⟩ = some (.int .i64 0) := HRsf.out.cell 0
                have rf0 := HRsf.out.frozen 0
                have r1 : wf.cell? ⟨w.heap.size, 1, none⟩ = some (.int .i64 0) := HRsf.out.cell 1
                have rf1 := HRsf.out.frozen 1
                have r2 : wf.cell? ⟨w.heap.size, 2, none⟩ = some (.int .i64 0) := HRsf.out.cell 2
                have rf2 := HRsf.out.frozen 2
                have r3 : wf.cell? ⟨w.heap.size, 3, none⟩ = some (.int .i64 0) := HRsf.out.cell 3
                have rf3 := HRsf.out.frozen 3
                have r4 : wf.cell? ⟨w.heap.size, 4, none⟩ = some (.slice none 0 0) := HRsf.out.cell 4
                have rf4 := HRsf.out.frozen 4
                have r5 : wf.cell? ⟨w.heap.size, 5, none⟩ = some (.slice none 0 0) := HRsf.out.cell 5
                have rf5 := HRsf.out.frozen 5
                have m0 : wf.cell? ⟨bm, 0, none⟩ = some (.int .i64 id) := HBmf.out.cell 0
                have m1 : wf.cell? ⟨bm, 1, none⟩ = some (.int .i64 t') := HBmf.out.cell 1
                have m2 : wf.cell? ⟨bm, 2, none⟩ = some (.int .i64 ack') := HBmf.out.cell 2
                have m3 : wf.cell? ⟨bm, 3, none⟩ = some (.int .i64 of') := HBmf.out.cell 3
                have m4 : wf.cell? ⟨bm, 4, none⟩ = some (.slice A2 n2 c2) := HBmf.out.cell 4
                have m5 : wf.cell? ⟨bm, 5, none⟩ = some (.slice A8 P.length c8) := HBmf.out.cell 5
                go_wp2_with fail
                (try simp only [Exit.inBlock, Exit.then])
                have hkp := p6r_keep wf w.heap.size (.int .i64 id) (.int .i64 t') (.int .i64 ack') (.int .i64 of') (.slice A2 n2 c2) (.slice A8 P.length c8)
                refine bodyPost_ret (r6_results rfl (p6r_blk HRsf.out _ _ _ _ _ _) _ rfl) rfl ⟨id, t', ack', of', A2, n2, c2, A8, P.length, c8, 0, rfl, HKf.out.then_ hkp (fun i hi e => by omega), .inl ⟨VS, P, HR.out, rfl, ?_, HVc.out.2.1, HVc.out.2.2.1, HVc.out.2.2.2, ?_⟩⟩
                · have h1 := (HVk.out.keep HKkf.out (fun _ h => h.elim)).keep_far hkp (fun ad e h0 hs => by have h4 := (HVr.out ad.block ⟨ad, e, rfl⟩).1; have h5 := HK8.out.size; have h6 := HBz8.out.lt; have h7 : ad.block = w.heap.size := hs; omega)
                  exact h1.more (by have h2 := HKmf.out; have h3 := hkp.size; have h4 := HKkf.out.size; omega)
                · have hrw : w.heap.size < wc.heap.size := by have h1 := HLt.out; have h2 := HKmc.out.size; omega
                  exact Rep.Sl.of_own ((H8k.out.keep HKkf.out (fun _ _ h => h)).keep hkp (fun k h e => by have := (H8k.out.row h).1; omega)) ((Hallk.out.imp fun p cs h => (h.step (A8' := A8) ((HKkf.out.mono (fun _ _ h => h.elim)).trans hkp) (fun k h => .inr (.inl (by omega))) (fun k h => .inl h)).rep)) rfl (Nat.le_refl _)


end Go.Proofs.YtiebjnibmomcjaaDoor
