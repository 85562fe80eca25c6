/- Chapter 18 (grant): Lost, Held, Free. -/
import Derived.Test.YtlcbajdckgcopaaGrD
namespace Go.Proofs.Ytlcbajdckgcopaa
open Go.RowKit

theorem Keep.st {S : Nat → Prop} {w0 w : World} (h : Keep S w0 w) {b i : Nat} {v : Value} (hb : S b ∨ w0.heap.size ≤ b) : Keep S w0 (w.setCell ⟨b, i, none⟩ v) := h.set_ (p := ⟨b, i, none⟩) hb v
theorem Far2.or {N : Nat} {w : World} {S T : Nat → Prop} (h : Far2 N w S) (h' : Far2 N w T) : Far2 N w (fun q => S q ∨ T q) := fun q hq => hq.elim (h q) (h' q)

set_option maxHeartbeats 4000000 in
set_option maxRecDepth 100000 in
theorem glost_any (x : LA) (l : Ldg) (N : Nat) (w : World) (h : LdG N w x l) (hs : LdSmall x l) (hN : N ≤ w.heap.size) :
    Calls Try.prog 46 #[.agg x.cs] w (LdRet2 N (lostM l) w) := by
  have HCo := Lib.hid (fun (W : World) (hk : Keep Never w W) => copied_any x l N W (h.never hk) hs (Nat.le_trans hN hk.size))
  have HG := Lib.hid h
  have HM := Lib.hid (fun (W : World) (hk : Keep Never w W) => gMay_any x l W.heap.size W ((h.never hk).ld) hs (Nat.le_refl _))
  have HNw := Lib.hid hN
  have HKn := Lib.hid h.k
  obtain ⟨A, n, c, A2, n2, c2, k⟩ := x
  obtain ⟨es, hr, kn⟩ := l
  simp only [LA.cs] at HG HM HCo HKn ⊢
  obtain rfl := HKn.out
  clear h hs hN HKn HG
  obtain ⟨w1, hw1⟩ : ∃ W : World, w.alloc (.cells #[.slice A n c, .slice A2 n2 c2, .bool k] 53) = W := ⟨_, rfl⟩
  have zw1 : w1.heap.size = w.heap.size + 1 := by rw [← hw1]; simp
  have kw1 : Keep Never w w1 := by rw [← hw1]; exact (Keep.refl _ _).alloc _
  have bw1 := Blk.new w 53 #[.slice A n c, .slice A2 n2 c2, .bool k]
  rw [hw1] at bw1
  obtain ⟨w2, hw2⟩ : ∃ W : World, w1.alloc (.cells #[.slice none 0 0, .slice none 0 0, .bool false] 53) = W := ⟨_, rfl⟩
  have kw2 : Keep Never w1 w2 := by rw [← hw2]; exact (Keep.refl _ _).alloc _
  have bw2 := Blk.new w1 53 #[.slice none 0 0, .slice none 0 0, .bool false]
  rw [hw2, zw1] at bw2
  have HB1 := Lib.hid (bw1.keep kw2 (fun h => h))
  have HB2 := Lib.hid bw2
  have HK := Lib.hid (kw1.trans kw2)
  have y0 : w2.cell? ⟨w.heap.size, 0, none⟩ = some (.slice A n c) := HB1.out.cell 0
  have y1 : w2.cell? ⟨w.heap.size, 1, none⟩ = some (.slice A2 n2 c2) := HB1.out.cell 1
  have y2 : w2.cell? ⟨w.heap.size, 2, none⟩ = some (.bool k) := HB1.out.cell 2
  clear kw1 kw2 bw1 bw2
  have HC := Lib.hid (HM.out w2 HK.out)
  go_enter Try.func46, Try.ntmps46
  go_wp2_with fail
  refine HC.out.mono ?_
  rintro e w3 ⟨rfl, hk3⟩
  have HK3 := Lib.hid (HK.out.trans hk3)
  have b3 := HB1.out.keep hk3 (fun h => h)
  have b3' := HB2.out.keep hk3 (fun h => h)
  have HB3 := Lib.hid b3
  have HB3' := Lib.hid b3'
  clear hk3 HC y0 y1 y2 hw1 hw2 zw1 HM
  cases hm : mayL (es, hr, k) with
  | false =>
    have HF : Hid (lostM (es, hr, k) = (noL, 1)) := Lib.hid (by unfold lostM; rw [if_neg (by rw [hm]; simp)])
    have s0 : w3.cell? ⟨w.heap.size + 1, 0, none⟩ = some (.slice none 0 0) := b3'.cell 0
    have s1 : w3.cell? ⟨w.heap.size + 1, 1, none⟩ = some (.slice none 0 0) := b3'.cell 1
    have s2 : w3.cell? ⟨w.heap.size + 1, 2, none⟩ = some (.bool false) := b3'.cell 2
    have sf0 := b3'.frozen 0
    have sf1 := b3'.frozen 1
    have sf2 := b3'.frozen 2
    clear hm b3 b3'
    go_wp2_with fail
    (try simp only [Exit.inBlock, Exit.then])
    have hp := putL_keep HK3.out (b := w.heap.size + 1) (.inr (by show w.heap.size ≤ w.heap.size + 1; omega)) (.slice none 0 0) (.slice none 0 0) (.bool false)
    refine bodyPost_ret (ld_results2 (fn := Try.f46) (r := 2) (s := 3) rfl (putL_blk HB3'.out (.slice none 0 0) (.slice none 0 0) (.bool false)) _ rfl) rfl ⟨⟨none, 0, 0, none, 0, 0, false⟩, by rw [HF.out]; rfl, by rw [HF.out]; exact LdG.no _ _, hp⟩
  | true =>
    have HF : Hid (lostM (es, hr, k) = ((es, [], false), 0)) := Lib.hid (by unfold lostM; rw [if_pos hm])
    have y0 : w3.cell? ⟨w.heap.size, 0, none⟩ = some (.slice A n c) := b3.cell 0
    have y1 : w3.cell? ⟨w.heap.size, 1, none⟩ = some (.slice A2 n2 c2) := b3.cell 1
    have y2 : w3.cell? ⟨w.heap.size, 2, none⟩ = some (.bool k) := b3.cell 2
    have HC := Lib.hid (HCo.out w3 HK3.out)
    clear hm b3 b3' HCo
    go_wp2_with fail
    refine HC.out.mono ?_
    rintro e w4 ⟨⟨A3, n3, c3, A4, n4, c4, k4⟩, rfl, hg4, hk4⟩
    have HG4 := Lib.hid hg4
    have HK4 := Lib.hid (HK3.out.trans hk4)
    have b4 := HB3.out.keep hk4 (fun h => h)
    have b4' := HB3'.out.keep hk4 (fun h => h)
    have HB4 := Lib.hid b4
    have HB4' := Lib.hid b4'
    clear hg4 hk4 HC y0 y1 y2
    simp only
    have y0 : w4.cell? ⟨w.heap.size, 0, none⟩ = some (.slice A n c) := b4.cell 0
    have y1 : w4.cell? ⟨w.heap.size, 1, none⟩ = some (.slice A2 n2 c2) := b4.cell 1
    have y2 : w4.cell? ⟨w.heap.size, 2, none⟩ = some (.bool k) := b4.cell 2
    have yf0 := b4.frozen 0
    have yf1 := b4.frozen 1
    have yf2 := b4.frozen 2
    clear b4 b4'
    go_upto_region 4 with (fail)
    obtain ⟨w5, hw5⟩ : ∃ W : World, ((w4.setCell ⟨w.heap.size, 0, none⟩ (.slice A3 n3 c3)).setCell ⟨w.heap.size, 1, none⟩ (.slice A4 n4 c4)).setCell ⟨w.heap.size, 2, none⟩ (.bool k4) = W := ⟨_, rfl⟩
    rw [hw5]
    have k5 : Keep (fun q => q = w.heap.size) w4 w5 := by rw [← hw5]; exact putL_keep (Keep.refl (fun q => q = w.heap.size) w4) (.inl rfl) _ _ _
    have HB5 : Hid (Blk w5 (w.heap.size) 53 #[.slice A3 n3 c3, .slice A4 n4 c4, .bool k4]) := Lib.hid (by rw [← hw5]; exact putL_blk HB4.out _ _ _)
    clear hw5
    clear y0 y1 y2 yf0 yf1 yf2
    have y0 : w5.cell? ⟨w.heap.size, 0, none⟩ = some (.slice A3 n3 c3) := HB5.out.cell 0
    have y1 : w5.cell? ⟨w.heap.size, 1, none⟩ = some (.slice A4 n4 c4) := HB5.out.cell 1
    have y2 : w5.cell? ⟨w.heap.size, 2, none⟩ = some (.bool k4) := HB5.out.cell 2
    have yf0 := HB5.out.frozen 0
    have yf1 := HB5.out.frozen 1
    have yf2 := HB5.out.frozen 2
    go_upto_region 5 with (fail)
    obtain ⟨w6, hw6⟩ : ∃ W : World, (w5.setCell ⟨w.heap.size, 1, none⟩ (.slice none 0 0)).setCell ⟨w.heap.size, 2, none⟩ (.bool false) = W := ⟨_, rfl⟩
    rw [hw6]
    have k6 : Keep (fun q => q = w.heap.size) w5 w6 := by rw [← hw6]; exact ((Keep.refl (fun q => q = w.heap.size) w5).st (.inl rfl)).st (.inl rfl)
    have HB6 : Hid (Blk w6 w.heap.size 53 #[.slice A3 n3 c3, .slice none 0 0, .bool false]) := Lib.hid (by rw [← hw6]; have := (HB5.out.set_ 1 (.slice none 0 0)).set_ 2 (.bool false); simpa using this)
    clear hw6 y0 y1 y2 yf0 yf1 yf2
    have y0 : w6.cell? ⟨w.heap.size, 0, none⟩ = some (.slice A3 n3 c3) := HB6.out.cell 0
    have y1 : w6.cell? ⟨w.heap.size, 1, none⟩ = some (.slice none 0 0) := HB6.out.cell 1
    have y2 : w6.cell? ⟨w.heap.size, 2, none⟩ = some (.bool false) := HB6.out.cell 2
    have HB6' := Lib.hid ((HB4'.out.keep k5 (by omega)).keep k6 (by omega))
    have s0 : w6.cell? ⟨w.heap.size + 1, 0, none⟩ = some (.slice none 0 0) := HB6'.out.cell 0
    have s1 : w6.cell? ⟨w.heap.size + 1, 1, none⟩ = some (.slice none 0 0) := HB6'.out.cell 1
    have s2 : w6.cell? ⟨w.heap.size + 1, 2, none⟩ = some (.bool false) := HB6'.out.cell 2
    have sf0 := HB6'.out.frozen 0
    have sf1 := HB6'.out.frozen 1
    have sf2 := HB6'.out.frozen 2
    have HG6 := Lib.hid ((HG4.out.keep k5 (Far2.blk HB4.out (by decide) (by decide) HNw.out)).keep k6 (Far2.blk HB5.out (by decide) (by decide) HNw.out))
    have HK6 := Lib.hid ((HK4.out.then_ k5 (fun i hi e => by omega)).then_ k6 (fun i hi e => by omega))
    clear k5 k6
    go_wp2_with fail
    (try simp only [Exit.inBlock, Exit.then])
    have hp := putL_keep HK6.out (b := w.heap.size + 1) (.inr (by show w.heap.size ≤ w.heap.size + 1; omega)) (.slice A3 n3 c3) (.slice none 0 0) (.bool false)
    have hg := HG6.out.keep (putL_keep (Keep.refl (fun q => q = w.heap.size + 1) w6) (b := w.heap.size + 1) (.inl rfl) (.slice A3 n3 c3) (.slice none 0 0) (.bool false)) (Far2.blk HB6'.out (by decide) (by decide) (by have := HNw.out; omega))
    refine bodyPost_ret (ld_results2 (fn := Try.f46) (r := 2) (s := 3) rfl (putL_blk HB6'.out (.slice A3 n3 c3) (.slice none 0 0) (.bool false)) _ rfl) rfl ⟨⟨A3, n3, c3, none, 0, 0, false⟩, by rw [HF.out]; rfl, by rw [HF.out]; exact ⟨hg.e, SpG.nil _ _, rfl⟩, hp⟩

/-- spans are answered -/
def SpRetG (N : Nat) (l : List Sp) (w : World) (e : Ending) (w' : World) : Prop := ∃ A n c, e = .returned (.slice A n c) ∧ SpG N w' A n c l ∧ Keep Never w w'
theorem exts_take {l : List Ent} {k : Nat} {e : Ent} (h : l[k]? = some e) : exts (l.take (k + 1)) = exts (l.take k) ++ e.2.2.1 := by
  rw [take_ent h]; simp [exts]
theorem exts_le (l : List Ent) (k : Nat) : (exts (l.take k)).length ≤ (exts l).length := by
  rw [show exts l = exts (l.take k) ++ exts (l.drop k) by unfold exts; rw [← List.flatMap_append, List.take_append_drop]]
  simp
theorem meetsB_m {a b : List Sp} {r : Bool} (h : meetsB a b r) : r = meetsM a b := bool_ext (h.trans meetsM_iff.symm)
theorem withinB_m {a b : List Sp} {r : Bool} (h : withinB a b r) : r = withinM a b := bool_ext (h.trans withinM_iff.symm)

set_option maxHeartbeats 4000000 in
set_option maxRecDepth 100000 in
theorem gheld_any (x : LA) (l : Ldg) (N : Nat) (w : World) (h : LdG N w x l) (hs : LdSmall x l) (hall : (l.2.1 ++ exts l.1).length ≤ 200000) (hN : N ≤ w.heap.size) :
    Calls Try.prog 29 #[.agg x.cs] w (SpRetG N (heldM l) w) := by
  have HG := Lib.hid h
  have HM := Lib.hid (fun (W : World) (hk : Keep Never w W) => gMay_any x l W.heap.size W ((h.never hk).ld) hs (Nat.le_refl _))
  have HNw := Lib.hid hN
  have HKn := Lib.hid h.k
  obtain ⟨A, n, c, A2, n2, c2, k⟩ := x
  obtain ⟨es, hr, kn⟩ := l
  simp only [LA.cs] at HG HM HKn ⊢
  obtain rfl := HKn.out
  have hsn := hs.n
  have hsh := hs.h
  simp only at hsn hsh
  have HAll : Hid ((hr ++ exts es).length ≤ 200000) := Lib.hid hall
  clear h hs hN HKn hall
  obtain ⟨w1, hw1⟩ : ∃ W : World, w.alloc (.cells #[.slice A n c, .slice A2 n2 c2, .bool k] 53) = W := ⟨_, rfl⟩
  have kw1 : Keep Never w w1 := by rw [← hw1]; exact (Keep.refl _ _).alloc _
  have bw1 := Blk.new w 53 #[.slice A n c, .slice A2 n2 c2, .bool k]
  rw [hw1] at bw1
  have HB1 := Lib.hid bw1
  have HK := Lib.hid kw1
  have y0 : w1.cell? ⟨w.heap.size, 0, none⟩ = some (.slice A n c) := HB1.out.cell 0
  have y1 : w1.cell? ⟨w.heap.size, 1, none⟩ = some (.slice A2 n2 c2) := HB1.out.cell 1
  have y2 : w1.cell? ⟨w.heap.size, 2, none⟩ = some (.bool k) := HB1.out.cell 2
  clear kw1 bw1
  have HC := Lib.hid (HM.out w1 HK.out)
  go_enter Try.func29, Try.ntmps29
  go_wp2_with fail
  refine HC.out.mono ?_
  rintro e w3 ⟨rfl, hk3⟩
  have HK3 := Lib.hid (HK.out.trans hk3)
  have b3 := HB1.out.keep hk3 (fun h => h)
  have HB3 := Lib.hid b3
  clear hk3 HC y0 y1 y2 hw1 HM
  cases hm : mayL (es, hr, k) with
  | false =>
    have HF : Hid (heldM (es, hr, k) = []) := Lib.hid (by unfold heldM; rw [if_neg (by rw [hm]; simp)])
    clear hm b3
    go_wp2_with fail
    go_ret
    exact ⟨none, 0, 0, rfl, by rw [HF.out]; exact SpG.nil _ _, HK3.out⟩
  | true =>
    have HF : Hid (heldM (es, hr, k) = normM (hr ++ exts es)) := Lib.hid (by unfold heldM; rw [if_pos hm])
    have y0 : w3.cell? ⟨w.heap.size, 0, none⟩ = some (.slice A n c) := b3.cell 0
    have y1 : w3.cell? ⟨w.heap.size, 1, none⟩ = some (.slice A2 n2 c2) := b3.cell 1
    have y2 : w3.cell? ⟨w.heap.size, 2, none⟩ = some (.bool k) := b3.cell 2
    have hh := (HG.out.h.never HK3.out).at_
    have HC := Lib.hid (clone_any A2 n2 c2 _ hr w3 hh.rd hh.nil hh.cap (by omega) (Nat.le_refl _))
    have HL2 : Hid (hr.length = n2) := Lib.hid hh.len
    clear hm b3 hh
    go_wp2_with fail
    refine HC.out.mono ?_
    rintro e w4 ⟨A3, c3, rfl, ho4, hk4⟩
    have HK4 := Lib.hid (HK3.out.trans hk4)
    have b4 := HB3.out.keep hk4 (fun h => h)
    have HO4 := Lib.hid ho4
    have y0' : w4.cell? ⟨w.heap.size, 0, none⟩ = some (.slice A n c) := b4.cell 0
    have HK34 := Lib.hid hk4
    clear hk4 ho4 HC y0 y1 y2 b4
    go_wp2_with fail
    clear y0'
    go_loopw [3, 15] (fun a i wr => ∃ (q n' c' : Nat) (A' : Option Addr), q ≤ n ∧ a = .slice A' n' c' ∧ i = .int .i64 q ∧ Hid (Keep Never w3 wr ∧ n' = (hr ++ exts (es.take q)).length ∧ Own wr w3.heap.size 109 3 A' n' c' (spCells (hr ++ exts (es.take q)))) ∧ n' ≤ 200000) (fun _ i _ => n - (intOf i).toNat)
    case atStart => exact ⟨0, n2, c3, A3, by omega, rfl, rfl, Lib.hid ⟨HK34.out, by simp [exts]; exact HL2.out.symm, by simpa [exts] using HO4.out⟩, by have := HAll.out; have := HL2.out; simp at *; omega⟩
    case round =>
      obtain ⟨q, n', c', A', hq, rfl, rfl, HH, hn'⟩ := hrel
      by_cases h0 : q < n
      · have hkz : (q : Int) < (n : Int) := by omega
        obtain ⟨ad, e, A5, n5, c5, hA, he, c0, c1, c2', c3', hsp⟩ := ent_g (HG.out.e.never (HK3.out.trans HH.out.1)) h0
        subst hA
        obtain ⟨e0, e1, ex, e3⟩ := e
        simp only at c0 c1 c2' c3' hsp
        obtain ⟨W1, hW1⟩ : ∃ W : World, wr.alloc (.cells #[.int .i64 e0, .int .i64 e1, .slice A5 n5 c5, .bool e3] 77) = W := ⟨_, rfl⟩
        have K1 : Keep Never wr W1 := by rw [← hW1]; exact (Keep.refl _ _).alloc _
        have B1 := Blk.new wr 77 #[.int .i64 e0, .int .i64 e1, .slice A5 n5 c5, .bool e3]
        rw [hW1] at B1
        have HK1 := Lib.hid (HH.out.1.trans K1)
        have d2 : W1.cell? ⟨wr.heap.size, 2, none⟩ = some (.slice A5 n5 c5) := B1.cell 2
        have HO1 := Lib.hid (HH.out.2.2.keep K1 (fun _ _ h => h))
        have HR1 := Lib.hid (hsp.never K1).at_.rd
        have HT : Hid ((hr ++ exts (es.take (q + 1))) = (hr ++ exts (es.take q)) ++ ex ∧ n5 = ex.length) := Lib.hid ⟨by rw [exts_take he]; simp, hsp.at_.len.symm⟩
        have HN' := Lib.hid HH.out.2.1
        have hb : n' + n5 ≤ 200000 := by
          have h1 := HT.out; have h2 := HN'.out; have h3 := HAll.out; have h4 := exts_le es (q + 1)
          have h5 := congrArg List.length h1.1
          simp only [List.length_append] at h2 h3 h5; omega
        have hsz : w3.heap.size ≤ W1.heap.size := HK1.out.size
        clear K1 B1 hsp he
        go_wp2_with (at_builtin; refine wpList_app _ rfl (.tmp 19) (.tmp 21) _ rfl elemSp w3.heap.size (A := A') (n := n') (c := c') (by go_simp) HO1.out _ (A' := A5) (m := n5) (c' := c5) (by go_simp) HR1.out (spCells_one _) (by omega) (by unfold maxLen; omega) hsz ?_; intro A6 c6 w6 hown6 hk6 hrow6; have HO6 := Lib.hid hown6; have HK6 := Lib.hid hk6; clear hown6 hk6 hrow6)
        have hk6 : Keep Never w3 w6 := HK1.out.then_ HK6.out (fun i hi h => by have := (HO1.out.row h).1; omega)
        refine ⟨⟨q + 1, n' + n5, c6, A6, by omega, rfl, by go_num, Lib.hid ⟨hk6, ?_, ?_⟩, hb⟩, ?_⟩
        · have h1 := HT.out; have h2 := HN'.out
          have h5 := congrArg List.length h1.1
          simp only [List.length_append] at h2 h5 ⊢; omega
        · rw [HT.out.1, spCells_app]; exact HO6.out
        · simp [intOf]; try omega
      · obtain rfl : q = n := by omega
        have hkz : ¬ (q : Int) < (q : Int) := by omega
        have HTk : Hid (es.take q = es) := Lib.hid (List.take_of_length_le (by rw [← HG.out.e.len]; exact Nat.le_refl _))
        have ho := HH.out.2.2
        have hn'' := HH.out.2.1
        rw [HTk.out] at ho hn''
        have HC := Lib.hid (norm_any A' n' c' _ (hr ++ exts es) wr (SpAt.of_own ho).rd (SpAt.of_own ho).nil (SpAt.of_own ho).cap (by omega) (Nat.le_refl _))
        have HKf := Lib.hid (HK3.out.trans HH.out.1)
        clear ho hn''
        go_wp2_with fail
        refine HC.out.mono ?_
        rintro e w7 ⟨m, A7, n7, c7, rfl, hn7, ho7, hk7, hp7, hl7⟩
        obtain rfl := normM_eq hp7
        have HR : Hid (SpRetG N (heldM (es, hr, k)) w (.returned (.slice A7 n7 c7)) w7) := Lib.hid ⟨A7, n7, c7, rfl, by rw [HF.out]; exact SpG.own ho7, HKf.out.trans hk7⟩
        clear hn7 ho7 hk7 hp7 hl7 HC
        go_wp2_with fail
        go_ret
        exact HR.out

set_option maxHeartbeats 4000000 in
set_option maxRecDepth 100000 in
theorem gfree_any (x : LA) (l : Ldg) (N : Nat) (B2 : Option Addr) (m2 d2 : Nat) (x2 : List Sp) (w : World) (h : LdG N w x l) (hx : SpG N w B2 m2 d2 x2) (hm2 : m2 ≤ 200000) (hs : LdSmall x l) (hall : (l.2.1 ++ exts l.1).length ≤ 200000) (hN : N ≤ w.heap.size) :
    Calls Try.prog 33 #[.agg x.cs, .slice B2 m2 d2] w fun e w' => e = .returned (.bool (freeM l x2)) ∧ Keep Never w w' := by
  have HHe := Lib.hid (fun (W : World) (hk : Keep Never w W) => gheld_any x l N W (h.never hk) hs hall (Nat.le_trans hN hk.size))
  have Hx := Lib.hid hx
  have Hln : Hid ((heldM l).length ≤ 200000) := Lib.hid (by
    unfold heldM; split
    · exact Nat.le_trans (normM_len _) hall
    · simp)
  have HG := Lib.hid h
  have HM := Lib.hid (fun (W : World) (hk : Keep Never w W) => gMay_any x l W.heap.size W ((h.never hk).ld) hs (Nat.le_refl _))
  have HNw := Lib.hid hN
  have HKn := Lib.hid h.k
  obtain ⟨A, n, c, A2, n2, c2, k⟩ := x
  obtain ⟨es, hr, kn⟩ := l
  simp only [LA.cs] at HG HM HHe HKn ⊢
  obtain rfl := HKn.out
  clear h hs hN HKn hall hx HG
  obtain ⟨w1, hw1⟩ : ∃ W : World, w.alloc (.cells #[.slice A n c, .slice A2 n2 c2, .bool k] 53) = W := ⟨_, rfl⟩
  have kw1 : Keep Never w w1 := by rw [← hw1]; exact (Keep.refl _ _).alloc _
  have bw1 := Blk.new w 53 #[.slice A n c, .slice A2 n2 c2, .bool k]
  rw [hw1] at bw1
  have HB1 := Lib.hid bw1
  have HK := Lib.hid kw1
  have y0 : w1.cell? ⟨w.heap.size, 0, none⟩ = some (.slice A n c) := HB1.out.cell 0
  have y1 : w1.cell? ⟨w.heap.size, 1, none⟩ = some (.slice A2 n2 c2) := HB1.out.cell 1
  have y2 : w1.cell? ⟨w.heap.size, 2, none⟩ = some (.bool k) := HB1.out.cell 2
  clear kw1 bw1
  have HC := Lib.hid (HM.out w1 HK.out)
  go_enter Try.func33, Try.ntmps33
  go_wp2_with fail
  refine HC.out.mono ?_
  rintro e w3 ⟨rfl, hk3⟩
  have HK3 := Lib.hid (HK.out.trans hk3)
  have b3 := HB1.out.keep hk3 (fun h => h)
  clear hk3 HC y0 y1 y2 hw1 HM
  cases hm : mayL (es, hr, k) with
  | false =>
    have HF : Hid (freeM (es, hr, k) x2 = false) := Lib.hid (by unfold freeM; rw [hm]; rfl)
    clear hm b3
    go_wp2_with fail
    go_ret
    exact ⟨by rw [HF.out]; rfl, HK3.out⟩
  | true =>
    have y0 : w3.cell? ⟨w.heap.size, 0, none⟩ = some (.slice A n c) := b3.cell 0
    have y1 : w3.cell? ⟨w.heap.size, 1, none⟩ = some (.slice A2 n2 c2) := b3.cell 1
    have y2 : w3.cell? ⟨w.heap.size, 2, none⟩ = some (.bool k) := b3.cell 2
    cases k with
    | false =>
      have HF : Hid (freeM (es, hr, false) x2 = false) := Lib.hid (by unfold freeM; simp)
      clear hm b3
      go_wp2_with fail
      go_ret
      exact ⟨by rw [HF.out]; rfl, HK3.out⟩
    | true =>
      have HF : Hid (freeM (es, hr, true) x2 = !meetsM (heldM (es, hr, true)) x2) := Lib.hid (by unfold freeM; rw [hm]; rfl)
      have HC := Lib.hid (HHe.out w3 HK3.out)
      clear hm b3 HHe
      go_wp2_with fail
      refine HC.out.mono ?_
      rintro e w4 ⟨A4, n4, c4, rfl, hg4, hk4⟩
      have hn4 : n4 ≤ 200000 := by
        have := hg4.at_.len
        have h2 : (heldM (es, hr, true)).length ≤ 200000 := Hln.out
        omega
      have HK4 := Lib.hid (HK3.out.trans hk4)
      have HC2 := Lib.hid (meets_any w4.heap.size A4 n4 c4 B2 m2 d2 (heldM (es, hr, true)) x2 w4 hg4.at_ (Hx.out.never HK4.out).at_ hn4 hm2 (Nat.le_refl _))
      clear hg4 hk4 HC hn4 y0 y1 y2
      go_wp2_with fail
      refine HC2.out.mono ?_
      rintro e w5 ⟨r, rfl, hr5, hk5⟩
      obtain rfl := meetsB_m hr5
      clear hr5 HC2
      go_wp2_with fail
      go_ret
      exact ⟨by rw [HF.out]; rfl, HK4.out.trans hk5⟩
end Go.Proofs.Ytlcbajdckgcopaa
