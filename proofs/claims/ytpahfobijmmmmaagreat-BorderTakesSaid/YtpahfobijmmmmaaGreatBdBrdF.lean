/- Chapter 20 (border): put, low. -/
import Derived.Test.YtpahfobijmmmmaaGreatBdBrdA
import Derived.Test.YtpahfobijmmmmaaGreatBdBrdC
import Derived.Test.YtpahfobijmmmmaaGreatBdBitsW
import Derived.Test.YtpahfobijmmmmaaGreatBrdE
namespace Go.Proofs.YtpahfobijmmmmaaGreat
open Go.RowKit

theorem and20 (x : Int) (h0 : 0 ≤ x) (h1 : x ≤ 9223372036854775807) : bits .and .i64 x 1048575 = x % 1048576 := by
  have := bits_mask .i64 63 (by decide) wraps_i64 20 (by decide) x h0 (by omega)
  simpa using this
set_option maxHeartbeats 1000000 in
set_option maxRecDepth 100000 in
theorem low_any (x : Int) (h0 : 0 ≤ x) (h1 : x ≤ 1099511627776) (w : World) : Calls Tryz.prog 34 #[.int .i64 x] w fun e w' => e = .returned (.int .i64 (x % 1048576)) ∧ w = w' := by
  have ha := and20 x h0 (by omega)
  obtain ⟨z, hz⟩ : ∃ z, x % 1048576 = z := ⟨_, rfl⟩
  rw [hz] at ha ⊢
  clear hz h0 h1
  go_enter Tryz.func34, Tryz.ntmps34
  go_wp2_with fail
  go_ret
  exact ⟨rfl, rfl⟩
/-- numbers, each ahead of its width -/
def flatW (ws : List (Int × Int)) : List Value := ws.flatMap fun x => [.int .i64 x.1, .int .i64 x.2]
theorem len_flatW (ws : List (Int × Int)) : (flatW ws).length = 2 * ws.length := by
  induction ws with
  | nil => rfl
  | cons a l ih => rw [flatW, List.flatMap_cons, List.length_append, ← flatW, ih]; simp; omega
theorem flatW_at : ∀ (ws : List (Int × Int)) (j : Nat) (x : Int × Int), ws[j]? = some x → (flatW ws)[2 * j]? = some (.int .i64 x.1) ∧ (flatW ws)[2 * j + 1]? = some (.int .i64 x.2)
  | [], j, x, h => by simp at h
  | a :: l, 0, x, h => by simp at h; subst h; exact ⟨rfl, rfl⟩
  | a :: l, j + 1, x, h => by
    simp at h
    have := flatW_at l j x h
    have e : 2 * (j + 1) = 2 * j + 1 + 1 := by omega
    rw [flatW, List.flatMap_cons, e]
    exact this
theorem layW_take {ws : List (Int × Int)} {j : Nat} {x : Int × Int} (h : ws[j]? = some x) : layW (ws.take (j + 1)) = layW (ws.take j) ++ bitsOf x.1.toNat x.2.toNat := by
  rw [List.take_add_one, h]
  simp [layW, List.flatMap_append]
theorem layW_le (ws : List (Int × Int)) (j : Nat) : (layW (ws.take j)).length ≤ (layW ws).length := by
  have : layW ws = layW (ws.take j) ++ layW (ws.drop j) := by rw [← layW_app, List.take_append_drop]
  rw [this, List.length_append]; omega
/-- what put leaves -/
def BPut (w : World) (B p : Nat) (A : Option Addr) (bs : List Bool) (e : Ending) (w' : World) : Prop := ∃ A', e = .returned (.tuple #[]) ∧ WrAt w' B p A' bs ∧ Keep (WrS p A) w w' ∧ (∀ k, InRow A' k → InRow A k ∨ w.heap.size ≤ k)

set_option maxHeartbeats 4000000 in
set_option maxRecDepth 100000 in
theorem bput_any (B p : Nat) (A : Option Addr) (bs : List Bool) (ws : List (Int × Int)) (gl nl cl : Nat) (w : World) (hw : WrAt w B p A bs) (hB : B ≤ w.heap.size) (hg : ∀ x ∈ ws, GoodW x) (hb : Blk w gl 3 (flatW ws).toArray) (hf : bs.length + (layW ws).length ≤ 8184) (hnl : nl = 2 * ws.length) (hws : ws.length ≤ 100) :
    Calls Tryz.prog 35 #[.pointer (some ⟨p, 0, none⟩), .slice (some ⟨gl, 0, none⟩) nl cl] w (BPut w B p A (bs ++ layW ws)) := by
  have hlw := len_flatW ws
  have HG := Lib.hid hg
  have HB := Lib.hid hb
  have HF := Lib.hid hf
  have HBz := Lib.hid hB
  have HW0 : Hid (WrAt w B p A (bs ++ layW (ws.take 0))) := Lib.hid (by simpa [layW] using hw)
  have hn : nl ≤ 1000 := by omega
  have HNl : Hid (nl = 2 * ws.length) := Lib.hid hnl
  clear hw hg hb hf hB hlw hnl
  go_enter Tryz.func35, Tryz.ntmps35
  go_wp2_with fail
  go_loopw [4] (fun i wr => ∃ (m : Nat) (A1 : Option Addr), m ≤ nl ∧ i = .int .i64 m ∧ Hid (∃ j, m = 2 * j ∧ j ≤ ws.length ∧ WrAt wr B p A1 (bs ++ layW (ws.take j)) ∧ Keep (WrS p A) w wr ∧ (∀ k, InRow A1 k → InRow A k ∨ w.heap.size ≤ k))) (fun i _ => nl - (intOf i).toNat)
  case atStart => exact ⟨0, A, by omega, rfl, Lib.hid ⟨0, rfl, by omega, HW0.out, Keep.refl _ _, fun k hk => .inl hk⟩⟩
  case round =>
    obtain ⟨m, A1, hm, rfl, HH⟩ := hrel
    by_cases h0 : m + 1 < nl
    · have hmz : (m : Int) + 1 < (nl : Int) := by omega
      have hmz1 : (m : Int) < (nl : Int) := by omega
      have hm0 : (0 : Int) ≤ (m : Int) := by omega
      have hm1 : (0 : Int) ≤ (m : Int) + 1 := by omega
      have hwm : IntKind.i64.wrap ((m : Int) + 1) = (m : Int) + 1 := IntWalk.i64_in _ (by omega)
      have hwm2 : IntKind.i64.wrap (m : Int) = (m : Int) := IntWalk.i64_in _ (by omega)
      have htn : ((m : Int) + 1).toNat = m + 1 := by omega
      obtain ⟨j, hj, hjl, hwj, hkj, hrj⟩ := HH.out
      obtain ⟨x, hx⟩ : ∃ x, ws[j]? = some x := ⟨_, List.getElem?_eq_getElem (by have := HNl.out; omega)⟩
      have hgx := HG.out x (List.mem_of_getElem? hx)
      obtain ⟨f1, f2⟩ := flatW_at ws j x hx
      have hbr := HB.out.keep hkj (fun h => by
        rcases h with h | h
        · obtain ⟨c, h1, _⟩ := HW0.out
          exact Blk.ne_ HB.out h1 (by decide) h
        · obtain ⟨c, _, h1, _⟩ := HW0.out
          exact h1.ne_blk HB.out (by decide) _ h rfl)
      have e0 : wr.cell? ⟨gl, m, none⟩ = some (.int .i64 x.1) := by rw [hbr.cell m, hj, List.getElem?_toArray]; exact f1
      have e1 : wr.cell? ⟨gl, m + 1, none⟩ = some (.int .i64 x.2) := by rw [hbr.cell (m + 1), hj, List.getElem?_toArray]; exact f2
      obtain ⟨x1, x2⟩ := x
      have hw1 := hgx.w; have hw2 := hgx.lo; have hw3 := hgx.hi
      simp only at e0 e1 hw1 hw2 hw3
      obtain ⟨xn, rfl⟩ : ∃ k : Nat, x1 = k := ⟨x1.toNat, by omega⟩
      obtain ⟨xw, rfl⟩ : ∃ k : Nat, x2 = k := ⟨x2.toNat, by omega⟩
      have hlt : xn < 2 ^ xw := by rw [Int.toNat_natCast] at hw3; exact_mod_cast hw3
      have hle : xn ≤ 9223372036854775807 := by
        have h2 : 2 ^ xw ≤ 2 ^ 32 := Nat.pow_le_pow_right (by omega) (by omega)
        omega
      have htk := layW_take hx
      have hll := layW_le ws (j + 1)
      rw [htk, List.length_append, length_bitsOf] at hll
      simp only [Int.toNat_natCast] at htk hll
      have HC := Lib.hid (fun V (hV : WrAt V B p A1 (bs ++ layW (ws.take j))) (hs : B ≤ V.heap.size) => wput_ok B p A1 (bs ++ layW (ws.take j)) xw xn (by omega) (by omega) hlt hle (by rw [List.length_append]; have := HF.out; omega) V hV hs)
      have HWj := Lib.hid hwj
      have HKj := Lib.hid hkj
      have HRj := Lib.hid hrj
      have HTk := Lib.hid htk
      have HJ : Hid (m = 2 * j ∧ j < ws.length) := Lib.hid ⟨hj, by have := HNl.out; omega⟩
      have HBr := Lib.hid hbr
      clear hj hjl hwj hkj hrj hx hgx f1 f2 hbr hw1 hw2 hw3 hlt hle htk hll HH
      have HS2 : Hid (∀ W', Keep Never wr W' → Keep Never wr W' ∧ W'.cell? ⟨gl, m, none⟩ = some (.int .i64 xn) ∧ W'.cell? ⟨gl, m + 1, none⟩ = some (.int .i64 xw)) := Lib.hid (fun W' h => ⟨h, (h.cell (cell_lt e0) (fun h => h)).trans e0, (h.cell (cell_lt e1) (fun h => h)).trans e1⟩)
      go_wp2_with fail
      go_still_tail 10, (by kernel_rfl)
      change wpList _ _ _ _ _ wr.drew
      go_wp2_with (refine (HC.out _ HWj.out.drew (Nat.le_trans HBz.out HKj.out.size)).mono ?_; rintro en w2 ⟨A2, rfl, hw2, hk2, hr2⟩
                   have HW2 := Lib.hid hw2
                   have HK2 := Lib.hid hk2
                   have HR2 := Lib.hid hr2
                   clear hw2 hk2 hr2)
      refine ⟨⟨m + 2, A2, by omega, rfl, Lib.hid ⟨j + 1, by have := HJ.out; omega, by have := HJ.out; omega, ?_, ?_, ?_⟩⟩, ?_⟩
      · rw [HTk.out, ← List.append_assoc]; exact HW2.out
      · exact HKj.out.then_ HK2.out.drewL (fun i hi h => by
          rcases h with h | h
          · exact .inl h
          · rcases HRj.out i h with h | h
            · exact .inr h
            · omega)
      · intro k hk
        rcases HR2.out k hk with h | h
        · exact HRj.out k h
        · right; exact Nat.le_trans HKj.out.size h
      · simp [intOf]; omega
    · have hmz : ¬ (m : Int) + 1 < (nl : Int) := by omega
      have HFin : Hid (WrAt wr B p A1 (bs ++ layW ws) ∧ Keep (WrS p A) w wr ∧ (∀ k, InRow A1 k → InRow A k ∨ w.heap.size ≤ k)) := Lib.hid (by
        obtain ⟨j, hj, hjl, hwj, hkj, hrj⟩ := HH.out
        have : j = ws.length := by have := HNl.out; omega
        rw [this, List.take_length] at hwj
        exact ⟨hwj, hkj, hrj⟩)
      have hwm : IntKind.i64.wrap ((m : Int) + 1) = (m : Int) + 1 := IntWalk.i64_in _ (by omega)
      go_wp2_with fail
      refine bodyPost_ret (results_none rfl _ _ _) rfl ?_
      exact ⟨A1, rfl, HFin.out⟩

end Go.Proofs.YtpahfobijmmmmaaGreat

namespace Go.Proofs.YtpahfobijmmmmaaGreat
open Go.RowKit

theorem layW_len : ∀ {ws : List (Int × Int)}, (∀ x ∈ ws, GoodW x) → (layW ws).length ≤ 32 * ws.length
  | [], _ => by simp [layW]
  | a :: l, h => by
    have h1 := layW_len (ws := l) (fun x hx => h x (by simp [hx]))
    have h2 := (h a (by simp)).w
    rw [layW_cons, List.length_append, length_bitsOf, List.length_cons]
    omega
theorem wrs_not {w : World} {B p : Nat} {A : Option Addr} {bs : List Bool} (h : WrAt w B p A bs) {g t : Nat} {cs : Array Value} (hg : Blk w g t cs) (h1 : t ≠ 70) (h2 : t ≠ 5) : ¬ WrS p A g := by
  obtain ⟨c, hb, ho, _, _⟩ := h
  rintro (e | e)
  · exact Blk.ne_ hg hb h1 e
  · exact ho.ne_blk hg (fun e => h2 e.symm) _ e rfl
/-- the words ahead of the locks -/
def sixW (k0 tr tt un : Int) (n1 : Nat) : List (Int × Int) := [(k0, 8), (tr, 24), (tt, 32), (un / 1048576, 21), (un % 1048576, 20), ((n1 : Int), 8)]
def lokW (l : List Lok) (k : Nat) : List (Int × Int) := (l.take k).flatMap wordsL
def spW (h : List Sp) (k : Nat) : List (Int × Int) := (h.take k).flatMap wordsS
theorem lokW_len (l : List Lok) : ∀ k, (lokW l k).length ≤ 3 * k
  | 0 => by simp [lokW]
  | k + 1 => by
    have h := lokW_len l k
    unfold lokW at h ⊢
    rw [List.take_add_one, List.flatMap_append, List.length_append]
    cases l[k]? with
    | none =>
      have e : (List.flatMap wordsL (none : Option Lok).toList).length = 0 := rfl
      omega
    | some s =>
      have e : (List.flatMap wordsL (some s : Option Lok).toList).length = 3 := rfl
      omega
theorem spW_len (l : List Sp) : ∀ k, (spW l k).length ≤ 3 * k
  | 0 => by simp [spW]
  | k + 1 => by
    have h := spW_len l k
    unfold spW at h ⊢
    rw [List.take_add_one, List.flatMap_append, List.length_append]
    cases l[k]? with
    | none =>
      have e : (List.flatMap wordsS (none : Option Sp).toList).length = 0 := rfl
      omega
    | some s =>
      have e : (List.flatMap wordsS (some s : Option Sp).toList).length = 3 := rfl
      omega
theorem lokW_next {l : List Lok} {k : Nat} {s : Lok} (h : l[k]? = some s) : lokW l (k + 1) = lokW l k ++ wordsL s := by unfold lokW; rw [List.take_add_one, h, List.flatMap_append]; simp
theorem spW_next {l : List Sp} {k : Nat} {s : Sp} (h : l[k]? = some s) : spW l (k + 1) = spW l k ++ wordsS s := by unfold spW; rw [List.take_add_one, h, List.flatMap_append]; simp
theorem layW_fit {a b : List (Int × Int)} (ha : ∀ x ∈ a, GoodW x) (hb : ∀ x ∈ b, GoodW x) (h : a.length + b.length ≤ 250) : (layW a).length + (layW b).length ≤ 8184 := by
  have h1 := layW_len ha
  have h2 := layW_len hb
  omega
/-- what Encode answers -/
def EncRet (n : Nt) (w : World) (e : Ending) (w' : World) : Prop := ∃ A c, e = .returned (.tuple #[.slice A (if mayN n = true then encN n else []).length c, .int .i64 (if mayN n = true then 0 else 1)]) ∧ Own w' w.heap.size 5 1 A (if mayN n = true then encN n else []).length c ((if mayN n = true then encN n else []).map u8v) ∧ Keep Never w w'
theorem put_lit (BB : Nat) (A : Option Addr) (pre ws : List (Int × Int)) (WX X : World) (hw : WrAt WX BB BB A (layW pre)) (hk : Keep Never WX X) (hp : ∀ x ∈ pre, GoodW x) (hg : ∀ x ∈ ws, GoodW x) (hf : pre.length + ws.length ≤ 250) (hws : ws.length ≤ 100) (nl : Nat) (hnl : nl = 2 * ws.length) (cs : Array Value) (hcs : cs = (flatW ws).toArray) :
    Calls Tryz.prog 35 #[.pointer (some ⟨BB, 0, none⟩), .slice (some ⟨X.heap.size, 0, none⟩) nl nl] (X.alloc (.cells cs 3)) fun e w' => ∃ A', e = .returned (.tuple #[]) ∧ WrAt w' BB BB A' (layW (pre ++ ws)) ∧ Keep (WrS BB A) WX w' := by
  subst hcs
  have hw1 : WrAt (X.alloc (.cells (flatW ws).toArray 3)) BB BB A (layW pre) := hw.keep (hk.alloc _) (fun _ _ h => h)
  have hB := hw1.rd
  refine (bput_any BB BB A (layW pre) ws X.heap.size nl nl _ hw1 (by omega) hg (Blk.new _ _ _) (layW_fit hp hg hf) hnl hws).mono ?_
  rintro e w' ⟨A', rfl, h1, h2, _⟩
  refine ⟨A', rfl, by rw [layW_app]; exact h1, ?_⟩
  exact ((hk.alloc _).mono (fun _ _ h => h.elim)).trans h2
theorem sixW_good {k0 tr tt un : Int} {l : List Lok} {h : List Sp} {n1 : Nat} (hn : l.length = n1) (hg : ∀ x ∈ wordsN (k0, tr, tt, un, l, h), GoodW x) : ∀ x ∈ sixW k0 tr tt un n1, GoodW x := by
  intro x hx
  refine hg x ?_
  unfold wordsN
  rw [List.mem_append]
  left
  rw [← hn] at hx
  exact hx
theorem one_good {k0 tr tt un : Int} {l : List Lok} {h : List Sp} {n2 : Nat} (hn : h.length = n2) (hg : ∀ x ∈ wordsN (k0, tr, tt, un, l, h), GoodW x) : ∀ x ∈ [((n2 : Int), (8 : Int))], GoodW x := by
  intro x hx
  refine hg x ?_
  unfold wordsN
  rw [List.mem_append, List.mem_append, List.mem_append]
  right; right; left
  rw [← hn] at hx
  exact hx
theorem lokW_good {l : List Lok} (h : ∀ s ∈ l, ∀ x ∈ wordsL s, GoodW x) (k : Nat) : ∀ x ∈ lokW l k, GoodW x := by
  intro x hx
  obtain ⟨s, hs, hx⟩ := List.mem_flatMap.1 hx
  exact h s (List.mem_of_mem_take hs) x hx
theorem spW_good {l : List Sp} (h : ∀ s ∈ l, ∀ x ∈ wordsS s, GoodW x) (k : Nat) : ∀ x ∈ spW l k, GoodW x := by
  intro x hx
  obtain ⟨s, hs, hx⟩ := List.mem_flatMap.1 hx
  exact h s (List.mem_of_mem_take hs) x hx
theorem app_good {a b : List (Int × Int)} (ha : ∀ x ∈ a, GoodW x) (hb : ∀ x ∈ b, GoodW x) : ∀ x ∈ a ++ b, GoodW x := fun x hx => (List.mem_append.1 hx).elim (ha x) (hb x)

set_option maxHeartbeats 16000000 in
set_option maxRecDepth 100000 in
theorem enc20_any (k0 tr tt un : Int) (A1 A2 : Option Addr) (n1 c1 n2 c2 B : Nat) (l : List Lok) (h : List Sp) (w : World) (hl : SpAt w B A1 n1 c1 l) (hh : SpAt w B A2 n2 c2 h) (hn1 : n1 ≤ 1000000) (hn2 : n2 ≤ 1000000) (hB : B ≤ w.heap.size) (hb : -9223372036854775808 ≤ tt ∧ tt ≤ 9223372036854775807) :
    Calls Tryz.prog 16 #[.agg #[.int .i64 k0, .int .i64 tr, .int .i64 tt, .int .i64 un, .slice A1 n1 c1, .slice A2 n2 c2]] w (EncRet (k0, tr, tt, un, l, h) w) := by
  have HMy : Hid (∀ V, Keep Never w V → Calls Tryz.prog 18 #[.agg #[.int .i64 k0, .int .i64 tr, .int .i64 tt, .int .i64 un, .slice A1 n1 c1, .slice A2 n2 c2]] V fun e w' => e = .returned (.bool (mayN (k0, tr, tt, un, l, h))) ∧ Keep Never V w') := Lib.hid (fun V hV => may20_any k0 tr tt un A1 A2 n1 c1 n2 c2 B l h V (hl.keep hV) (hh.keep hV) hn1 hn2 (Nat.le_trans hB hV.size) hb)
  have HLl := Lib.hid hl
  have HLh := Lib.hid hh
  have HN1 : Hid (l.length = n1) := Lib.hid hl.len
  have HN2 : Hid (h.length = n2) := Lib.hid hh.len
  clear hl hh hb hn1 hn2
  obtain ⟨w1, hw1⟩ : ∃ V : World, w.alloc (.cells #[.int .i64 k0, .int .i64 tr, .int .i64 tt, .int .i64 un, .slice A1 n1 c1, .slice A2 n2 c2] 34) = V := ⟨_, rfl⟩
  have kw1 : Keep Never w w1 := by rw [← hw1]; exact (Keep.refl _ _).alloc _
  have bw1 := Blk.new w 34 #[.int .i64 k0, .int .i64 tr, .int .i64 tt, .int .i64 un, .slice A1 n1 c1, .slice A2 n2 c2]
  rw [hw1] at bw1
  have HB1 := Lib.hid bw1
  have HK := Lib.hid kw1
  clear kw1 bw1
  obtain ⟨my, hmy⟩ : ∃ z, mayN (k0, tr, tt, un, l, h) = z := ⟨_, rfl⟩
  rw [hmy] at HMy
  have HMi := Lib.hid hmy
  have HC := Lib.hid (HMy.out w1 HK.out)
  clear HMy
  have nt0 : w1.cell? ⟨w.heap.size, 0, none⟩ = some (.int .i64 k0) := HB1.out.cell 0
  have nt1 : w1.cell? ⟨w.heap.size, 1, none⟩ = some (.int .i64 tr) := HB1.out.cell 1
  have nt2 : w1.cell? ⟨w.heap.size, 2, none⟩ = some (.int .i64 tt) := HB1.out.cell 2
  have nt3 : w1.cell? ⟨w.heap.size, 3, none⟩ = some (.int .i64 un) := HB1.out.cell 3
  have nt4 : w1.cell? ⟨w.heap.size, 4, none⟩ = some (.slice A1 n1 c1) := HB1.out.cell 4
  have nt5 : w1.cell? ⟨w.heap.size, 5, none⟩ = some (.slice A2 n2 c2) := HB1.out.cell 5
  unfold EncRet
  rw [hmy]
  clear hmy
  go_enter Tryz.func16, Tryz.ntmps16
  go_wp2_with fail
  refine HC.out.mono ?_
  rintro en w101 ⟨rfl, hk1⟩
  have HK1 := Lib.hid (HK.out.trans hk1)
  have Hnt1 := Lib.hid (HB1.out.keep hk1 (fun h => h))
  clear nt0 nt1 nt2 nt3 nt4 nt5 hk1 HC
  clear hw1
  cases my with
  | false =>
    simp only []
    go_wp2_with fail
    go_ret2
    exact ⟨none, 0, rfl, Own.nil _ _ _ _, HK1.out⟩
  | true =>
  simp only []
  have hm := mayN_iff.1 HMi.out
  have HM := Lib.hid hm
  have hun : 0 ≤ un ∧ un ≤ 1099511627776 := hm.till
  have h24 : n1 ≤ 24 := by have h1 := hm.few; have h2 := HN1.out; simp only at h1; omega
  have h16 : n2 ≤ 16 := by have h1 := hm.here; have h2 := HN2.out; simp only at h1; omega
  clear hm
  have HGl : Hid (∀ s ∈ l, ∀ x ∈ wordsL s, GoodW x) := Lib.hid (fun s hs => wordsL_good (HM.out.lok s hs))
  have HGs : Hid (∀ s ∈ h, ∀ x ∈ wordsS s, GoodW x) := Lib.hid (fun s hs => wordsS_good (HM.out.norm.1 s hs) (HM.out.near s hs))
  have HGn : Hid (∀ x ∈ wordsN (k0, tr, tt, un, l, h), GoodW x) := Lib.hid (wordsN_good HM.out)
  have HW0 := Lib.hid (wr_new w101)
  obtain ⟨BB, hBB⟩ : ∃ q, w101.heap.size = q := ⟨_, rfl⟩
  have HBB : Hid (w.heap.size ≤ BB) := Lib.hid (by rw [← hBB]; exact HK1.out.size)
  obtain ⟨w2, hw2⟩ : ∃ V : World, w101.alloc (.cells #[.slice none 0 0, .int .i64 0] 70) = V := ⟨_, rfl⟩
  have kx : Keep Never w101 w2 := by rw [← hw2]; exact (Keep.refl _ _).alloc _
  rw [hw2, hBB] at HW0
  have HK2 := Lib.hid (HK1.out.trans kx)
  have Hnt2 := Lib.hid (Hnt1.out.keep kx (fun h => h))
  clear kx
  have HW : Hid (WrAt w2 BB BB none (layW [])) := HW0
  have eg := enters_of Tryz.func34 (by kernel_rfl) rfl
  clear HW0
  have nt0 : w2.cell? ⟨w.heap.size, 0, none⟩ = some (.int .i64 k0) := Hnt2.out.cell 0
  have nt1 : w2.cell? ⟨w.heap.size, 1, none⟩ = some (.int .i64 tr) := Hnt2.out.cell 1
  have nt2 : w2.cell? ⟨w.heap.size, 2, none⟩ = some (.int .i64 tt) := Hnt2.out.cell 2
  have nt3 : w2.cell? ⟨w.heap.size, 3, none⟩ = some (.int .i64 un) := Hnt2.out.cell 3
  have nt4 : w2.cell? ⟨w.heap.size, 4, none⟩ = some (.slice A1 n1 c1) := Hnt2.out.cell 4
  have nt5 : w2.cell? ⟨w.heap.size, 5, none⟩ = some (.slice A2 n2 c2) := Hnt2.out.cell 5
  have HS2 : Hid (∀ W', Keep (WrS BB none) w2 W' → Keep (WrS BB none) w2 W' ∧ W'.cell? ⟨w.heap.size, 0, none⟩ = some (.int .i64 k0) ∧ W'.cell? ⟨w.heap.size, 1, none⟩ = some (.int .i64 tr) ∧ W'.cell? ⟨w.heap.size, 2, none⟩ = some (.int .i64 tt) ∧ W'.cell? ⟨w.heap.size, 3, none⟩ = some (.int .i64 un) ∧ W'.cell? ⟨w.heap.size, 4, none⟩ = some (.slice A1 n1 c1) ∧ W'.cell? ⟨w.heap.size, 5, none⟩ = some (.slice A2 n2 c2)) := Lib.hid (fun W' hW => ⟨hW, (hW.cell (cell_lt nt0) (wrs_not HW.out Hnt2.out (by decide) (by decide))).trans nt0, (hW.cell (cell_lt nt1) (wrs_not HW.out Hnt2.out (by decide) (by decide))).trans nt1, (hW.cell (cell_lt nt2) (wrs_not HW.out Hnt2.out (by decide) (by decide))).trans nt2, (hW.cell (cell_lt nt3) (wrs_not HW.out Hnt2.out (by decide) (by decide))).trans nt3, (hW.cell (cell_lt nt4) (wrs_not HW.out Hnt2.out (by decide) (by decide))).trans nt4, (hW.cell (cell_lt nt5) (wrs_not HW.out Hnt2.out (by decide) (by decide))).trans nt5⟩)
  go_wp2_with fail
  clear nt0 nt1 nt2 nt3 nt4 nt5
  refine wp_region_noPanic ?_
  refine wp_region_held_drew (S := (fun W' => Keep (WrS BB none) w2 W' ∧ W'.cell? ⟨w.heap.size, 0, none⟩ = some (.int .i64 k0) ∧ W'.cell? ⟨w.heap.size, 1, none⟩ = some (.int .i64 tr) ∧ W'.cell? ⟨w.heap.size, 2, none⟩ = some (.int .i64 tt) ∧ W'.cell? ⟨w.heap.size, 3, none⟩ = some (.int .i64 un) ∧ W'.cell? ⟨w.heap.size, 4, none⟩ = some (.slice A1 n1 c1) ∧ W'.cell? ⟨w.heap.size, 5, none⟩ = some (.slice A2 n2 c2))) (by kernel_rfl) ?_ (fun hHeld => ?_)
  · exact HS2.out _ ((Keep.refl (WrS BB none) w2).drew)
  refine wpAnyH_take (i := 0) (oi := ?_) (v := ?_) ?_ (by kernel_rfl) (by kernel_rfl) (by kernel_rfl) (fun _ _ _ h => h) (Or.inl ⟨?_, ?_⟩) (by assumption) ?_
  rotate_left 2
  · (simp only [List.getElem?_toArray, List.getElem?_cons_zero]; rfl)
  · rfl
  · (intro w hSw; (try dsimp only at hSw); go_simp; (try with_reducible rfl))
  try simp only [Act.put, List.setIfInBounds_toArray, List.set_cons_zero, List.set_cons_succ]
  refine wpAnyH_take (i := 1) (oi := ?_) (v := ?_) ?_ (by kernel_rfl) (by kernel_rfl) (by kernel_rfl) (fun _ _ _ h => h) (Or.inl ⟨?_, ?_⟩) (by assumption) ?_
  rotate_left 2
  · (simp only [List.getElem?_toArray, List.getElem?_cons_succ, List.getElem?_cons_zero]; rfl)
  · rfl
  · (intro w hSw; (try dsimp only at hSw); go_simp; (try with_reducible rfl))
  try simp only [Act.put, List.setIfInBounds_toArray, List.set_cons_zero, List.set_cons_succ]
  refine wpAnyH_take (i := 2) (oi := ?_) (v := ?_) ?_ (by kernel_rfl) (by kernel_rfl) (by kernel_rfl) (fun _ _ _ h => h) (Or.inl ⟨?_, ?_⟩) (by assumption) ?_
  rotate_left 2
  · (simp only [List.getElem?_toArray, List.getElem?_cons_succ, List.getElem?_cons_zero]; rfl)
  · rfl
  · (intro w hSw; (try dsimp only at hSw); go_simp; (try with_reducible rfl))
  try simp only [Act.put, List.setIfInBounds_toArray, List.set_cons_zero, List.set_cons_succ]
  refine wpAnyH_take (i := 3) (oi := ?_) (v := ?_) ?_ (by kernel_rfl) (by kernel_rfl) (by kernel_rfl) (fun _ _ _ h => h) (Or.inl ⟨?_, ?_⟩) (by assumption) ?_
  rotate_left 2
  · (simp only [List.getElem?_toArray, List.getElem?_cons_succ, List.getElem?_cons_zero]; rfl)
  · rfl
  · (intro w hSw; (try dsimp only at hSw); go_simp; (try with_reducible rfl))
  try simp only [Act.put, List.setIfInBounds_toArray, List.set_cons_zero, List.set_cons_succ]
  refine wpAnyH_take (i := 4) (oi := ?_) (v := ?_) ?_ (by kernel_rfl) (by kernel_rfl) (by kernel_rfl) (fun _ _ _ h => h) (Or.inl ⟨?_, ?_⟩) (by assumption) ?_
  rotate_left 2
  · (simp only [List.getElem?_toArray, List.getElem?_cons_succ, List.getElem?_cons_zero]; rfl)
  · rfl
  · (intro w hSw; (try dsimp only at hSw); go_simp; (try with_reducible rfl))
  try simp only [Act.put, List.setIfInBounds_toArray, List.set_cons_zero, List.set_cons_succ]
  refine wpAnyH_take (i := 5) (oi := ?_) (v := ?_) ?_ (by kernel_rfl) (by kernel_rfl) (by kernel_rfl) (fun _ _ _ h => h) (Or.inl ⟨?_, ?_⟩) (by assumption) ?_
  rotate_left 2
  · (simp only [List.getElem?_toArray, List.getElem?_cons_succ, List.getElem?_cons_zero]; rfl)
  · rfl
  · (intro w hSw; (try dsimp only at hSw); go_simp; (try with_reducible rfl))
  try simp only [Act.put, List.setIfInBounds_toArray, List.set_cons_zero, List.set_cons_succ]
  refine wpAnyH_take (i := 6) (oi := ?_) (v := ?_) ?_ (by kernel_rfl) (by kernel_rfl) (by kernel_rfl) (fun _ _ _ h => h) (Or.inl ⟨?_, ?_⟩) (by assumption) ?_
  rotate_left 2
  · (simp only [List.getElem?_toArray, List.getElem?_cons_succ, List.getElem?_cons_zero]; rfl)
  · rfl
  · (intro w hSw; (try dsimp only at hSw); go_simp; (try with_reducible rfl))
  try simp only [Act.put, List.setIfInBounds_toArray, List.set_cons_zero, List.set_cons_succ]
  refine wpAnyH_take (i := 7) (oi := ?_) (v := ?_) ?_ (by kernel_rfl) (by kernel_rfl) (by kernel_rfl) (fun _ _ _ h => h) (Or.inl ⟨?_, ?_⟩) (by assumption) ?_
  rotate_left 2
  · (simp only [List.getElem?_toArray, List.getElem?_cons_succ, List.getElem?_cons_zero]; rfl)
  · rfl
  · (intro w hSw; (try dsimp only at hSw); go_simp; (try with_reducible rfl))
  try simp only [Act.put, List.setIfInBounds_toArray, List.set_cons_zero, List.set_cons_succ]
  refine wpAnyH_take (i := 8) (oi := ?_) (v := ?_) ?_ (by kernel_rfl) (by kernel_rfl) (by kernel_rfl) (fun _ _ _ h => h) (Or.inl ⟨?_, ?_⟩) (by assumption) ?_
  rotate_left 2
  · (simp only [List.getElem?_toArray, List.getElem?_cons_succ, List.getElem?_cons_zero]; rfl)
  · rfl
  · (intro w hSw; (try dsimp only at hSw); go_simp; (try with_reducible rfl))
  try simp only [Act.put, List.setIfInBounds_toArray, List.set_cons_zero, List.set_cons_succ]
  refine wpAnyH_take (i := 9) (oi := ?_) (v := ?_) ?_ (by kernel_rfl) (by kernel_rfl) (by kernel_rfl) (fun _ _ _ h => h) (Or.inl ⟨?_, ?_⟩) (by assumption) ?_
  rotate_left 2
  · (simp only [List.getElem?_toArray, List.getElem?_cons_succ, List.getElem?_cons_zero]; rfl)
  · rfl
  · (intro w hSw; (try dsimp only at hSw); go_simp; (try with_reducible rfl))
  try simp only [Act.put, List.setIfInBounds_toArray, List.set_cons_zero, List.set_cons_succ]
  refine wpAnyH_take (i := 10) (oi := ?_) (v := ?_) ?_ (by kernel_rfl) (by kernel_rfl) (by kernel_rfl) (fun _ _ _ h => h) (Or.inl ⟨?_, ?_⟩) (by assumption) ?_
  rotate_left 2
  · (simp only [List.getElem?_toArray, List.getElem?_cons_succ, List.getElem?_cons_zero]; rfl)
  · rfl
  · (intro w hSw; (try dsimp only at hSw); go_simp; (try with_reducible rfl))
  try simp only [Act.put, List.setIfInBounds_toArray, List.set_cons_zero, List.set_cons_succ]
  refine wpAnyH_take (i := 11) (oi := ?_) (v := ?_) ?_ (by kernel_rfl) (by kernel_rfl) (by kernel_rfl) (fun _ _ _ h => h) (Or.inl ⟨?_, ?_⟩) (by assumption) ?_
  rotate_left 2
  · (simp only [List.getElem?_toArray, List.getElem?_cons_succ, List.getElem?_cons_zero]; rfl)
  · rfl
  · (intro w hSw; (try dsimp only at hSw); go_simp; (try with_reducible rfl))
  try simp only [Act.put, List.setIfInBounds_toArray, List.set_cons_zero, List.set_cons_succ]
  refine wpAnyH_take (i := 12) (oi := ?_) (v := ?_) ?_ (by kernel_rfl) (by kernel_rfl) (by kernel_rfl) (fun _ _ _ h => h) (Or.inl ⟨?_, ?_⟩) (by assumption) ?_
  rotate_left 2
  · (simp only [List.getElem?_toArray, List.getElem?_cons_succ, List.getElem?_cons_zero]; rfl)
  · rfl
  · (intro w hSw; (try dsimp only at hSw); go_simp; (try with_reducible rfl))
  try simp only [Act.put, List.setIfInBounds_toArray, List.set_cons_zero, List.set_cons_succ]
  refine wpAnyH_take (i := 14) (oi := ?_) (v := ?_) ?_ (by kernel_rfl) (by kernel_rfl) (by kernel_rfl) (fun _ _ _ h => h) (Or.inl ⟨?_, ?_⟩) (by assumption) ?_
  rotate_left 2
  · (simp only [List.getElem?_toArray, List.getElem?_cons_succ, List.getElem?_cons_zero]; rfl)
  · rfl
  · (intro w hSw; (try dsimp only at hSw); go_simp; (try with_reducible rfl))
  try simp only [Act.put, List.setIfInBounds_toArray, List.set_cons_zero, List.set_cons_succ]
  refine wpAnyH_take (i := 15) (oi := ?_) (v := ?_) ?_ (by kernel_rfl) (by kernel_rfl) (by kernel_rfl) (fun _ _ _ h => h) (Or.inl ⟨?_, ?_⟩) (by assumption) ?_
  rotate_left 2
  · (simp only [List.getElem?_toArray, List.getElem?_cons_succ, List.getElem?_cons_zero]; rfl)
  · rfl
  · (intro w hSw; (try dsimp only at hSw); go_simp; (try with_reducible rfl))
  try simp only [Act.put, List.setIfInBounds_toArray, List.set_cons_zero, List.set_cons_succ]
  refine wpAnyH_take (i := 16) (oi := ?_) (v := ?_) ?_ (by kernel_rfl) (by kernel_rfl) (by kernel_rfl) (fun _ _ _ h => h) (Or.inl ⟨?_, ?_⟩) (by assumption) ?_
  rotate_left 2
  · (simp only [List.getElem?_toArray, List.getElem?_cons_succ, List.getElem?_cons_zero]; rfl)
  · rfl
  · (intro w hSw; (try dsimp only at hSw); go_simp; (try with_reducible rfl))
  try simp only [Act.put, List.setIfInBounds_toArray, List.set_cons_zero, List.set_cons_succ]
  refine wpAnyH_ready (rs := [13]) (by kernel_rfl) (by simp) ?_
  refine AllReadyH.cons (o := ?_) ?_ (fun K hK => ?_) AllReadyH.nil
  rotate_left 1
  · (simp only [List.getElem?_toArray, List.getElem?_cons_succ, List.getElem?_cons_zero]; rfl)
  go_simp
  (first | (refine (low_any _ (by first | exact hun.1 | omega) (by first | exact hun.2 | omega) _).mono ?_; rintro en w9 ⟨rfl, rfl⟩) | (go_at_fn 34; refine (low_any _ (by first | exact hun.1 | omega) (by first | exact hun.2 | omega) _).mono ?_; rintro en w9 ⟨rfl, rfl⟩))
  (try go_wp2_with fail)
  refine hK.out _ _ ?_ (fun hHeld => ?_)
  · (try dsimp only); exact HS2.out _ hHeld.1
  clear hK K
  try simp only [Act.put, List.setIfInBounds_toArray, List.set_cons_zero, List.set_cons_succ]
  refine wpAnyH_ready (rs := [17]) (by kernel_rfl) (by simp) ?_
  refine AllReadyH.cons (o := ?_) ?_ (fun K hK => ?_) AllReadyH.nil
  rotate_left 1
  · (simp only [List.getElem?_toArray, List.getElem?_cons_succ, List.getElem?_cons_zero]; rfl)
  go_simp
  skip
  (try go_wp2_with fail)
  refine hK.out _ _ ?_ (fun hHeld => ?_)
  · (try dsimp only); exact HS2.out _ (hHeld.1.alloc _)
  clear hK K
  try simp only [Act.put, List.setIfInBounds_toArray, List.set_cons_zero, List.set_cons_succ]
  refine wpAnyH_ready (rs := [18]) (by kernel_rfl) (by simp) ?_
  refine AllReadyH.cons (o := ?_) ?_ (fun K hK => ?_) AllReadyH.nil
  rotate_left 1
  · (simp only [List.getElem?_toArray, List.getElem?_cons_succ, List.getElem?_cons_zero]; rfl)
  go_simp
  refine (put_lit BB none ([]) (sixW k0 tr tt un n1) w2 w2.drew HW.out ((Keep.refl Never w2).drew) (fun _ h => by simp at h) (sixW_good HN1.out HGn.out) (by simp [sixW]) (by simp [sixW]) _ rfl _ rfl).mono ?_; rintro en w5 ⟨A5, rfl, hw5, hk5⟩
  (try go_wp2_with fail)
  refine hK.out _ _ ?_ (fun hHeld => ?_)
  · (try dsimp only); exact HS2.out _ hk5
  clear hK K
  try simp only [Act.put, List.setIfInBounds_toArray, List.set_cons_zero, List.set_cons_succ]
  refine wpAnyH_done (by kernel_rfl) ?_ _
  refine NoPanic.normal ?_
  have hS := hHeld
  have HW5 := Lib.hid hw5
  have HK5 := Lib.hid (HK2.out.then_ hk5 (fun i hi e => by have := wr_base HW.out HBB.out i e; omega))
  have Hnt5 := Lib.hid (Hnt2.out.keep hk5 (wrs_not HW.out Hnt2.out (by decide) (by decide)))
  clear hw5 hk5 hS hHeld HS2
  rw [List.nil_append] at HW5
  have nt0 : w5.cell? ⟨w.heap.size, 0, none⟩ = some (.int .i64 k0) := Hnt5.out.cell 0
  have nt1 : w5.cell? ⟨w.heap.size, 1, none⟩ = some (.int .i64 tr) := Hnt5.out.cell 1
  have nt2 : w5.cell? ⟨w.heap.size, 2, none⟩ = some (.int .i64 tt) := Hnt5.out.cell 2
  have nt3 : w5.cell? ⟨w.heap.size, 3, none⟩ = some (.int .i64 un) := Hnt5.out.cell 3
  have nt4 : w5.cell? ⟨w.heap.size, 4, none⟩ = some (.slice A1 n1 c1) := Hnt5.out.cell 4
  have nt5 : w5.cell? ⟨w.heap.size, 5, none⟩ = some (.slice A2 n2 c2) := Hnt5.out.cell 5
  go_wp2_with fail
  clear nt0 nt1 nt2 nt3 nt4 nt5
  have HWs : Hid (WrAt w5 BB BB A5 (layW (sixW k0 tr tt un n1 ++ lokW l 0))) := Lib.hid (by simpa [lokW] using HW5.out)
  go_loopw [37] (fun si wr => ∃ (k : Nat) (A9 : Option Addr), k ≤ n1 ∧ si = .int .i64 k ∧ Hid (WrAt wr BB BB A9 (layW (sixW k0 tr tt un n1 ++ lokW l k)) ∧ Keep Never w wr ∧ Blk wr w.heap.size 34 #[.int .i64 k0, .int .i64 tr, .int .i64 tt, .int .i64 un, .slice A1 n1 c1, .slice A2 n2 c2])) (fun si _ => n1 - (intOf si).toNat)
  case atStart => exact ⟨0, A5, by omega, rfl, Lib.hid ⟨HWs.out, HK5.out, Hnt5.out⟩⟩
  case round =>
    obtain ⟨k, A9, hk, rfl, HH⟩ := hrel
    have HWr := Lib.hid HH.out.1
    have HKr := Lib.hid HH.out.2.1
    have Hntr := Lib.hid HH.out.2.2
    clear HH
    by_cases h0 : k < n1
    · have hki : (k : Int) < (n1 : Int) := by omega
      obtain ⟨ad, s, hA, _, hsk, d0, d1, d2⟩ := (HLl.out.keep HKr.out).rd.sp h0
      have Hsk := Lib.hid hsk
      obtain ⟨s1, s2, s3⟩ := s
      have hlk := HM.out.lok (s1, s2, s3) (List.mem_of_getElem? hsk)
      simp only at d0 d1 d2 hlk
      have hun : 0 ≤ s3 ∧ s3 ≤ 1099511627776 := by omega
      have hgs := HGl.out (s1, s2, s3) (List.mem_of_getElem? hsk)
      have Hgs := Lib.hid hgs
      subst hA
      clear hsk hlk hgs
      obtain ⟨w7, hw7⟩ : ∃ V : World, wr.alloc (.cells #[.int .i64 s1, .int .i64 s2, .int .i64 s3] 57) = V := ⟨_, rfl⟩
      have kx : Keep Never wr w7 := by rw [← hw7]; exact (Keep.refl _ _).alloc _
      have bx := Blk.new wr 57 #[.int .i64 s1, .int .i64 s2, .int .i64 s3]
      rw [hw7] at bx
      obtain ⟨bl, hbl⟩ : ∃ q, wr.heap.size = q := ⟨_, rfl⟩
      rw [hbl] at bx
      have Hlk7 := Lib.hid bx
      have HK7 := Lib.hid (HKr.out.trans kx)
      have HW7 := Lib.hid (HWr.out.keep kx (fun _ _ h => h))
      have Hnt7 := Lib.hid (Hntr.out.keep kx (fun h => h))
      clear kx bx
      have lk0 : w7.cell? ⟨bl, 0, none⟩ = some (.int .i64 s1) := Hlk7.out.cell 0
      have lk1 : w7.cell? ⟨bl, 1, none⟩ = some (.int .i64 s2) := Hlk7.out.cell 1
      have lk2 : w7.cell? ⟨bl, 2, none⟩ = some (.int .i64 s3) := Hlk7.out.cell 2
      have nt0 : w7.cell? ⟨w.heap.size, 0, none⟩ = some (.int .i64 k0) := Hnt7.out.cell 0
      have nt1 : w7.cell? ⟨w.heap.size, 1, none⟩ = some (.int .i64 tr) := Hnt7.out.cell 1
      have nt2 : w7.cell? ⟨w.heap.size, 2, none⟩ = some (.int .i64 tt) := Hnt7.out.cell 2
      have nt3 : w7.cell? ⟨w.heap.size, 3, none⟩ = some (.int .i64 un) := Hnt7.out.cell 3
      have nt4 : w7.cell? ⟨w.heap.size, 4, none⟩ = some (.slice (some ad) n1 c1) := Hnt7.out.cell 4
      have nt5 : w7.cell? ⟨w.heap.size, 5, none⟩ = some (.slice A2 n2 c2) := Hnt7.out.cell 5
      have HS2 : Hid (∀ W', Keep (WrS BB A9) w7 W' → Keep (WrS BB A9) w7 W' ∧ W'.cell? ⟨bl, 0, none⟩ = some (.int .i64 s1) ∧ W'.cell? ⟨bl, 1, none⟩ = some (.int .i64 s2) ∧ W'.cell? ⟨bl, 2, none⟩ = some (.int .i64 s3) ∧ W'.cell? ⟨w.heap.size, 0, none⟩ = some (.int .i64 k0) ∧ W'.cell? ⟨w.heap.size, 1, none⟩ = some (.int .i64 tr) ∧ W'.cell? ⟨w.heap.size, 2, none⟩ = some (.int .i64 tt) ∧ W'.cell? ⟨w.heap.size, 3, none⟩ = some (.int .i64 un) ∧ W'.cell? ⟨w.heap.size, 4, none⟩ = some (.slice (some ad) n1 c1) ∧ W'.cell? ⟨w.heap.size, 5, none⟩ = some (.slice A2 n2 c2)) := Lib.hid (fun W' hW => ⟨hW, (hW.cell (cell_lt lk0) (wrs_not HW7.out Hlk7.out (by decide) (by decide))).trans lk0, (hW.cell (cell_lt lk1) (wrs_not HW7.out Hlk7.out (by decide) (by decide))).trans lk1, (hW.cell (cell_lt lk2) (wrs_not HW7.out Hlk7.out (by decide) (by decide))).trans lk2, (hW.cell (cell_lt nt0) (wrs_not HW7.out Hnt7.out (by decide) (by decide))).trans nt0, (hW.cell (cell_lt nt1) (wrs_not HW7.out Hnt7.out (by decide) (by decide))).trans nt1, (hW.cell (cell_lt nt2) (wrs_not HW7.out Hnt7.out (by decide) (by decide))).trans nt2, (hW.cell (cell_lt nt3) (wrs_not HW7.out Hnt7.out (by decide) (by decide))).trans nt3, (hW.cell (cell_lt nt4) (wrs_not HW7.out Hnt7.out (by decide) (by decide))).trans nt4, (hW.cell (cell_lt nt5) (wrs_not HW7.out Hnt7.out (by decide) (by decide))).trans nt5⟩)
      go_wp2_with fail
      clear hw7 hbl d0 d1 d2 lk0 lk1 lk2 nt0 nt1 nt2 nt3 nt4 nt5
      refine wp_region_noPanic ?_
      refine wp_region_held_drew (S := (fun W' => Keep (WrS BB A9) w7 W' ∧ W'.cell? ⟨bl, 0, none⟩ = some (.int .i64 s1) ∧ W'.cell? ⟨bl, 1, none⟩ = some (.int .i64 s2) ∧ W'.cell? ⟨bl, 2, none⟩ = some (.int .i64 s3) ∧ W'.cell? ⟨w.heap.size, 0, none⟩ = some (.int .i64 k0) ∧ W'.cell? ⟨w.heap.size, 1, none⟩ = some (.int .i64 tr) ∧ W'.cell? ⟨w.heap.size, 2, none⟩ = some (.int .i64 tt) ∧ W'.cell? ⟨w.heap.size, 3, none⟩ = some (.int .i64 un) ∧ W'.cell? ⟨w.heap.size, 4, none⟩ = some (.slice (some ad) n1 c1) ∧ W'.cell? ⟨w.heap.size, 5, none⟩ = some (.slice A2 n2 c2))) (by kernel_rfl) ?_ (fun hHeld => ?_)
      · exact HS2.out _ ((Keep.refl (WrS BB A9) w7).drew)
      refine wpAnyH_take (i := 0) (oi := ?_) (v := ?_) ?_ (by kernel_rfl) (by kernel_rfl) (by kernel_rfl) (fun _ _ _ h => h) (Or.inl ⟨?_, ?_⟩) (by assumption) ?_
      rotate_left 2
      · (simp only [List.getElem?_toArray, List.getElem?_cons_zero]; rfl)
      · rfl
      · (intro w hSw; (try dsimp only at hSw); go_simp; (try with_reducible rfl))
      try simp only [Act.put, List.setIfInBounds_toArray, List.set_cons_zero, List.set_cons_succ]
      refine wpAnyH_take (i := 1) (oi := ?_) (v := ?_) ?_ (by kernel_rfl) (by kernel_rfl) (by kernel_rfl) (fun _ _ _ h => h) (Or.inl ⟨?_, ?_⟩) (by assumption) ?_
      rotate_left 2
      · (simp only [List.getElem?_toArray, List.getElem?_cons_succ, List.getElem?_cons_zero]; rfl)
      · rfl
      · (intro w hSw; (try dsimp only at hSw); go_simp; (try with_reducible rfl))
      try simp only [Act.put, List.setIfInBounds_toArray, List.set_cons_zero, List.set_cons_succ]
      refine wpAnyH_take (i := 2) (oi := ?_) (v := ?_) ?_ (by kernel_rfl) (by kernel_rfl) (by kernel_rfl) (fun _ _ _ h => h) (Or.inl ⟨?_, ?_⟩) (by assumption) ?_
      rotate_left 2
      · (simp only [List.getElem?_toArray, List.getElem?_cons_succ, List.getElem?_cons_zero]; rfl)
      · rfl
      · (intro w hSw; (try dsimp only at hSw); go_simp; (try with_reducible rfl))
      try simp only [Act.put, List.setIfInBounds_toArray, List.set_cons_zero, List.set_cons_succ]
      refine wpAnyH_take (i := 3) (oi := ?_) (v := ?_) ?_ (by kernel_rfl) (by kernel_rfl) (by kernel_rfl) (fun _ _ _ h => h) (Or.inl ⟨?_, ?_⟩) (by assumption) ?_
      rotate_left 2
      · (simp only [List.getElem?_toArray, List.getElem?_cons_succ, List.getElem?_cons_zero]; rfl)
      · rfl
      · (intro w hSw; (try dsimp only at hSw); go_simp; (try with_reducible rfl))
      try simp only [Act.put, List.setIfInBounds_toArray, List.set_cons_zero, List.set_cons_succ]
      refine wpAnyH_take (i := 4) (oi := ?_) (v := ?_) ?_ (by kernel_rfl) (by kernel_rfl) (by kernel_rfl) (fun _ _ _ h => h) (Or.inl ⟨?_, ?_⟩) (by assumption) ?_
      rotate_left 2
      · (simp only [List.getElem?_toArray, List.getElem?_cons_succ, List.getElem?_cons_zero]; rfl)
      · rfl
      · (intro w hSw; (try dsimp only at hSw); go_simp; (try with_reducible rfl))
      try simp only [Act.put, List.setIfInBounds_toArray, List.set_cons_zero, List.set_cons_succ]
      refine wpAnyH_take (i := 5) (oi := ?_) (v := ?_) ?_ (by kernel_rfl) (by kernel_rfl) (by kernel_rfl) (fun _ _ _ h => h) (Or.inl ⟨?_, ?_⟩) (by assumption) ?_
      rotate_left 2
      · (simp only [List.getElem?_toArray, List.getElem?_cons_succ, List.getElem?_cons_zero]; rfl)
      · rfl
      · (intro w hSw; (try dsimp only at hSw); go_simp; (try with_reducible rfl))
      try simp only [Act.put, List.setIfInBounds_toArray, List.set_cons_zero, List.set_cons_succ]
      refine wpAnyH_take (i := 6) (oi := ?_) (v := ?_) ?_ (by kernel_rfl) (by kernel_rfl) (by kernel_rfl) (fun _ _ _ h => h) (Or.inl ⟨?_, ?_⟩) (by assumption) ?_
      rotate_left 2
      · (simp only [List.getElem?_toArray, List.getElem?_cons_succ, List.getElem?_cons_zero]; rfl)
      · rfl
      · (intro w hSw; (try dsimp only at hSw); go_simp; (try with_reducible rfl))
      try simp only [Act.put, List.setIfInBounds_toArray, List.set_cons_zero, List.set_cons_succ]
      refine wpAnyH_take (i := 7) (oi := ?_) (v := ?_) ?_ (by kernel_rfl) (by kernel_rfl) (by kernel_rfl) (fun _ _ _ h => h) (Or.inl ⟨?_, ?_⟩) (by assumption) ?_
      rotate_left 2
      · (simp only [List.getElem?_toArray, List.getElem?_cons_succ, List.getElem?_cons_zero]; rfl)
      · rfl
      · (intro w hSw; (try dsimp only at hSw); go_simp; (try with_reducible rfl))
      try simp only [Act.put, List.setIfInBounds_toArray, List.set_cons_zero, List.set_cons_succ]
      refine wpAnyH_take (i := 8) (oi := ?_) (v := ?_) ?_ (by kernel_rfl) (by kernel_rfl) (by kernel_rfl) (fun _ _ _ h => h) (Or.inl ⟨?_, ?_⟩) (by assumption) ?_
      rotate_left 2
      · (simp only [List.getElem?_toArray, List.getElem?_cons_succ, List.getElem?_cons_zero]; rfl)
      · rfl
      · (intro w hSw; (try dsimp only at hSw); go_simp; (try with_reducible rfl))
      try simp only [Act.put, List.setIfInBounds_toArray, List.set_cons_zero, List.set_cons_succ]
      refine wpAnyH_ready (rs := [9]) (by kernel_rfl) (by simp) ?_
      refine AllReadyH.cons (o := ?_) ?_ (fun K hK => ?_) AllReadyH.nil
      rotate_left 1
      · (simp only [List.getElem?_toArray, List.getElem?_cons_succ, List.getElem?_cons_zero]; rfl)
      go_simp
      (first | (refine (low_any _ (by first | exact hun.1 | omega) (by first | exact hun.2 | omega) _).mono ?_; rintro en w9 ⟨rfl, rfl⟩) | (go_at_fn 34; refine (low_any _ (by first | exact hun.1 | omega) (by first | exact hun.2 | omega) _).mono ?_; rintro en w9 ⟨rfl, rfl⟩))
      (try go_wp2_with fail)
      refine hK.out _ _ ?_ (fun hHeld => ?_)
      · (try dsimp only); exact HS2.out _ hHeld.1
      clear hK K
      try simp only [Act.put, List.setIfInBounds_toArray, List.set_cons_zero, List.set_cons_succ]
      refine wpAnyH_ready (rs := [10]) (by kernel_rfl) (by simp) ?_
      refine AllReadyH.cons (o := ?_) ?_ (fun K hK => ?_) AllReadyH.nil
      rotate_left 1
      · (simp only [List.getElem?_toArray, List.getElem?_cons_succ, List.getElem?_cons_zero]; rfl)
      go_simp
      skip
      (try go_wp2_with fail)
      refine hK.out _ _ ?_ (fun hHeld => ?_)
      · (try dsimp only); exact HS2.out _ (hHeld.1.alloc _)
      clear hK K
      try simp only [Act.put, List.setIfInBounds_toArray, List.set_cons_zero, List.set_cons_succ]
      refine wpAnyH_ready (rs := [11]) (by kernel_rfl) (by simp) ?_
      refine AllReadyH.cons (o := ?_) ?_ (fun K hK => ?_) AllReadyH.nil
      rotate_left 1
      · (simp only [List.getElem?_toArray, List.getElem?_cons_succ, List.getElem?_cons_zero]; rfl)
      go_simp
      refine (put_lit BB A9 (sixW k0 tr tt un n1 ++ lokW l k) (wordsL (s1, s2, s3)) w7 w7.drew HW7.out ((Keep.refl Never w7).drew) (app_good (sixW_good HN1.out HGn.out) (lokW_good HGl.out k)) Hgs.out (by have := lokW_len l k; rw [List.length_append]; simp only [sixW, wordsL, List.length_cons, List.length_nil]; omega) (by simp [wordsL]) _ rfl _ rfl).mono ?_; rintro en w8 ⟨A8, rfl, hw8, hk8⟩
      (try go_wp2_with fail)
      refine hK.out _ _ ?_ (fun hHeld => ?_)
      · (try dsimp only); exact HS2.out _ hk8
      clear hK K
      try simp only [Act.put, List.setIfInBounds_toArray, List.set_cons_zero, List.set_cons_succ]
      refine wpAnyH_done (by kernel_rfl) ?_ _
      refine NoPanic.normal ?_
      have hS := hHeld
      have HW8 := Lib.hid hw8
      have HK8 := Lib.hid (HK7.out.then_ hk8 (fun i hi e => by have := wr_base HW7.out HBB.out i e; omega))
      have Hlk8 := Lib.hid (Hlk7.out.keep hk8 (wrs_not HW7.out Hlk7.out (by decide) (by decide)))
      have Hnt8 := Lib.hid (Hnt7.out.keep hk8 (wrs_not HW7.out Hnt7.out (by decide) (by decide)))
      clear hw8 hk8 hS hHeld HS2
      rw [List.append_assoc, ← lokW_next Hsk.out] at HW8
      go_wp2_with fail
      go_roundw
      case measure => simp [intOf]; try omega
      case rel => exact ⟨k + 1, A8, by omega, by go_num, Lib.hid ⟨HW8.out, HK8.out, Hnt8.out⟩⟩
    · obtain rfl : k = n1 := by omega
      have hki : ¬ (k : Int) < (k : Int) := by omega
      have HWe : Hid (WrAt wr BB BB A9 (layW (sixW k0 tr tt un k ++ l.flatMap wordsL))) := Lib.hid (by have h1 := HWr.out; unfold lokW at h1; rwa [List.take_of_length_le (by rw [HN1.out]; exact Nat.le_refl _)] at h1)
      have nt0 : wr.cell? ⟨w.heap.size, 0, none⟩ = some (.int .i64 k0) := Hntr.out.cell 0
      have nt1 : wr.cell? ⟨w.heap.size, 1, none⟩ = some (.int .i64 tr) := Hntr.out.cell 1
      have nt2 : wr.cell? ⟨w.heap.size, 2, none⟩ = some (.int .i64 tt) := Hntr.out.cell 2
      have nt3 : wr.cell? ⟨w.heap.size, 3, none⟩ = some (.int .i64 un) := Hntr.out.cell 3
      have nt4 : wr.cell? ⟨w.heap.size, 4, none⟩ = some (.slice A1 k c1) := Hntr.out.cell 4
      have nt5 : wr.cell? ⟨w.heap.size, 5, none⟩ = some (.slice A2 n2 c2) := Hntr.out.cell 5
      have HGf : Hid (∀ x ∈ l.flatMap wordsL, GoodW x) := Lib.hid (fun x hx => by obtain ⟨s, hs, hx⟩ := List.mem_flatMap.1 hx; exact HGl.out s hs x hx)
      have HLf : Hid ((l.flatMap wordsL).length ≤ 3 * k) := Lib.hid (by have h1 := lokW_len l k; unfold lokW at h1; rwa [List.take_of_length_le (by rw [HN1.out]; exact Nat.le_refl _)] at h1)
      have HPl : Hid (∀ X, Keep Never wr X → Calls Tryz.prog 35 #[.pointer (some ⟨BB, 0, none⟩), .slice (some ⟨X.heap.size, 0, none⟩) 2 2] (X.alloc (.cells #[.int .i64 n2, .int .i64 8] 3)) fun e w' => ∃ A', e = .returned (.tuple #[]) ∧ WrAt w' BB BB A' (layW ((sixW k0 tr tt un k ++ l.flatMap wordsL) ++ [((n2 : Int), 8)])) ∧ Keep (WrS BB A9) wr w') := Lib.hid (fun X hX => put_lit BB A9 (sixW k0 tr tt un k ++ l.flatMap wordsL) [((n2 : Int), 8)] wr X HWe.out hX (app_good (sixW_good HN1.out HGn.out) HGf.out) (one_good HN2.out HGn.out) (by have h1 := HLf.out; rw [List.length_append]; simp only [sixW, List.length_cons, List.length_nil]; omega) (by simp) 2 rfl _ rfl)
      go_wp2_with fail
      clear nt0 nt1 nt2 nt3 nt4 nt5
      refine (HPl.out _ (by first | exact Keep.refl _ _ | exact (Keep.refl Never _).drew)).mono ?_
      rintro en w10 ⟨A10, rfl, hw10, hk10⟩
      have HW10 := Lib.hid hw10
      have HK10 := Lib.hid (HKr.out.then_ hk10 (fun i hi e => by have := wr_base HWr.out HBB.out i e; omega))
      have Hnt10 := Lib.hid (Hntr.out.keep hk10 (wrs_not HWr.out Hntr.out (by decide) (by decide)))
      have HWs2 : Hid (WrAt w10 BB BB A10 (layW ((sixW k0 tr tt un k ++ l.flatMap wordsL) ++ [((n2 : Int), 8)] ++ spW h 0))) := Lib.hid (by simpa [spW] using HW10.out)
      clear hw10 hk10 HPl
      have nt0 : w10.cell? ⟨w.heap.size, 0, none⟩ = some (.int .i64 k0) := Hnt10.out.cell 0
      have nt1 : w10.cell? ⟨w.heap.size, 1, none⟩ = some (.int .i64 tr) := Hnt10.out.cell 1
      have nt2 : w10.cell? ⟨w.heap.size, 2, none⟩ = some (.int .i64 tt) := Hnt10.out.cell 2
      have nt3 : w10.cell? ⟨w.heap.size, 3, none⟩ = some (.int .i64 un) := Hnt10.out.cell 3
      have nt4 : w10.cell? ⟨w.heap.size, 4, none⟩ = some (.slice A1 k c1) := Hnt10.out.cell 4
      have nt5 : w10.cell? ⟨w.heap.size, 5, none⟩ = some (.slice A2 n2 c2) := Hnt10.out.cell 5
      go_wp2_with fail
      clear nt0 nt1 nt2 nt3 nt4 nt5
      go_loopw [63] (fun si wr => ∃ (q : Nat) (A11 : Option Addr), q ≤ n2 ∧ si = .int .i64 q ∧ Hid (WrAt wr BB BB A11 (layW ((sixW k0 tr tt un k ++ l.flatMap wordsL) ++ [((n2 : Int), 8)] ++ spW h q)) ∧ Keep Never w wr ∧ Blk wr w.heap.size 34 #[.int .i64 k0, .int .i64 tr, .int .i64 tt, .int .i64 un, .slice A1 k c1, .slice A2 n2 c2])) (fun si _ => n2 - (intOf si).toNat)
      case atStart => exact ⟨0, A10, by omega, rfl, Lib.hid ⟨HWs2.out, HK10.out, Hnt10.out⟩⟩
      case round =>
        obtain ⟨q, A11, hq, rfl, HH⟩ := hrel
        have HWq := Lib.hid HH.out.1
        have HKq := Lib.hid HH.out.2.1
        have Hntq := Lib.hid HH.out.2.2
        clear HH
        rename World => wq
        by_cases h1 : q < n2
        · have hqi : (q : Int) < (n2 : Int) := by omega
          obtain ⟨ad, s, hA, _, hsk, d0, d1, d2⟩ := (HLh.out.keep HKq.out).rd.sp h1
          have Hsk := Lib.hid hsk
          obtain ⟨s1, s2, s3⟩ := s
          simp only at d0 d1 d2
          have hgs := HGs.out (s1, s2, s3) (List.mem_of_getElem? hsk)
          have Hgs := Lib.hid hgs
          subst hA
          clear hsk hgs
          obtain ⟨w7, hw7⟩ : ∃ V : World, wq.alloc (.cells #[.int .i64 s1, .int .i64 s2, .int .i64 s3] 74) = V := ⟨_, rfl⟩
          have kx : Keep Never wq w7 := by rw [← hw7]; exact (Keep.refl _ _).alloc _
          have bx := Blk.new wq 74 #[.int .i64 s1, .int .i64 s2, .int .i64 s3]
          rw [hw7] at bx
          obtain ⟨bl, hbl⟩ : ∃ q, wq.heap.size = q := ⟨_, rfl⟩
          rw [hbl] at bx
          have Hlk7 := Lib.hid bx
          have HK7 := Lib.hid (HKq.out.trans kx)
          have HW7 := Lib.hid (HWq.out.keep kx (fun _ _ h => h))
          have Hnt7 := Lib.hid (Hntq.out.keep kx (fun h => h))
          clear kx bx
          have lk0 : w7.cell? ⟨bl, 0, none⟩ = some (.int .i64 s1) := Hlk7.out.cell 0
          have lk1 : w7.cell? ⟨bl, 1, none⟩ = some (.int .i64 s2) := Hlk7.out.cell 1
          have lk2 : w7.cell? ⟨bl, 2, none⟩ = some (.int .i64 s3) := Hlk7.out.cell 2
          have HPs : Hid (∀ X, Keep Never w7 X → Calls Tryz.prog 35 #[.pointer (some ⟨BB, 0, none⟩), .slice (some ⟨X.heap.size, 0, none⟩) 6 6] (X.alloc (.cells #[.int .i64 s1, .int .i64 8, .int .i64 s2, .int .i64 20, .int .i64 s3, .int .i64 20] 3)) fun e w' => ∃ A', e = .returned (.tuple #[]) ∧ WrAt w' BB BB A' (layW (((sixW k0 tr tt un k ++ l.flatMap wordsL) ++ [((n2 : Int), 8)] ++ spW h q) ++ wordsS (s1, s2, s3))) ∧ Keep (WrS BB A11) w7 w') := Lib.hid (fun X hX => put_lit BB A11 ((sixW k0 tr tt un k ++ l.flatMap wordsL) ++ [((n2 : Int), 8)] ++ spW h q) (wordsS (s1, s2, s3)) w7 X HW7.out hX (app_good (app_good (app_good (sixW_good HN1.out HGn.out) HGf.out) (one_good HN2.out HGn.out)) (spW_good HGs.out q)) Hgs.out (by have h1 := HLf.out; have h2 := spW_len h q; simp only [List.length_append, sixW, wordsS, List.length_cons, List.length_nil]; omega) (by simp [wordsS]) 6 rfl _ rfl)
          go_wp2_with fail
          clear hw7 hbl d0 d1 d2 lk0 lk1 lk2
          refine (HPs.out _ (by first | exact Keep.refl _ _ | exact (Keep.refl Never _).drew)).mono ?_
          rintro en w8 ⟨A12, rfl, hw8, hk8⟩
          have HW8 := Lib.hid hw8
          have HK8 := Lib.hid (HK7.out.then_ hk8 (fun i hi e => by have := wr_base HW7.out HBB.out i e; omega))
          have Hnt8 := Lib.hid (Hnt7.out.keep hk8 (wrs_not HW7.out Hnt7.out (by decide) (by decide)))
          clear hw8 hk8 HPs
          rw [List.append_assoc, ← spW_next Hsk.out] at HW8
          go_wp2_with fail
          go_roundw
          case measure => simp [intOf]; try omega
          case rel => exact ⟨q + 1, A12, by omega, by go_num, Lib.hid ⟨HW8.out, HK8.out, Hnt8.out⟩⟩
        · obtain rfl : q = n2 := by omega
          have hqi : ¬ (q : Int) < (q : Int) := by omega
          have HWe2 : Hid (WrAt wq BB BB A11 (layW (wordsN (k0, tr, tt, un, l, h)))) := Lib.hid (by
            have h1 := HWq.out
            unfold spW at h1
            rw [List.take_of_length_le (by rw [HN2.out]; exact Nat.le_refl _)] at h1
            have e : sixW k0 tr tt un k ++ l.flatMap wordsL ++ [((q : Int), 8)] ++ h.flatMap wordsS = wordsN (k0, tr, tt, un, l, h) := by
              unfold wordsN sixW
              simp only [HN1.out, HN2.out, List.append_assoc]
            rwa [e] at h1)
          have HC := Lib.hid (wbytes_any BB BB A11 _ wq HWe2.out)
          go_wp2_with fail
          refine HC.out.mono ?_
          rintro en w12 ⟨A12, c12, rfl, ho12, hk12⟩
          have HO12 := Lib.hid ho12
          have HK12 := Lib.hid (HKq.out.trans hk12)
          clear ho12 hk12 HC
          go_wp2_with fail
          go_ret2
          exact ⟨A12, c12, rfl, HO12.out.less HKq.out.size, HK12.out⟩


end Go.Proofs.YtpahfobijmmmmaaGreat

namespace Go.Proofs.YtpahfobijmmmmaaGreat
open Go.RowKit

/-- a reader at block p has l left -/
def RdL (w : World) (B H p : Nat) (b : List Nat) (l : List Bool) : Prop := ∃ k, RdAt w B H p b k ∧ leftB b k = l
theorem RdL.blk {w : World} {B H p : Nat} {b : List Nat} {l : List Bool} (h : RdL w B H p b l) : ∃ cs, Blk w p 111 cs := by
  obtain ⟨k, ⟨A, c, hb, _⟩, _⟩ := h
  exact ⟨_, hb⟩
theorem RdL.not {w : World} {B H p : Nat} {b : List Nat} {l : List Bool} (h : RdL w B H p b l) {g t : Nat} {cs : Array Value} (hg : Blk w g t cs) (h1 : t ≠ 111) : ¬ g = p := by
  obtain ⟨cs2, hb⟩ := h.blk
  exact Blk.ne_ hg hb h1
theorem RdL.keep {w w' : World} {B H p : Nat} {b : List Nat} {l : List Bool} {S : Nat → Prop} (h : RdL w B H p b l) (hk : Keep S w w') (hS : ∀ q, S q → q < B ∨ H ≤ q) : RdL w' B H p b l := by
  obtain ⟨k, h1, h2⟩ := h
  exact ⟨k, h1.keep hk hS, h2⟩
theorem RdL.lo {w : World} {B H p : Nat} {b : List Nat} {l : List Bool} (h : RdL w B H p b l) : B ≤ p ∧ p < w.heap.size := by
  obtain ⟨k, h1, _⟩ := h
  exact h1.lo
theorem RdL.own {w : World} {B H p : Nat} {b : List Nat} {l : List Bool} (h : RdL w B H p b l) {base e size n c : Nat} {A : Option Addr} {xs : List Value} (ho : Own w base e size A n c xs) (h1 : e ≠ 111) : ∀ k, InRow A k → ¬ k = p := by
  obtain ⟨cs, hb⟩ := h.blk
  exact fun k hk e => ho.ne_blk hb h1 k hk e
/-- what get leaves -/
def DGet (w : World) (B H p : Nat) (b : List Nat) (l : List Bool) (width : Int) (e : Ending) (w' : World) : Prop := e = .returned (.int .i64 (gP l width).1) ∧ RdL w' B H p b (gP l width).2 ∧ Keep (fun q => q = p) w w'
theorem left_next {b : List Nat} {k : Nat} {width : Int} (h1 : 1 ≤ width) (h2 : width ≤ 32) : leftB b (k + if getE (leftB b k).length width = 0 then width.toNat else 0) = getL (leftB b k) width := by
  by_cases h : ((leftB b k).length : Int) < width
  · have e1 : getE (leftB b k).length width = 10 := by unfold getE; rw [if_neg (show ¬ (width < 1 ∨ 32 < width) by omega), if_pos h]
    have e2 : getL (leftB b k) width = leftB b k := by unfold getL; rw [if_pos (.inr (.inr h))]
    rw [e1, e2]
    simp
  · have e1 : getE (leftB b k).length width = 0 := by unfold getE; rw [if_neg (show ¬ (width < 1 ∨ 32 < width) by omega), if_neg h]
    have e2 : getL (leftB b k) width = (leftB b k).drop width.toNat := by unfold getL; rw [if_neg (by rintro (h1 | h1 | h1) <;> omega)]
    rw [e1, e2]
    simp only [if_true]
    unfold leftB
    rw [List.drop_drop]
theorem strOf_inj : ∀ {x y : List Nat}, (∀ v ∈ x, v < 256) → (∀ v ∈ y, v < 256) → strOf x = strOf y → x = y := by
  intro x y hx hy h
  unfold strOf at h
  injection h with h
  have h1 : x.map UInt8.ofNat = y.map UInt8.ofNat := by simpa using h
  clear h
  induction x generalizing y with
  | nil => cases y with
    | nil => rfl
    | cons b y => simp at h1
  | cons a x ih => cases y with
    | nil => simp at h1
    | cons b y =>
      simp only [List.map_cons, List.cons.injEq] at h1
      have h2 : a % 256 = b % 256 := by have := congrArg UInt8.toNat h1.1; simpa using this
      have h3 := hx a (by simp)
      have h4 := hy b (by simp)
      rw [ih (fun v hv => hx v (by simp [hv])) (fun v hv => hy v (by simp [hv])) h1.2]
      congr 1
      omega
theorem dget_any (B H p g : Nat) (b : List Nat) (l : List Bool) (width : Int) (w : World) (h1 : 1 ≤ width) (h2 : width ≤ 32) (hw : RdL w B H p b l) (hB : B ≤ w.heap.size) (hg : Blk w g 76 #[.pointer (some ⟨p, 0, none⟩)]) :
    Calls Tryz.prog 38 #[.int .i64 width, .pointer (some ⟨g, 0, none⟩)] w (DGet w B H p b l width) := by
  obtain ⟨k, hr, hk⟩ := hw
  have HC := Lib.hid (get_any B H p b k width w hr hB)
  have HL := Lib.hid hk
  have HN := Lib.hid (left_next (b := b) (k := k) h1 h2)
  have c0 : w.cell? ⟨g, 0, none⟩ = some (.pointer (some ⟨p, 0, none⟩)) := hg.cell 0
  clear hr hk h1 h2 hg
  go_enter Tryz.func38, Tryz.ntmps38
  go_wp2_with fail
  refine HC.out.mono ?_
  rintro e w2 ⟨rfl, h3, h4⟩
  have H3 := Lib.hid h3
  have H4 := Lib.hid h4
  clear h3 h4
  go_wp2_with fail
  go_ret
  refine ⟨by rw [← HL.out]; rfl, ⟨_, H3.out, by rw [HN.out, HL.out]; rfl⟩, H4.out⟩
set_option maxHeartbeats 1000000 in
set_option maxRecDepth 100000 in
theorem bequal_any (A A' : Option Addr) (n n' c c' B B' : Nat) (x y : List Nat) (w : World) (hx : Rd w B 1 A n (x.map u8v)) (hy : Rd w B' 1 A' n' (y.map u8v)) (h8 : ∀ v ∈ x, v < 256) (h8' : ∀ v ∈ y, v < 256) :
    Calls Tryz.prog 40 #[.slice A n c, .slice A' n' c'] w fun e w' => e = .returned (.bool (decide (x = y))) ∧ Keep Never w w' := by
  have e1 := run_str (P := Tryz.prog) Tryz.underlying46 Tryz.underlying5 Tryz.underlying9 hx h8 c
  have e2 := run_str (P := Tryz.prog) Tryz.underlying46 Tryz.underlying5 Tryz.underlying9 hy h8' c'
  by_cases g : x = y
  · subst g
    clear hx hy h8 h8'
    go_enter Tryz.func40, Tryz.ntmps40
    go_wp2_with fail
    go_ret
    exact ⟨rfl, Keep.refl _ _⟩
  · have hne : strOf x ≠ strOf y := fun h => g (strOf_inj h8 h8' h)
    have t0 : ((strOf x).toList == (strOf y).toList) = false := by
      rw [ByteArray.toList_eq, ByteArray.toList_eq, beq_eq_false_iff_ne]
      intro h
      exact hne (ByteArray.ext (Array.ext' h))
    have HD : Hid (decide (x = y) = false) := Lib.hid (decide_eq_false g)
    clear hx hy h8 h8' g hne
    go_enter Tryz.func40, Tryz.ntmps40
    go_wp2_with fail
    go_ret
    exact ⟨by rw [HD.out]; rfl, Keep.refl _ _⟩

end Go.Proofs.YtpahfobijmmmmaaGreat
