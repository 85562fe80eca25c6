/- Texts of this claim, together: TopP, TopQ, TopS, TopT, TopU, TopI, SlgA, PlcA, PlcB, LckA, PlnA, PlnB, PlnS, PlnC. -/
import Derived.Test.YtpapiojicbbheaaGreatDoorSh03
import Derived.Test.YtpapiojicbbheaaGreatDoorSh02
import Derived.Test.YtpapiojicbbheaaGreatDoorSh00
namespace Go.Proofs.YtpapiojicbbheaaGreatDoor
open Go.RowKit
def sameS (x1 : Int) (x2 : Bool) (y1 : Int) (y2 : Bool) : Bool := decide (((x1, x2) : Stp) = (y1, y2))
theorem run_eq_stp (w : World) (x1 : Int) (x2 : Bool) (y1 : Int) (y2 : Bool) : (binOp .eql 30 (.agg #[.int .i64 x1, .bool x2]) (.agg #[.int .i64 y1, .bool y2])).run Tryz.prog w = .ok (.bool (sameS x1 x2 y1 y2)) w := by
 by_cases h1 : x1 = y1
 ·have t1 : (x1 == y1) = true := by simpa using h1
  by_cases h2 : x2 = y2
  ·have t2 : (x2 == y2) = true := by simpa using h2
   have hd : sameS x1 x2 y1 y2 = true := decide_eq_true (by rw [h1, h2])
   rw [hd]
   clear h1 h2 hd
   go_simp
  ·have t2 : (x2 == y2) = false := by simpa using h2
   have hd : sameS x1 x2 y1 y2 = false := decide_eq_false (by simp [h2])
   rw [hd]
   clear h1 h2 hd
   go_simp
 ·have t1 : (x1 == y1) = false := by simpa using h1
  have hd : sameS x1 x2 y1 y2 = false := decide_eq_false (by simp [h1])
  rw [hd]
  clear h1 hd
  go_simp
end Go.Proofs.YtpapiojicbbheaaGreatDoor

namespace Go.Proofs.YtpapiojicbbheaaGreatDoor
open Go.RowKit
structure TpLight (x : TA) (t : Tp) : Prop where
 e : x.ne ≤ 100
 j : x.nj ≤ 100
 b : x.nb ≤ 100
 r : x.nr ≤ 100
 p : ∀ r ∈ t.2.2.2, r.2.1.length ≤ 100
theorem TpLight.small {x : TA} {t : Tp} (h : TpLight x t) : TpSmall x t := ⟨by have := h.e; omega, by have := h.j; omega, by have := h.b; omega, by have := h.r; omega, fun r hr => by have := h.p r hr; omega⟩
set_option maxHeartbeats 4000000 in
set_option maxRecDepth 100000 in
theorem light13r_any (x : TA) (t : Tp) (B : Nat) (w : World) (ht : TpAt w B x t) :
  Calls Tryz.prog 10 #[.agg x.cs] w fun e w' => ∃ b, e = .returned (.bool b) ∧ Hid (b = true → TpLight x t) ∧ Keep Never w w' := by
 have HR := Lib.hid ht.r
 obtain ⟨Ae, ne, ce, Aj, nj, cj, Ab, nb, cb, Ar, nr, cr⟩ := x
 simp only [TA.cs] at HR ⊢
 obtain ⟨wb, hwb⟩ : ∃ wb : World, w.alloc (.cells #[.slice Ae ne ce, .slice Aj nj cj, .slice Ab nb cb, .slice Ar nr cr] 27) = wb := ⟨_, rfl⟩
 have k1 : Keep Never w wb := by rw [← hwb]; exact (Keep.refl _ _).alloc _
 have b1' := Blk.new w 27 #[.slice Ae ne ce, .slice Aj nj cj, .slice Ab nb cb, .slice Ar nr cr]
 rw [hwb] at b1'
 have y0 : wb.cell? ⟨w.heap.size, 0, none⟩ = some (.slice Ae ne ce) := b1'.cell 0
 have y1 : wb.cell? ⟨w.heap.size, 1, none⟩ = some (.slice Aj nj cj) := b1'.cell 1
 have y2 : wb.cell? ⟨w.heap.size, 2, none⟩ = some (.slice Ab nb cb) := b1'.cell 2
 have y3 : wb.cell? ⟨w.heap.size, 3, none⟩ = some (.slice Ar nr cr) := b1'.cell 3
 have HB := Lib.hid b1'
 have HK := Lib.hid k1
 have HRb := Lib.hid (HR.out.keep k1 (fun _ h => h.elim))
 clear k1 b1' ht HR
 by_cases g1 : ne ≤ 100
 case neg =>
  have t1 : decide ((ne : Int) > 100) = true := by simp; omega
  clear g1
  go_enter Tryz.func10, Tryz.ntmps10
  go_wp2_with fail
  go_ret
  exact ⟨false, rfl, Lib.hid (fun h => (by cases h)), HK.out⟩
 have t1 : decide ((ne : Int) > 100) = false := by simp; omega
 by_cases g2 : nj ≤ 100
 case neg =>
  have t2 : decide ((nj : Int) > 100) = true := by simp; omega
  clear g1 g2
  go_enter Tryz.func10, Tryz.ntmps10
  go_wp2_with fail
  go_ret
  exact ⟨false, rfl, Lib.hid (fun h => (by cases h)), HK.out⟩
 have t2 : decide ((nj : Int) > 100) = false := by simp; omega
 by_cases g3 : nb ≤ 100
 case neg =>
  have t3 : decide ((nb : Int) > 100) = true := by simp; omega
  clear g1 g2 g3
  go_enter Tryz.func10, Tryz.ntmps10
  go_wp2_with fail
  go_ret
  exact ⟨false, rfl, Lib.hid (fun h => (by cases h)), HK.out⟩
 have t3 : decide ((nb : Int) > 100) = false := by simp; omega
 by_cases g4 : nr ≤ 100
 case neg =>
  have t4 : decide ((nr : Int) > 100) = true := by simp; omega
  clear g1 g2 g3 g4
  go_enter Tryz.func10, Tryz.ntmps10
  go_wp2_with fail
  go_ret
  exact ⟨false, rfl, Lib.hid (fun h => (by cases h)), HK.out⟩
 have t4 : decide ((nr : Int) > 100) = false := by simp; omega
 have HG : Hid (ne ≤ 100 ∧ nj ≤ 100 ∧ nb ≤ 100 ∧ nr ≤ 100) := Lib.hid ⟨g1, g2, g3, g4⟩
 clear g1 g2 g3
 go_enter Tryz.func10, Tryz.ntmps10
 go_wp2_with fail
 clear y0 y1 y2 y3
 go_loopw [3] (fun i wr => ∃ k : Nat, k ≤ nr ∧ i = .int .i64 k ∧ Hid (Keep Never wb wr ∧ ∀ r ∈ t.2.2.2.take k, r.2.1.length ≤ 100)) (fun i _ => nr - (intOf i).toNat)
 case atStart => exact ⟨0, by omega, rfl, Lib.hid ⟨Keep.refl _ _, by simp⟩⟩
 case round =>
  obtain ⟨k, hk, rfl, HH⟩ := hrel
  have hbb := HB.out.keep HH.out.1 (fun h => h)
  have y3 : wr.cell? ⟨w.heap.size, 3, none⟩ = some (.slice Ar nr cr) := hbb.cell 3
  clear hbb
  by_cases h0 : k < nr
  ·have hkz : (k : Int) < (nr : Int) := by omega
   obtain ⟨ad, r, A2, n2, d2, hA, _, hr, _, hc, _, _, hsl⟩ := rt_at2 (HRb.out.keep HH.out.1 (fun _ h => h.elim)) h0
   subst hA
   have hn2 : n2 = r.2.1.length := hsl.len
   have HTk : Hid (t.2.2.2.take (k + 1) = t.2.2.2.take k ++ [r]) := Lib.hid (by
    obtain ⟨h2, h3⟩ := List.getElem?_eq_some_iff.1 hr
    rw [List.take_succ_eq_append_getElem h2, h3])
   have HRl := Lib.hid hn2
   clear hr hsl hn2
   by_cases g5 : n2 ≤ 100
   ·have t5 : decide ((n2 : Int) > 100) = false := by simp; omega
    have HN2 := Lib.hid g5
    clear g5
    go_wp2_with fail
    refine ⟨⟨k + 1, by omega, by go_num, Lib.hid ⟨HH.out.1, fun u hu => ?_⟩⟩, ?_⟩
    ·rw [HTk.out] at hu
     rcases List.mem_append.1 hu with hu | hu
     ·exact HH.out.2 u hu
     ·simp at hu; subst hu; rw [← HRl.out]; exact HN2.out
    simp [intOf]; try omega
   ·have t5 : decide ((n2 : Int) > 100) = true := by simp; omega
    clear g5
    go_wp2_with fail
    go_ret
    exact ⟨false, rfl, Lib.hid (fun h => (by cases h)), HK.out.trans HH.out.1⟩
  ·obtain rfl : k = nr := by omega
   have hkz : ¬ (k : Int) < (k : Int) := by omega
   go_wp2_with fail
   go_ret
   have HTL := Lib.hid (TpLight.mk (x := ⟨Ae, ne, ce, Aj, nj, cj, Ab, nb, cb, Ar, k, cr⟩) (t := t) HG.out.1 HG.out.2.1 HG.out.2.2.1 HG.out.2.2.2 (fun r hr => HH.out.2 r (by rw [List.take_of_length_le (by rw [HRb.out.len]; exact Nat.le_refl _)]; exact hr)))
   first
    | exact .inr ⟨rfl, Lib.hid HTL.out, HK.out.trans HH.out.1⟩
    | exact ⟨true, rfl, Lib.hid (fun _ => HTL.out), HK.out.trans HH.out.1⟩
    | exact .inr ⟨rfl, HTL, HK.out.trans HH.out.1⟩
end Go.Proofs.YtpapiojicbbheaaGreatDoor

namespace Go.Proofs.YtpapiojicbbheaaGreatDoor
open Go.RowKit
theorem run_neq_stp (w : World) (x1 : Int) (x2 : Bool) (y1 : Int) (y2 : Bool) : (binOp .neq 30 (.agg #[.int .i64 x1, .bool x2]) (.agg #[.int .i64 y1, .bool y2])).run Tryz.prog w = .ok (.bool (!sameS x1 x2 y1 y2)) w := by
 by_cases h1 : x1 = y1
 ·have t1 : (x1 == y1) = true := by simpa using h1
  by_cases h2 : x2 = y2
  ·have t2 : (x2 == y2) = true := by simpa using h2
   have hd : sameS x1 x2 y1 y2 = true := decide_eq_true (by rw [h1, h2])
   rw [hd]
   clear h1 h2 hd
   go_simp
  ·have t2 : (x2 == y2) = false := by simpa using h2
   have hd : sameS x1 x2 y1 y2 = false := decide_eq_false (by simp [h2])
   rw [hd]
   clear h1 h2 hd
   go_simp
 ·have t1 : (x1 == y1) = false := by simpa using h1
  have hd : sameS x1 x2 y1 y2 = false := decide_eq_false (by simp [h1])
  rw [hd]
  clear h1 hd
  go_simp
set_option maxHeartbeats 1000000 in
set_option maxRecDepth 100000 in
theorem steps_any (A A' : Option Addr) (n n' c c' B B' : Nat) (l m : List Stp) (w : World) (hr : Rd w B 2 A n (stpCells l)) (hr' : Rd w B' 2 A' n' (stpCells m)) (hn : n ≤ 100000000) (hn' : n' ≤ 100000000) :
  Calls Tryz.prog 26 #[.slice A n c, .slice A' n' c'] w fun e w' => e = .returned (.bool (decide (l = m))) ∧ Keep Never w w' := by
 have qe : ∀ (w : World) (x1 : Int) (x2 : Bool) (y1 : Int) (y2 : Bool), (binOp .neq 30 (.agg #[.int .i64 x1, .bool x2]) (.agg #[.int .i64 y1, .bool y2])).run Tryz.prog w = .ok (.bool (!sameS x1 x2 y1 y2)) w := run_neq_stp
 have HL : Hid (l.length = n ∧ m.length = n') := Lib.hid ⟨hr.stp_len, hr'.stp_len⟩
 have HR := Lib.hid hr
 have HR' := Lib.hid hr'
 clear hr hr'
 by_cases h0 : n = n'
 case neg =>
  have t0 : ((n : Int) != (n' : Int)) = true := by simp; omega
  have HF : Hid (decide (l = m) = false) := Lib.hid (decide_eq_false (fun e => h0 (by rw [← HL.out.1, ← HL.out.2, e])))
  clear h0
  go_enter Tryz.func26, Tryz.ntmps26
  go_wp2_with fail
  go_ret
  exact ⟨by rw [HF.out]; rfl, Keep.refl _ _⟩
 subst h0
 have t0 : ((n : Int) != (n : Int)) = false := by simp
 go_enter Tryz.func26, Tryz.ntmps26
 go_wp2_with fail
 clear t0
 go_loopw [5] (fun i wr => ∃ k : Nat, k ≤ n ∧ i = .int .i64 k ∧ Hid (Keep Never w wr ∧ l.take k = m.take k)) (fun i _ => n - (intOf i).toNat)
 case atStart => exact ⟨0, by omega, rfl, Lib.hid ⟨Keep.refl _ _, by simp⟩⟩
 case round =>
  obtain ⟨k, hk, rfl, HH⟩ := hrel
  by_cases h0 : k < n
  ·have hkz : (k : Int) < (n : Int) := by omega
   obtain ⟨ad, u, hA, _, hu, c0, c1⟩ := (HR.out.keep HH.out.1 (fun _ h => h.elim)).stp h0
   obtain ⟨ae, v, hA', _, hv, d0, d1⟩ := (HR'.out.keep HH.out.1 (fun _ h => h.elim)).stp h0
   subst hA hA'
   obtain ⟨u1, u2⟩ := u
   obtain ⟨v1, v2⟩ := v
   simp only at c0 c1 d0 d1
   have Hu := Lib.hid hu
   have Hv := Lib.hid hv
   have HT : Hid (l.take (k + 1) = l.take k ++ [(u1, u2)] ∧ m.take (k + 1) = m.take k ++ [(v1, v2)]) := Lib.hid (by
    obtain ⟨h2, h3⟩ := List.getElem?_eq_some_iff.1 hu
    obtain ⟨h4, h5⟩ := List.getElem?_eq_some_iff.1 hv
    exact ⟨by rw [List.take_succ_eq_append_getElem h2, h3], by rw [List.take_succ_eq_append_getElem h4, h5]⟩)
   clear hu hv
   go_wp2_with fail
   rcases Bool.eq_false_or_eq_true (sameS u1 u2 v1 v2) with t1 | t1
   ·have HN : Hid (l.take (k + 1) = m.take (k + 1)) := Lib.hid (by rw [HT.out.1, HT.out.2, HH.out.2, of_decide_eq_true t1])
    have t2 : (!sameS u1 u2 v1 v2) = false := by rw [t1]; rfl
    go_quiet (fail)
    go_wp2_with fail
    refine ⟨⟨k + 1, by omega, by go_num, Lib.hid ⟨HH.out.1.drewN _, HN.out⟩⟩, ?_⟩
    simp [intOf]; try omega
   ·have HF : Hid (decide (l = m) = false) := Lib.hid (decide_eq_false (fun e => by
     have h1 := Hu.out
     rw [e, Hv.out] at h1
     injection h1 with h1
     exact (of_decide_eq_false t1) h1.symm))
    have t2 : (!sameS u1 u2 v1 v2) = true := by rw [t1]; rfl
    go_quiet (fail)
    go_wp2_with fail
    go_ret
    exact ⟨by rw [HF.out]; rfl, HH.out.1.drewN _⟩
  ·obtain rfl : k = n := by omega
   have hkz : ¬ (k : Int) < (k : Int) := by omega
   have HF : Hid (decide (l = m) = true) := Lib.hid (decide_eq_true (by
    have := HH.out.2
    rwa [List.take_of_length_le (by rw [HL.out.1]; exact Nat.le_refl _), List.take_of_length_le (by rw [HL.out.2]; exact Nat.le_refl _)] at this))
   go_wp2_with fail
   go_ret
   exact ⟨by rw [HF.out]; rfl, HH.out.1⟩
end Go.Proofs.YtpapiojicbbheaaGreatDoor

namespace Go.Proofs.YtpapiojicbbheaaGreatDoor
open Go.RowKit
theorem rt_hit {l : List Rt} {id : Int} {k : Nat} {b : Rt} (h : l[k]? = some b) (hb : b.1 = id) (ha : ∀ x ∈ l.take k, x.1 ≠ id) : rtM l id = some b := find_idx h (by simpa using hb) (fun x hx => by simpa using ha x hx)
end Go.Proofs.YtpapiojicbbheaaGreatDoor

namespace Go.Proofs.YtpapiojicbbheaaGreatDoor
open Go.RowKit
theorem firstE_all {f : Nat → Int} : ∀ {n : Nat}, firstE f n = 0 → ∀ j, j < n → f j = 0
 | 0, _, j, hj => by omega
 | n + 1, h, j, hj => by
  unfold firstE at h
  by_cases h1 : firstE f n = 0
  ·rw [if_neg (by simpa using h1)] at h
   by_cases e : j = n
   ·rw [e]; exact h
   ·exact firstE_all h1 j (by omega)
  ·rw [if_pos h1] at h
   exact absurd h h1
structure RtGood (t : Tp) (r : Rt) : Prop where
 fnd : rtM t.2.2.2 r.1 = some r
 err : (lenM t r.2.1).2 = 0
 gap : r.2.2.1 < (lenM t r.2.1).1
 few : r.2.1.length ≤ 8
 bal : ∀ (k : Nat) (s : Stp), r.2.1[k]? = some s → t.2.2.1.any (fun b => b.2.1 == s.1) = true
 aft : ∀ (k : Nat) (s u : Stp), r.2.1[k]? = some s → r.2.1[k + 1]? = some u → u ∈ afterM t s
 dis : ∀ (j k : Nat) (s u : Stp), j < k → r.2.1[j]? = some s → r.2.1[k]? = some u → s.1 ≠ u.1
theorem routed_good {t : Tp} {r : Rt} (h : routedM t r = 0) : (lenM t r.2.1).2 = 0 ∧ r.2.2.1 < (lenM t r.2.1).1 ∧ r.2.1.length ≤ 8 ∧ pathBad t.1.length r.2.1 = false ∧ r.2.1.any (noBal t.2.2.1) = false := by
 unfold routedM at h
 split at h
 ·exact absurd h (by decide)
 rename_i h1
 split at h
 ·exact absurd h (by decide)
 rename_i h2
 split at h
 ·rename_i h3
  exact absurd h h3
 rename_i h3
 split at h
 ·exact absurd h (by decide)
 rename_i h4
 split at h
 ·exact absurd h (by decide)
 rename_i h5
 refine ⟨by omega, by omega, by omega, by simpa using h2, by simpa using h5⟩
theorem len_way {t : Tp} {p : List Stp} (h : (lenM t p).2 = 0) : p.all (fun s => thereB t.1.length s.1) = true ∧ wayM t.2.1 p = true := by
 unfold lenM at h
 split at h
 ·exact absurd h (by simp)
 split at h
 ·rename_i h2
  split at h
  ·rename_i h3
   exact ⟨h2, h3⟩
  ·exact absurd h (by simp)
 ·exact absurd h (by simp)
theorem check_good {t : Tp} (h : checkM t = 0) {i : Nat} {r : Rt} (hr : t.2.2.2[i]? = some r) : RtGood t r := by
 have h0 : firstE (rErr t) t.2.2.2.length = 0 := by
  unfold checkM at h
  split at h
  ·exact absurd h (by decide)
  split at h
  ·exact absurd h (by decide)
  split at h
  ·rename_i h3; exact absurd h h3
  split at h
  ·rename_i h3; exact absurd h h3
  exact h
 have hi : i < t.2.2.2.length := (List.getElem?_eq_some_iff.1 hr).1
 have h1 := firstE_all h0 i hi
 unfold rErr at h1
 rw [hr] at h1
 simp only at h1
 split at h1
 ·rename_i h2; exact absurd h1 h2
 rename_i h2
 have h2 : routedM t r = 0 := by simpa using h2
 split at h1
 ·exact absurd h1 (by decide)
 rename_i h3
 have h3 : rtM (t.2.2.2.take i) r.1 = none := by simpa using h3
 obtain ⟨e1, e2, e3, e4, e5⟩ := routed_good h2
 obtain ⟨e6, e7⟩ := len_way e1
 have hth : ∀ (k : Nat) (s : Stp), r.2.1[k]? = some s → thereB t.1.length s.1 = true := fun k s hs => List.all_eq_true.1 e6 s (List.mem_of_getElem? hs)
 refine ⟨?_, e1, e2, e3, ?_, ?_, ?_⟩
 ·refine rt_hit hr rfl (fun x hx => ?_)
  unfold rtM at h3
  rw [List.find?_eq_none] at h3
  have := h3 x hx
  simpa using this
 ·intro k s hs
  rw [List.any_eq_false] at e5
  have := e5 s (List.mem_of_getElem? hs)
  unfold noBal at this
  simpa using this
 ·intro k s u hs hu
  rw [afterM_mem]
  refine ⟨hth k s hs, hth _ u hu, ?_⟩
  rw [← okAt_eq hs hu]
  unfold wayM at e7
  rw [List.all_eq_true] at e7
  exact e7 k (List.mem_range.2 (by have := (List.getElem?_eq_some_iff.1 hu).1; omega))
 ·intro j k s u hjk hs hu he
  unfold pathBad at e4
  rw [List.any_eq_false] at e4
  have h5 := e4 k (List.mem_range.2 (List.getElem?_eq_some_iff.1 hu).1)
  apply h5
  unfold badAt
  rw [hu]
  simp only [Bool.or_eq_true]
  right
  rw [List.any_eq_true]
  refine ⟨s, ?_, by simpa using he⟩
  rw [List.mem_iff_getElem?]
  exact ⟨j, by rw [List.getElem?_take]; rw [if_pos hjk]; exact hs⟩
end Go.Proofs.YtpapiojicbbheaaGreatDoor

namespace Go.Proofs.YtpapiojicbbheaaGreatDoor
open Go.RowKit
def overK (es : List Int) (lo hi : Int) (p : List Stp) : Nat → List Sp
 | 0 => []
 | k + 1 => overK es lo hi p k ++ (match p[k]? with | some s => [cutS es lo hi (sumM es (p.take k)) s] | none => [])
theorem overK_at {es : List Int} {lo hi : Int} {p : List Stp} {k : Nat} {s : Stp} (h : p[k]? = some s) : overK es lo hi p (k + 1) = overK es lo hi p k ++ [cutS es lo hi (sumM es (p.take k)) s] := by
 conv => lhs; unfold overK
 rw [h]
def goodM (es : List Int) (p : List Stp) : Prop := (∀ v ∈ es, 1 ≤ v ∧ v ≤ 1000000) ∧ (∀ s ∈ p, thereB es.length s.1 = true) ∧ p.length ≤ 40
theorem good_at {es : List Int} {p : List Stp} (h : goodM es p) {k : Nat} {s : Stp} (hs : p[k]? = some s) : ∃ j : Nat, s.1 = (j : Int) ∧ j < es.length ∧ ∃ v, es[j]? = some v ∧ 1 ≤ v ∧ v ≤ 1000000 ∧ es.getD s.1.toNat 0 = v := by
 have h1 := h.2.1 s (List.mem_of_getElem? hs)
 unfold thereB at h1
 rw [Bool.and_eq_true, decide_eq_true_eq, decide_eq_true_eq] at h1
 obtain ⟨j, hj⟩ : ∃ j : Nat, s.1 = (j : Int) := ⟨s.1.toNat, by omega⟩
 have hl : j < es.length := by omega
 have hv : es[j]? = some es[j] := List.getElem?_eq_getElem hl
 have h2 := h.1 _ (List.getElem_mem hl)
 exact ⟨j, hj, hl, _, hv, h2.1, h2.2, by rw [hj, List.getD_eq_getElem?_getD, Int.toNat_natCast, hv]; rfl⟩
theorem sum_good {es : List Int} {p : List Stp} (h : goodM es p) : ∀ k, k ≤ p.length → 0 ≤ sumM es (p.take k) ∧ sumM es (p.take k) ≤ 1000000 * k
 | 0, _ => by simp [sumM]
 | k + 1, hk => by
  obtain ⟨i1, i2⟩ := sum_good h k (by omega)
  have hs : p[k]? = some p[k] := List.getElem?_eq_getElem (by omega)
  obtain ⟨j, _, _, v, _, h1, h2, h3⟩ := good_at h hs
  rw [sumM_take hs, h3, IntWalk.i64_in _ (by have := h.2.2; omega)]
  omega
theorem sum_step {es : List Int} {p : List Stp} (h : goodM es p) {k : Nat} {s : Stp} (hs : p[k]? = some s) : sumM es (p.take (k + 1)) = sumM es (p.take k) + es.getD s.1.toNat 0 := by
 have hk : k < p.length := (List.getElem?_eq_some_iff.1 hs).1
 obtain ⟨i1, i2⟩ := sum_good h k (by omega)
 obtain ⟨j, _, _, v, _, h1, h2, h3⟩ := good_at h hs
 rw [sumM_take hs, h3, IntWalk.i64_in _ (by have := h.2.2; omega)]
end Go.Proofs.YtpapiojicbbheaaGreatDoor

namespace Go.Proofs.YtpapiojicbbheaaGreatDoor
open Go.RowKit
def posM (es : List Int) (s : Stp) (a : Int) : Int := if s.2 = true then es.getD s.1.toNat 0 - 1 - a else a
theorem cut_has {es : List Int} {lo hi S e a : Int} {s : Stp} (h0 : 0 ≤ s.1) (h2 : es.getD s.1.toNat 0 ≤ 1000000) :
  (someS (cutS es lo hi S s) && hasS (cutS es lo hi S s) e a) = true ↔ s.1 = e ∧ 0 ≤ a ∧ a < es.getD s.1.toNat 0 ∧ lo ≤ S + posM es s a ∧ S + posM es s a < hi := by
 rw [Bool.and_eq_true, someS_iff, hasS_iff]
 unfold cutS posM
 generalize es.getD s.1.toNat 0 = v at *
 split <;> simp only <;> omega
theorem good_pos {es : List Int} {p : List Stp} (h : goodM es p) {k : Nat} {s : Stp} (hs : p[k]? = some s) : 0 ≤ s.1 ∧ 1 ≤ es.getD s.1.toNat 0 ∧ es.getD s.1.toNat 0 ≤ 1000000 := by
 obtain ⟨j, h1, _, v, _, h3, h4, h5⟩ := good_at h hs
 exact ⟨by omega, by omega, by omega⟩
theorem overK_has {es : List Int} {p : List Stp} {lo hi : Int} (hg : goodM es p) (e a : Int) : ∀ k, k ≤ p.length → (hasL (overK es lo hi p k) e a = true ↔ ∃ i s, i < k ∧ p[i]? = some s ∧ s.1 = e ∧ 0 ≤ a ∧ a < es.getD s.1.toNat 0 ∧ lo ≤ sumM es (p.take i) + posM es s a ∧ sumM es (p.take i) + posM es s a < hi)
 | 0, _ => by
  constructor
  ·intro h; simp [overK, hasL] at h
  ·rintro ⟨i, _, h, _⟩; omega
 | k + 1, hk => by
  have hs : p[k]? = some p[k] := List.getElem?_eq_getElem (by omega)
  obtain ⟨g1, g2, g3⟩ := good_pos hg hs
  rw [overK_at hs, hasL_app, Bool.or_eq_true, overK_has hg e a k (by omega), hasL_cons, hasL_nil, Bool.or_false, cut_has g1 g3]
  constructor
  ·rintro (⟨i, s, hi, r⟩ | h)
   ·exact ⟨i, s, by omega, r⟩
   ·exact ⟨k, _, by omega, hs, h⟩
  ·rintro ⟨i, s, hi, hs', r⟩
   by_cases h : i = k
   ·subst h
    rw [hs] at hs'
    injection hs' with hs'
    subst hs'
    exact .inr r
   ·exact .inl ⟨i, s, by omega, hs', r⟩
def onceM (p : List Stp) : Prop := ∀ (i k : Nat) (s u : Stp), p[i]? = some s → p[k]? = some u → s.1 = u.1 → i = k
def plainS (es : List Int) (p : List Stp) : Int := (p.map fun s => es.getD s.1.toNat 0).sum
theorem sum_plain {es : List Int} {p : List Stp} (h : goodM es p) : ∀ k, k ≤ p.length → sumM es (p.take k) = plainS es (p.take k)
 | 0, _ => rfl
 | k + 1, hk => by
  have hs : p[k]? = some p[k] := List.getElem?_eq_getElem (by omega)
  rw [sum_step h hs, sum_plain h k (by omega)]
  unfold plainS
  rw [List.take_add_one, hs, List.map_append, List.sum_append]
  simp
end Go.Proofs.YtpapiojicbbheaaGreatDoor

namespace Go.Proofs.YtpapiojicbbheaaGreatDoor
open Go.RowKit
abbrev Ps := Int × Int × Bool
def noP : Ps := (0, 0, false)
def edgeM (t : Tp) (e : Int) : Int := t.1.getD e.toNat 0
def rightB (t : Tp) (p : Ps) : Bool := decide (checkM t = 0) && thereB t.1.length p.1 && decide (0 ≤ p.2.1) && decide (p.2.1 ≤ edgeM t p.1)
def overP (t : Tp) (s : Stp) (n : Int) : Ps := (s.1, if s.2 = true then edgeM t s.1 - n else n, s.2)
def alongP (t : Tp) (p : Ps) : Int := if p.2.2 = true then edgeM t p.1 - p.2.1 else p.2.1
theorem along_over (t : Tp) (s : Stp) (n : Int) : alongP t (overP t s n) = n := by
 obtain ⟨e, r⟩ := s
 cases r <;> simp [alongP, overP]
 omega
def goM (t : Tp) : Nat → Stp → Int → Ps × Int
 | 0, s, n => if n ≤ edgeM t s.1 then (overP t s n, 0) else match afterM t s with | [] => (noP, 141) | [_] => (noP, 2) | _ :: _ :: _ => (noP, 140)
 | f + 1, s, n => if n ≤ edgeM t s.1 then (overP t s n, 0) else match afterM t s with | [] => (noP, 141) | [x] => goM t f x (n - edgeM t s.1) | _ :: _ :: _ => (noP, 140)
theorem goM_in {t : Tp} {f : Nat} {s : Stp} {n : Int} (h : n ≤ edgeM t s.1) : goM t f s n = (overP t s n, 0) := by
 cases f <;> (unfold goM; rw [if_pos h])
theorem goM_end {t : Tp} {f : Nat} {s : Stp} {n : Int} (h : ¬ n ≤ edgeM t s.1) (ha : afterM t s = []) : goM t f s n = (noP, 141) := by
 cases f <;> (unfold goM; rw [if_neg h, ha])
theorem goM_fork {t : Tp} {f : Nat} {s : Stp} {n : Int} {x y : Stp} {l : List Stp} (h : ¬ n ≤ edgeM t s.1) (ha : afterM t s = x :: y :: l) : goM t f s n = (noP, 140) := by
 cases f <;> (unfold goM; rw [if_neg h, ha])
theorem goM_long {t : Tp} {s : Stp} {n : Int} {x : Stp} (h : ¬ n ≤ edgeM t s.1) (ha : afterM t s = [x]) : goM t 0 s n = (noP, 2) := by
 unfold goM; rw [if_neg h, ha]
theorem goM_next {t : Tp} {f : Nat} {s : Stp} {n : Int} {x : Stp} (h : ¬ n ≤ edgeM t s.1) (ha : afterM t s = [x]) : goM t (f + 1) s n = goM t f x (n - edgeM t s.1) := by
 conv => lhs; unfold goM
 rw [if_neg h, ha]
theorem after_there {t : Tp} {s x : Stp} (h : x ∈ afterM t s) : thereB t.1.length x.1 = true := by
 unfold afterM at h
 split at h
 ·exact (listM_mem.1 h).1
 ·simp at h
def walkP (t : Tp) (p : Ps) (n : Int) : Ps × Int := if rightB t p = true ∧ 0 ≤ n ∧ n ≤ 1099511627776 then goM t 40 (p.1, p.2.2) (n + alongP t p) else (noP, 1)
theorem right_iff {t : Tp} {p : Ps} : rightB t p = true ↔ checkM t = 0 ∧ thereB t.1.length p.1 = true ∧ 0 ≤ p.2.1 ∧ p.2.1 ≤ edgeM t p.1 := by
 unfold rightB; simp [and_assoc]
theorem along_in {t : Tp} {p : Ps} (h0 : 0 ≤ p.2.1) (h1 : p.2.1 ≤ edgeM t p.1) : 0 ≤ alongP t p ∧ alongP t p ≤ edgeM t p.1 := by unfold alongP; split <;> omega
end Go.Proofs.YtpapiojicbbheaaGreatDoor

namespace Go.Proofs.YtpapiojicbbheaaGreatDoor
open Go.RowKit
theorem plainS_cons (es : List Int) (s : Stp) (l : List Stp) : plainS es (s :: l) = es.getD s.1.toNat 0 + plainS es l := by unfold plainS; simp
theorem check_edges {t : Tp} (h : checkM t = 0) : ∀ v ∈ t.1, 1 ≤ v ∧ v ≤ 1000000 := by
 intro v hv
 unfold checkM at h
 split at h
 ·exact absurd h (by decide)
 split at h
 ·exact absurd h (by decide)
 rename_i h1
 rw [Bool.not_eq_true, List.any_eq_false] at h1
 have := h1 v hv
 unfold wrongB at this
 simp at this
 omega
theorem good_of {t : Tp} {p : List Stp} (hc : checkM t = 0) (h : (lenM t p).2 = 0) : goodM t.1 p ∧ p ≠ [] ∧ (lenM t p).1 = sumM t.1 p := by
 have hw := len_way h
 unfold lenM at h ⊢
 split at h
 ·exact absurd h (by decide)
 rename_i h0
 rw [if_neg h0, if_pos hw.1, if_pos hw.2]
 refine ⟨⟨check_edges hc, List.all_eq_true.1 hw.1, by omega⟩, ?_, rfl⟩
 rintro rfl
 exact h0 (.inl rfl)
theorem way_after {t : Tp} {p : List Stp} (h : (lenM t p).2 = 0) {k : Nat} {a b : Stp} (h1 : p[k]? = some a) (h2 : p[k + 1]? = some b) : b ∈ afterM t a := by
 obtain ⟨w1, w2⟩ := len_way h
 rw [List.all_eq_true] at w1
 have ha := w1 a (List.mem_of_getElem? h1)
 have hb := w1 b (List.mem_of_getElem? h2)
 unfold wayM at w2
 rw [List.all_eq_true] at w2
 have hk : k + 1 < p.length := (List.getElem?_eq_some_iff.1 h2).1
 have := w2 k (List.mem_range.2 (by omega))
 rw [okAt_eq h1 h2] at this
 unfold afterM
 rw [if_pos ha]
 exact listM_mem.2 ⟨hb, this⟩
end Go.Proofs.YtpapiojicbbheaaGreatDoor

namespace Go.Proofs.YtpapiojicbbheaaGreatDoor
open Go.RowKit
abbrev Lk := Int × Int × Int
end Go.Proofs.YtpapiojicbbheaaGreatDoor

namespace Go.Proofs.YtpapiojicbbheaaGreatDoor
open Go.RowKit
abbrev Sc := Int × Int
abbrev Ma := Int × Bool × List Stp × List Sc × Int
def noMa : Ma := (0, false, [], [], 0)
def overB (p : List Stp) (e : Int) : Bool := p.any fun u => u.1 == e
def twiceAt (p : List Stp) (k : Nat) : Bool := match p[k]? with | some s => overB (p.take k) s.1 | none => false
def twiceB (p : List Stp) : Bool := (List.range p.length).any (twiceAt p)
theorem over_iff {p : List Stp} {e : Int} : overB p e = true ↔ ∃ u ∈ p, u.1 = e := by
 unfold overB
 rw [List.any_eq_true]
 simp
theorem twice_no {p : List Stp} : twiceB p = false ↔ onceM p := by
 unfold twiceB onceM
 rw [List.any_eq_false]
 constructor
 ·intro h
  have key : ∀ (i k : Nat) (s u : Stp), i < k → p[i]? = some s → p[k]? = some u → s.1 = u.1 → False := by
   intro i k s u hik hs hu he
   have h1 := h k (List.mem_range.2 (List.getElem?_eq_some_iff.1 hu).1)
   apply h1
   unfold twiceAt
   rw [hu]
   exact over_iff.2 ⟨s, by rw [List.mem_iff_getElem?]; exact ⟨i, by rw [List.getElem?_take, if_pos hik]; exact hs⟩, he⟩
  intro i k s u hs hu he
  rcases Nat.lt_trichotomy i k with h1 | h1 | h1
  ·exact (key i k s u h1 hs hu he).elim
  ·exact h1
  ·exact (key k i u s h1 hu hs he.symm).elim
 ·intro h k hk hb
  unfold twiceAt at hb
  cases hu : p[k]? with
  | none => rw [hu] at hb; cases hb
  | some u =>
   rw [hu] at hb
   obtain ⟨s, hs, he⟩ := over_iff.1 hb
   obtain ⟨i, hi⟩ := List.mem_iff_getElem?.1 hs
   rw [List.getElem?_take] at hi
   split at hi
   ·rename_i hik
    have := h i k s u hi hu he
    omega
   ·cases hi
def leftA (t : Tp) (m : Ma) : Option (Int × Int) := match balM t.2.2.1 m.1 with
 | none => none
 | some b => if m.2.2.1.head? = some (b.2.1, m.2.1) ∧ (lenM t m.2.2.1).2 = 0 then some ((lenM t m.2.2.1).1 - alongP t (b.2.1, b.2.2, m.2.1), alongP t (b.2.1, b.2.2, m.2.1)) else none
def endS (l : List Sc) : Int := (l.getLast?.map (·.1)).getD 0
def sectAt (l : List Sc) (k : Nat) : Bool := match l[k]? with
 | some s => decide (endS (l.take k) < s.1) && decide (s.1 ≤ 1099511627776) && decide (1 ≤ s.2) && decide (s.2 ≤ 1000)
 | none => true
def sectsB (l : List Sc) : Bool := (List.range l.length).all (sectAt l)
def fitsB (t : Tp) (m : Ma) : Bool := match leftA t m with | some z => decide (endS m.2.2.2.1 + m.2.2.2.2 ≤ z.1) | none => false
def mayMA (t : Tp) (m : Ma) : Bool := decide (checkM t = 0) && decide (m.2.2.1.length ≤ 24) && !twiceB m.2.2.1 && decide (1 ≤ m.2.2.2.1.length) && decide (m.2.2.2.1.length ≤ 8) && decide (0 ≤ m.2.2.2.2) && decide (m.2.2.2.2 ≤ 1099511627776) && sectsB m.2.2.2.1 && fitsB t m
def reachM (l : List Sc) (age : Int) : Int := endS (l.takeWhile fun s => decide (age < s.2))
theorem endS_nil : endS [] = 0 := rfl
theorem endS_app (l : List Sc) (s : Sc) : endS (l ++ [s]) = s.1 := by unfold endS; simp
theorem endS_take {l : List Sc} {k : Nat} {s : Sc} (h : l[k]? = some s) : endS (l.take (k + 1)) = s.1 := by
 rw [List.take_add_one, h]
 exact endS_app _ _
structure SectsI (l : List Sc) : Prop where
 up : ∀ k s, l[k]? = some s → endS (l.take k) < s.1
 big : ∀ s ∈ l, s.1 ≤ 1099511627776
 time : ∀ s ∈ l, 1 ≤ s.2 ∧ s.2 ≤ 1000
theorem sects_iff {l : List Sc} : sectsB l = true ↔ SectsI l := by
 unfold sectsB
 rw [List.all_eq_true]
 constructor
 ·intro h
  have key : ∀ k s, l[k]? = some s → (endS (l.take k) < s.1 ∧ s.1 ≤ 1099511627776 ∧ 1 ≤ s.2 ∧ s.2 ≤ 1000) := by
   intro k s hs
   have h1 := h k (List.mem_range.2 (List.getElem?_eq_some_iff.1 hs).1)
   unfold sectAt at h1
   rw [hs] at h1
   simpa [and_assoc] using h1
  refine ⟨fun k s hs => (key k s hs).1, fun s hs => ?_, fun s hs => ?_⟩
  ·obtain ⟨k, hk⟩ := List.mem_iff_getElem?.1 hs; exact (key k s hk).2.1
  ·obtain ⟨k, hk⟩ := List.mem_iff_getElem?.1 hs; exact (key k s hk).2.2
 ·intro h k hk
  unfold sectAt
  cases hs : l[k]? with
  | none => rfl
  | some s =>
   have a1 := h.up k s hs
   have a2 := h.big s (List.mem_of_getElem? hs)
   have a3 := h.time s (List.mem_of_getElem? hs)
   simp [a1, a2, a3.1, a3.2]
theorem SectsI.mono {l : List Sc} (h : SectsI l) {i : Nat} : ∀ {j : Nat}, i ≤ j → j ≤ l.length → endS (l.take i) ≤ endS (l.take j) := by
 intro j
 induction j with
 | zero => intro h1 _; rw [show i = 0 by omega]; exact Int.le_refl _
 | succ j ih =>
  intro h1 h2
  by_cases e : i = j + 1
  ·rw [e]; exact Int.le_refl _
  ·have hs : l[j]? = some l[j] := List.getElem?_eq_getElem (by omega)
   have a1 := ih (by omega) (by omega)
   have a2 := h.up j _ hs
   rw [endS_take hs]
   omega
theorem SectsI.pos {l : List Sc} (h : SectsI l) {j : Nat} (hj : j ≤ l.length) : 0 ≤ endS (l.take j) := by
 have := h.mono (i := 0) (Nat.zero_le j) hj
 simpa [endS_nil] using this
theorem while_take {α : Type} (p : α → Bool) (l : List α) : l.takeWhile p = l.take (l.takeWhile p).length := (List.prefix_iff_eq_take.1 (List.takeWhile_prefix p))
theorem while_len {α : Type} (p : α → Bool) (l : List α) : (l.takeWhile p).length ≤ l.length := (List.takeWhile_prefix p).length_le
theorem while_in {α : Type} {p : α → Bool} : ∀ {l : List α} {k : Nat} {x : α}, k < (l.takeWhile p).length → l[k]? = some x → p x = true
 | [], k, x, h, _ => by simp at h
 | y :: l, k, x, h, hx => by
  rw [List.takeWhile_cons] at h
  cases hp : p y with
  | false => rw [hp] at h; simp at h
  | true =>
   rw [hp] at h
   cases k with
   | zero => simp at hx; rw [← hx]; exact hp
   | succ k => simp at hx h; exact while_in h hx
theorem while_stop {α : Type} {p : α → Bool} : ∀ {l : List α} {x : α}, l[(l.takeWhile p).length]? = some x → p x = false
 | [], x, hx => by simp at hx
 | y :: l, x, hx => by
  rw [List.takeWhile_cons] at hx
  cases hp : p y with
  | false => rw [hp] at hx; simp at hx; rw [← hx]; exact hp
  | true => rw [hp] at hx; simp at hx; exact while_stop hx
theorem while_is {α : Type} {p : α → Bool} {l : List α} {j : Nat} (h1 : ∀ k x, k < j → l[k]? = some x → p x = true) (h2 : ∀ x, l[j]? = some x → p x = false) (hj : j ≤ l.length) : (l.takeWhile p).length = j := by
 have hl := while_len p l
 rcases Nat.lt_trichotomy (l.takeWhile p).length j with h | h | h
 ·have hx : l[(l.takeWhile p).length]? = some l[(l.takeWhile p).length] := List.getElem?_eq_getElem (by omega)
  have := while_stop hx
  rw [h1 _ _ h hx] at this
  cases this
 ·exact h
 ·have hx : l[j]? = some l[j] := List.getElem?_eq_getElem (by omega)
  have := while_in h hx
  rw [h2 _ hx] at this
  cases this
theorem reach_take (l : List Sc) (age : Int) : reachM l age = endS (l.take (l.takeWhile fun s => decide (age < s.2)).length) := by
 unfold reachM
 conv => lhs; rw [while_take]
structure MayA (t : Tp) (m : Ma) (z : Int × Int) : Prop where
 chk : checkM t = 0
 few : m.2.2.1.length ≤ 24
 once : onceM m.2.2.1
 some_ : 1 ≤ m.2.2.2.1.length
 eight : m.2.2.2.1.length ≤ 8
 gap0 : 0 ≤ m.2.2.2.2
 gap1 : m.2.2.2.2 ≤ 1099511627776
 sects : SectsI m.2.2.2.1
 left : leftA t m = some z
 fits : endS m.2.2.2.1 + m.2.2.2.2 ≤ z.1
theorem may_iff {t : Tp} {m : Ma} : mayMA t m = true ↔ ∃ z, MayA t m z := by
 unfold mayMA fitsB
 simp only [Bool.and_eq_true, decide_eq_true_eq, Bool.not_eq_true', twice_no, sects_iff]
 constructor
 ·rintro ⟨⟨⟨⟨⟨⟨⟨⟨h1, h2⟩, h3⟩, h4⟩, h5⟩, h6⟩, h7⟩, h8⟩, h9⟩
  cases hl : leftA t m with
  | none => rw [hl] at h9; cases h9
  | some z => rw [hl] at h9; exact ⟨z, h1, h2, h3, h4, h5, h6, h7, h8, hl, by simpa using h9⟩
 ·rintro ⟨z, h1, h2, h3, h4, h5, h6, h7, h8, h9, h10⟩
  exact ⟨⟨⟨⟨⟨⟨⟨⟨h1, h2⟩, h3⟩, h4⟩, h5⟩, h6⟩, h7⟩, h8⟩, by rw [h9]; simpa using h10⟩
theorem left_some {t : Tp} {m : Ma} {z : Int × Int} (h : leftA t m = some z) : ∃ b, balM t.2.2.1 m.1 = some b ∧ m.2.2.1.head? = some (b.2.1, m.2.1) ∧ (lenM t m.2.2.1).2 = 0 ∧ z = ((lenM t m.2.2.1).1 - alongP t (b.2.1, b.2.2, m.2.1), alongP t (b.2.1, b.2.2, m.2.1)) := by
 unfold leftA at h
 cases hb : balM t.2.2.1 m.1 with
 | none => rw [hb] at h; cases h
 | some b =>
  rw [hb] at h
  simp only at h
  split at h
  ·rename_i h1
   injection h with h
   exact ⟨b, rfl, h1.1, h1.2, h.symm⟩
  ·cases h
end Go.Proofs.YtpapiojicbbheaaGreatDoor

namespace Go.Proofs.YtpapiojicbbheaaGreatDoor
open Go.RowKit
def nextK (t : Tp) (train : Int) (out : List Lk) (may : Rt → Bool) (k : Lk) : Option (Lk × Rt) := match rtM t.2.2.2 k.1 with
 | some r => if (k.2.1 == train && !(out.contains k) && may r) = true then some (k, r) else none
 | none => none
def hasB (s : Stp) (r : Rt) : Bool := r.2.1.contains s
def followsB (t : Tp) (gone : List Stp) (r : Rt) : Bool := match gone.getLast?, r.2.1.head? with
 | some g, some h => (afterM t g).contains h && !(r.2.1.any fun u => overB gone u.1)
 | _, _ => false
def chainK (t : Tp) (l : List Lk) (train : Int) : Nat → List Lk → List Stp → List Lk × List Stp
 | 0, out, gone => (out, gone)
 | f + 1, out, gone => match l.findSome? (nextK t train out (followsB t gone)) with
  | none => (out, gone)
  | some z => chainK t l train f (out ++ [z.1]) (gone ++ z.2.2.1)
def chainM (t : Tp) (l : List Lk) (train : Int) (s : Stp) : List Lk := if checkM t = 0 then (match l.findSome? (nextK t train [] (hasB s)) with
 | none => []
 | some z => (chainK t l train 7 [z.1] z.2.2.1).1) else []
theorem nextK_some {t : Tp} {train : Int} {out : List Lk} {may : Rt → Bool} {k : Lk} {z : Lk × Rt} (h : nextK t train out may k = some z) : z.1 = k ∧ rtM t.2.2.2 k.1 = some z.2 ∧ k.2.1 = train ∧ k ∉ out ∧ may z.2 = true := by
 unfold nextK at h
 cases hr : rtM t.2.2.2 k.1 with
 | none => rw [hr] at h; cases h
 | some r =>
  rw [hr] at h
  simp only at h
  split at h
  ·rename_i hc
   injection h with h
   subst h
   simp only [Bool.and_eq_true, beq_iff_eq, Bool.not_eq_true', List.contains_eq_mem, decide_eq_false_iff_not] at hc
   exact ⟨rfl, rfl, hc.1.1, hc.1.2, hc.2⟩
  ·cases h
structure ChI (t : Tp) (l : List Lk) (train : Int) (s : Stp) (out : List Lk) (gone : List Stp) : Prop where
 way : ∀ i k, out[i]? = some k → ∃ r, rtM t.2.2.2 k.1 = some r ∧ k ∈ l ∧ k.2.1 = train ∧ k ∉ out.take i ∧ (i = 0 → hasB s r = true) ∧ (0 < i → followsB t ((out.take i).flatMap fun k => ((rtM t.2.2.2 k.1).map (·.2.1)).getD []) r = true)
 gone_ : gone = out.flatMap fun k => ((rtM t.2.2.2 k.1).map (·.2.1)).getD []
theorem ChI.next {t : Tp} {l : List Lk} {train : Int} {s : Stp} {out : List Lk} {gone : List Stp} (h : ChI t l train s out gone) (h0 : out ≠ []) {z : Lk × Rt} (hz : l.findSome? (nextK t train out (followsB t gone)) = some z) : ChI t l train s (out ++ [z.1]) (gone ++ z.2.2.1) := by
 obtain ⟨k, hk, hz⟩ := List.exists_of_findSome?_eq_some hz
 obtain ⟨h1, h2, h3, h4, h5⟩ := nextK_some hz
 refine ⟨fun i k' hk' => ?_, ?_⟩
 ·by_cases hi : i < out.length
  ·rw [List.getElem?_append_left hi] at hk'
   rw [List.take_append_of_le_length (by omega)]
   exact h.way i k' hk'
  ·have hi2 : i = out.length := by
    have := (List.getElem?_eq_some_iff.1 hk').1
    rw [List.length_append] at this
    simp at this
    omega
   subst hi2
   rw [List.getElem?_append_right (Nat.le_refl _)] at hk'
   simp at hk'
   subst hk'
   rw [List.take_append_of_le_length (Nat.le_refl _), List.take_length, h1]
   refine ⟨z.2, h2, hk, h3, h4, fun e => ?_, fun _ => by rw [← h.gone_]; exact h5⟩
   exact absurd (List.eq_nil_of_length_eq_zero e) h0
 ·rw [List.flatMap_append, ← h.gone_, h1]
  simp [h2]
theorem ChI.loop {t : Tp} {l : List Lk} {train : Int} {s : Stp} : ∀ {f : Nat} {out : List Lk} {gone : List Stp}, ChI t l train s out gone → out ≠ [] → ChI t l train s (chainK t l train f out gone).1 (chainK t l train f out gone).2 ∧ (chainK t l train f out gone).1.length ≤ out.length + f
 | 0, out, gone, h, _ => ⟨h, Nat.le_refl _⟩
 | f + 1, out, gone, h, h0 => by
  unfold chainK
  cases hz : l.findSome? (nextK t train out (followsB t gone)) with
  | none => exact ⟨h, by simp only; omega⟩
  | some z =>
   simp only
   have h1 := h.next h0 hz
   obtain ⟨a, b⟩ := ChI.loop (f := f) h1 (by simp)
   refine ⟨a, ?_⟩
   rw [List.length_append] at b
   simp at b
   omega
theorem chain_good {t : Tp} {l : List Lk} {train : Int} {s : Stp} : ∃ gone, ChI t l train s (chainM t l train s) gone ∧ (chainM t l train s).length ≤ 8 ∧ (chainM t l train s ≠ [] → checkM t = 0) := by
 unfold chainM
 split
 ·rename_i hc
  cases hz : l.findSome? (nextK t train [] (hasB s)) with
  | none => exact ⟨[], ⟨fun i k h => by simp at h, rfl⟩, by simp, fun h => absurd rfl h⟩
  | some z =>
   simp only
   obtain ⟨k, hk, hz⟩ := List.exists_of_findSome?_eq_some hz
   obtain ⟨h1, h2, h3, h4, h5⟩ := nextK_some hz
   have h : ChI t l train s [z.1] z.2.2.1 := by
    refine ⟨fun i k' hk' => ?_, ?_⟩
    ·cases i with
     | zero =>
      simp at hk'
      subst hk'
      rw [h1]
      exact ⟨z.2, h2, hk, h3, by simp, fun _ => h5, fun h => absurd h (by omega)⟩
     | succ i => simp at hk'
    ·rw [h1]; simp [h2]
   obtain ⟨a, b⟩ := ChI.loop (f := 7) h (by simp)
   exact ⟨_, a, by simpa using b, fun _ => hc⟩
 ·exact ⟨[], ⟨fun i k h => by simp at h, rfl⟩, by simp, fun h => absurd rfl h⟩
end Go.Proofs.YtpapiojicbbheaaGreatDoor

namespace Go.Proofs.YtpapiojicbbheaaGreatDoor
open Go.RowKit
theorem MayA.place {t : Tp} {m : Ma} {z : Int × Int} (h : MayA t m z) : ∃ b, balM t.2.2.1 m.1 = some b ∧ (lenM t m.2.2.1).2 = 0 ∧ z = ((lenM t m.2.2.1).1 - alongP t (b.2.1, b.2.2, m.2.1), alongP t (b.2.1, b.2.2, m.2.1)) ∧ goodM t.1 m.2.2.1 ∧ (lenM t m.2.2.1).1 = sumM t.1 m.2.2.1 := by
 obtain ⟨b, h1, h2, h3, h4⟩ := left_some h.left
 obtain ⟨g1, g2, g3⟩ := good_of h.chk h3
 exact ⟨b, h1, h3, h4, g1, g3⟩
end Go.Proofs.YtpapiojicbbheaaGreatDoor

namespace Go.Proofs.YtpapiojicbbheaaGreatDoor
open Go.RowKit
theorem check_bal {t : Tp} (h : checkM t = 0) {b : Bl} (hb : b ∈ t.2.2.1) : 0 ≤ b.1 ∧ b.1 ≤ 16777214 ∧ thereB t.1.length b.2.1 = true ∧ 0 ≤ b.2.2 ∧ b.2.2 ≤ edgeM t b.2.1 := by
 have h0 : firstE (bErr t) t.2.2.1.length = 0 := by
  unfold checkM at h
  split at h
  ·exact absurd h (by decide)
  split at h
  ·exact absurd h (by decide)
  split at h
  ·rename_i h3; exact absurd h h3
  split at h
  ·rename_i h3; exact absurd h h3
  rename_i h3
  simpa using h3
 obtain ⟨i, hi⟩ := List.mem_iff_getElem?.1 hb
 have h1 := firstE_all h0 i (List.getElem?_eq_some_iff.1 hi).1
 unfold bErr at h1
 rw [hi] at h1
 simp only at h1
 split at h1
 ·exact absurd h1 (by decide)
 rename_i h2
 have h3 : thereB t.1.length b.2.1 = true := by
  cases h4 : thereB t.1.length b.2.1 with
  | true => rfl
  | false => exact absurd (.inr (.inr (.inl h4))) h2
 refine ⟨by omega, by omega, h3, by omega, ?_⟩
 unfold edgeM
 omega
theorem bal_mem {l : List Bl} {id : Int} {b : Bl} (h : balM l id = some b) : b ∈ l ∧ b.1 = id := by
 unfold balM at h
 exact ⟨List.mem_of_find?_eq_some h, by simpa using List.find?_some h⟩
def goneM (t : Tp) : Nat → Stp → Int → List Stp
 | 0, s, _ => [s]
 | f + 1, s, n => if n ≤ edgeM t s.1 then [s] else match afterM t s with
  | [x] => s :: goneM t f x (n - edgeM t s.1)
  | _ => [s]
theorem gone_in {t : Tp} {f : Nat} {s : Stp} {n : Int} (h : n ≤ edgeM t s.1) : goneM t f s n = [s] := by
 cases f <;> unfold goneM
 ·rfl
 ·rw [if_pos h]
theorem gone_next {t : Tp} {f : Nat} {s x : Stp} {n : Int} (h : ¬ n ≤ edgeM t s.1) (ha : afterM t s = [x]) : goneM t (f + 1) s n = s :: goneM t f x (n - edgeM t s.1) := by
 conv => lhs; unfold goneM
 rw [if_neg h, ha]
theorem go_on {t : Tp} {f : Nat} {s : Stp} {n : Int} (h : (goM t f s n).2 = 0) (hn : ¬ n ≤ edgeM t s.1) : ∃ g x, f = g + 1 ∧ afterM t s = [x] ∧ (goM t g x (n - edgeM t s.1)).2 = 0 := by
 cases f with
 | zero =>
  rcases ha : afterM t s with _ | ⟨x, _ | ⟨y, l⟩⟩
  ·rw [goM_end hn ha] at h; exact absurd h (by decide)
  ·rw [goM_long hn ha] at h; exact absurd h (by decide)
  ·rw [goM_fork hn ha] at h; exact absurd h (by decide)
 | succ f =>
  rcases ha : afterM t s with _ | ⟨x, _ | ⟨y, l⟩⟩
  ·rw [goM_end hn ha] at h; exact absurd h (by decide)
  ·rw [goM_next hn ha] at h; exact ⟨f, x, rfl, rfl, h⟩
  ·rw [goM_fork hn ha] at h; exact absurd h (by decide)
structure GoneI (t : Tp) (f : Nat) (s : Stp) (n : Int) : Prop where
 few : (goneM t f s n).length ≤ f + 1
 head : (goneM t f s n).head? = some s
 in_ : ∀ u ∈ goneM t f s n, thereB t.1.length u.1 = true
 aft : ∀ k a b, (goneM t f s n)[k]? = some a → (goneM t f s n)[k + 1]? = some b → afterM t a = [b]
 last : (goneM t f s n).getLast? = some ((goM t f s n).1.1, (goM t f s n).1.2.2)
 at_ : n = plainS t.1 (goneM t f s n) - edgeM t (goM t f s n).1.1 + alongP t (goM t f s n).1
theorem gone_good {t : Tp} : ∀ {f : Nat} {s : Stp} {n : Int}, thereB t.1.length s.1 = true → (goM t f s n).2 = 0 → GoneI t f s n := by
 intro f
 induction f with
 | zero =>
  intro s n hs h
  by_cases hn : n ≤ edgeM t s.1
  ·have e1 := gone_in (t := t) (f := 0) hn
   have e2 := goM_in (t := t) (f := 0) hn
   refine ⟨by rw [e1]; simp, by rw [e1]; rfl, by rw [e1]; simpa using hs, by rw [e1]; intro k a b ha hb; simp at hb, by rw [e1, e2]; rfl, ?_⟩
   rw [e1, e2]
   simp only
   rw [along_over]
   unfold plainS overP edgeM
   simp
  ·obtain ⟨g, x, h1, _⟩ := go_on h hn
   omega
 | succ f ih =>
  intro s n hs h
  by_cases hn : n ≤ edgeM t s.1
  ·have e1 := gone_in (t := t) (f := f + 1) hn
   have e2 := goM_in (t := t) (f := f + 1) hn
   refine ⟨by rw [e1]; simp, by rw [e1]; rfl, by rw [e1]; simpa using hs, by rw [e1]; intro k a b ha hb; simp at hb, by rw [e1, e2]; rfl, ?_⟩
   rw [e1, e2]
   simp only
   rw [along_over]
   unfold plainS overP edgeM
   simp
  ·obtain ⟨g, x, h1, h2, h3⟩ := go_on h hn
   obtain rfl : f = g := by omega
   have i := ih (after_there (t := t) (s := s) (x := x) (by rw [h2]; simp)) h3
   have e1 := gone_next (f := f) hn h2
   have e2 := goM_next (f := f) hn h2
   refine ⟨by rw [e1]; have := i.few; simp; omega, by rw [e1]; rfl, by rw [e1]; intro u hu; rcases List.mem_cons.1 hu with rfl | hu; exact hs; exact i.in_ u hu, ?_, ?_, ?_⟩
   ·rw [e1]
    intro k a b ha hb
    cases k with
    | zero =>
     have hh := i.head
     rw [List.head?_eq_getElem?] at hh
     simp only [List.getElem?_cons_zero, Option.some.injEq] at ha
     simp only [List.getElem?_cons_succ] at hb
     rw [hh] at hb
     injection hb with hb
     rw [← ha, ← hb, h2]
    | succ k =>
     simp only [List.getElem?_cons_succ] at ha hb
     exact i.aft k a b ha hb
   ·rw [e1, e2, List.getLast?_cons, i.last]
    rfl
   ·rw [e1, e2, plainS_cons]
    have := i.at_
    have e3 : t.1.getD s.1.toNat 0 = edgeM t s.1 := rfl
    rw [e3]
    omega
def routeOf (t : Tp) (k : Lk) : Rt := (rtM t.2.2.2 k.1).getD (0, [], 0, 0)
def partC (t : Tp) (s : Stp) (i : Nat) (k : Lk) : List Stp := if i = 0 then (routeOf t k).2.1.drop ((routeOf t k).2.1.idxOf s + 1) else (routeOf t k).2.1
def wayC (t : Tp) (s : Stp) (g : List Stp) (c : List Lk) : Nat → List Stp
 | 0 => g
 | i + 1 => wayC t s g c i ++ (match c[i]? with | some k => partC t s i k | none => [])
def secC (t : Tp) (s : Stp) (g : List Stp) (back : Int) (c : List Lk) : Nat → List Sc
 | 0 => []
 | i + 1 => secC t s g back c i ++ (match c[i]? with | some k => [(plainS t.1 (wayC t s g c (i + 1)) - back, (routeOf t k).2.2.2)] | none => [])
def gapC (t : Tp) (c : List Lk) : Nat → Int
 | 0 => 0
 | i + 1 => match c[i]? with | some k => (routeOf t k).2.2.1 | none => 0
def lessS (l : List Sc) (g : Int) : List Sc := match l.getLast? with | some x => l.dropLast ++ [(x.1 - g, x.2)] | none => []
def endC (ref : Int) (rev : Bool) (n : Int) (P : List Stp) (S : List Sc) (gap : Int) : Ma × Int :=
 if 24 < P.length ∨ twiceB P = true then (noMa, 2)
 else if endS S ≤ n ∨ (1 < S.length ∧ endS S ≤ endS S.dropLast) then (noMa, 141)
 else match S with
  | [] => (noMa, 1)
  | x :: S' => if x.1 = 0 then ((ref, rev, P, S', gap), 0) else ((ref, rev, P, x :: S', gap), 0)
end Go.Proofs.YtpapiojicbbheaaGreatDoor
