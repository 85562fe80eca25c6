/- Chapter 15: the chapter's examples; SpanNormal. -/
import Derived.Test.YtlcbajdckgcopaaSpnM
namespace Go.Proofs.Ytlcbajdckgcopaa
open Go.RowKit

def aw0 : List Sp := [(1, 5, 9), (0, 0, 3), (1, 9, 12), (0, 5, 5)]
def aw1 : List Sp := [(0, 0, 3), (1, 5, 12)]
def aw2 : List Sp := [(0, 0, 3), (1, 5, 6), (1, 7, 12)]
theorem aw_norm : NormOf aw0 aw1 := norm_of (l := aw0) (all := [(0, 0, 3), (1, 5, 9), (1, 9, 12)]) (by decide +kernel) (by simp [leS])
theorem aw_cut : NormalS [((1 : Int), (6 : Int), (7 : Int))] := ⟨by simp [someS], by simp⟩
theorem aw_minus : KeptIs aw1 [(1, 6, 7)] false aw2 := by
  refine ⟨⟨by simp [aw2, someS], by simp [aw2, sepS]⟩, fun e x => ?_⟩
  have h := piecesM_has false aw_norm.1 aw_cut e x
  have h2 : keptM false (piecesM aw1 [(1, 6, 7)]) = aw2 := by decide +kernel
  rwa [h2] at h
theorem SpAt.here {w w' : World} {n c : Nat} {A : Option Addr} {l : List Sp} (h : SpAt w w.heap.size A n c l) (hk : Keep Never w w') : SpAt w' w'.heap.size A n c l := (h.keep hk).more hk.size
theorem same15_self (l : List Sp) (A A' : Option Addr) (n n' c c' B B' : Nat) (w : World) (hr : Rd w B 3 A n (spCells l)) (hr' : Rd w B' 3 A' n' (spCells l)) (hn : n ≤ 100000000000) (hn' : n' ≤ 100000000000) :
    Calls Try.prog 28 #[.slice A n c, .slice A' n' c'] w fun e w' => e = .returned (.bool true) ∧ Keep Never w w' := by
  have h := same15_any l l A A' n n' c c' B B' w hr hr' hn hn'
  rwa [decide_eq_true rfl] at h
theorem KeptIs.one {a b m n : List Sp} {which : Bool} (h : KeptIs a b which m) (h' : KeptIs a b which n) : m = n := normal_one h.1 h'.1 (fun e x => (h.2 e x).trans (h'.2 e x).symm)

set_option maxHeartbeats 4000000 in
set_option maxRecDepth 100000 in
theorem awake15_any (w : World) : Calls Try.prog 39 #[] w fun e w' => e = .returned (.bool true) ∧ Keep Never w w' := by
  obtain ⟨w0, hw0⟩ : ∃ w0 : World, w.alloc (.cells #[.int .i64 1, .int .i64 5, .int .i64 9, .int .i64 0, .int .i64 0, .int .i64 3, .int .i64 1, .int .i64 9, .int .i64 12, .int .i64 0, .int .i64 5, .int .i64 5] 109) = w0 := ⟨_, rfl⟩
  have hk0 : Keep Never w w0 := by rw [← hw0]; exact (Keep.refl _ _).alloc _
  have hs0 : SpAt w0 w0.heap.size (some ⟨w.heap.size, 0, none⟩) 4 4 aw0 := by
    have h := Own.lit w 109 #[.int .i64 1, .int .i64 5, .int .i64 9, .int .i64 0, .int .i64 0, .int .i64 3, .int .i64 1, .int .i64 9, .int .i64 12, .int .i64 0, .int .i64 5, .int .i64 5] 4 3 (by unfold maxLen; omega) rfl
    rw [hw0] at h
    exact SpAt.of_own (base := w.heap.size) h
  have HN := Lib.hid (norm_any _ 4 4 _ aw0 w0 hs0.rd hs0.nil hs0.cap (by omega) (Nat.le_refl _))
  have HK0 := Lib.hid hk0
  clear hk0 hs0
  go_enter Try.func39, Try.ntmps39
  go_wp2_with fail
  refine HN.out.mono ?_
  rintro e w1 ⟨m1, A1, n1, c1, rfl, hn1, ho1, hk1, hp1, _⟩
  have HK1 := Lib.hid (HK0.out.trans hk1)
  have HS1 := Lib.hid (SpAt.of_own ho1)
  have hn2 : n1 = 2 := by rw [hn1, hp1.one aw_norm]; rfl
  have hm2 : m1 = aw1 := hp1.one aw_norm
  subst hm2 hn2
  clear hn1 ho1 hk1 hp1 HN
  obtain ⟨w2, hw2⟩ : ∃ w2 : World, w1.alloc (.cells #[.int .i64 1, .int .i64 6, .int .i64 7] 109) = w2 := ⟨_, rfl⟩
  have hk2 : Keep Never w1 w2 := by rw [← hw2]; exact (Keep.refl _ _).alloc _
  have hs2 : SpAt w2 w2.heap.size (some ⟨w1.heap.size, 0, none⟩) 1 1 [(1, 6, 7)] := by
    have h := Own.lit w1 109 #[.int .i64 1, .int .i64 6, .int .i64 7] 1 3 (by unfold maxLen; omega) rfl
    rw [hw2] at h
    exact SpAt.of_own (base := w1.heap.size) h
  have HM := Lib.hid (minus_any _ _ 2 c1 _ 1 1 aw1 [(1, 6, 7)] w2 (HS1.out.here hk2) hs2 (by omega) (by omega) (Nat.le_refl _))
  have HK2 := Lib.hid (HK1.out.trans hk2)
  have HS2 := Lib.hid (HS1.out.here hk2)
  clear hk2 hs2
  go_wp2_with fail
  refine HM.out.mono ?_
  rintro e w3 ⟨m3, A3, n3, c3, rfl, hn3, ho3, hk3, hp3, _⟩
  have HK3 := Lib.hid (HK2.out.trans hk3)
  have HS3 := Lib.hid (SpAt.of_own ho3)
  have HS13 := Lib.hid (HS2.out.here hk3)
  have hn4 : n3 = 3 := by rw [hn3, hp3.one aw_minus]; rfl
  have hm4 : m3 = aw2 := hp3.one aw_minus
  subst hm4 hn4
  clear hn3 ho3 hk3 hp3 HM
  obtain ⟨w4, hw4⟩ : ∃ w4 : World, w3.alloc (.cells #[.int .i64 0, .int .i64 0, .int .i64 3, .int .i64 1, .int .i64 5, .int .i64 12] 109) = w4 := ⟨_, rfl⟩
  have hk4 : Keep Never w3 w4 := by rw [← hw4]; exact (Keep.refl _ _).alloc _
  have hs4 : SpAt w4 w4.heap.size (some ⟨w3.heap.size, 0, none⟩) 2 2 aw1 := by
    have h := Own.lit w3 109 #[.int .i64 0, .int .i64 0, .int .i64 3, .int .i64 1, .int .i64 5, .int .i64 12] 2 3 (by unfold maxLen; omega) rfl
    rw [hw4] at h
    exact SpAt.of_own (base := w3.heap.size) h
  have HSm1 := Lib.hid (same15_self aw1 A1 _ 2 2 c1 2 _ _ w4 (HS13.out.here hk4).rd hs4.rd (by omega) (by omega))
  have HK4 := Lib.hid (HK3.out.trans hk4)
  have HS14 := Lib.hid (HS13.out.here hk4)
  have HS34 := Lib.hid (HS3.out.here hk4)
  clear hk4 hs4
  go_wp2_with fail
  refine HSm1.out.mono ?_
  rintro e w5 ⟨rfl, hk5⟩
  have HK5 := Lib.hid (HK4.out.trans hk5)
  have HS15 := Lib.hid (HS14.out.here hk5)
  have HS35 := Lib.hid (HS34.out.here hk5)
  clear hk5 HSm1
  obtain ⟨w6, hw6⟩ : ∃ w6 : World, w5.alloc (.cells #[.int .i64 0, .int .i64 0, .int .i64 3, .int .i64 1, .int .i64 5, .int .i64 6, .int .i64 1, .int .i64 7, .int .i64 12] 109) = w6 := ⟨_, rfl⟩
  have hk6 : Keep Never w5 w6 := by rw [← hw6]; exact (Keep.refl _ _).alloc _
  have hs6 : SpAt w6 w6.heap.size (some ⟨w5.heap.size, 0, none⟩) 3 3 aw2 := by
    have h := Own.lit w5 109 #[.int .i64 0, .int .i64 0, .int .i64 3, .int .i64 1, .int .i64 5, .int .i64 6, .int .i64 1, .int .i64 7, .int .i64 12] 3 3 (by unfold maxLen; omega) rfl
    rw [hw6] at h
    exact SpAt.of_own (base := w5.heap.size) h
  have HSm2 := Lib.hid (same15_self aw2 A3 _ 3 3 c3 3 _ _ w6 (HS35.out.here hk6).rd hs6.rd (by omega) (by omega))
  have HK6 := Lib.hid (HK5.out.trans hk6)
  have HS16 := Lib.hid (HS15.out.here hk6)
  have HS36 := Lib.hid (HS35.out.here hk6)
  clear hk6 hs6
  go_wp2_with fail
  refine HSm2.out.mono ?_
  rintro e w7 ⟨rfl, hk7⟩
  have HK7 := Lib.hid (HK6.out.trans hk7)
  have HS17 := Lib.hid (HS16.out.here hk7)
  have HS37 := Lib.hid (HS36.out.here hk7)
  clear hk7 HSm2
  have HH1 := Lib.hid (fun x => has_any A1 2 c1 _ aw1 1 x w7 HS17.out.rd (by omega))
  have e11 : hasL aw1 1 11 = true := by decide +kernel
  have e12 : hasL aw1 1 12 = false := by decide +kernel
  have HA := HH1.out 11
  rw [e11] at HA
  have HA := Lib.hid HA
  clear HH1 e11
  go_wp2_with fail
  refine HA.out.mono ?_
  rintro e w8 ⟨rfl, hk8⟩
  have HK8 := Lib.hid (HK7.out.trans hk8)
  have HS18 := Lib.hid (HS17.out.here hk8)
  have HS38 := Lib.hid (HS37.out.here hk8)
  have HA2 := has_any A1 2 c1 _ aw1 1 12 w8 HS18.out.rd (by omega)
  rw [e12] at HA2
  have HA2 := Lib.hid HA2
  clear hk8 HA e12
  go_wp2_with fail
  refine HA2.out.mono ?_
  rintro e w9 ⟨rfl, hk9⟩
  have HK9 := Lib.hid (HK8.out.trans hk9)
  have HS19 := Lib.hid (HS18.out.here hk9)
  have HS39 := Lib.hid (HS38.out.here hk9)
  have HT := Lib.hid (total_sp _ A3 3 c3 aw2 w9 HS39.out (by omega) (Nat.le_refl _))
  clear hk9 HA2
  go_wp2_with fail
  refine HT.out.mono ?_
  rintro e w10 ⟨m, rfl, hm, hk10⟩
  have hm2 : m = aw2 := (hm.one (NormOf.self aw_minus.1))
  subst hm2
  have ec : cntL aw2 = 9 := by decide +kernel
  rw [ec]
  have HK10 := Lib.hid (HK9.out.trans hk10)
  have HS110 := Lib.hid (HS19.out.here hk10)
  have HS310 := Lib.hid (HS39.out.here hk10)
  have HW := Lib.hid (within_any _ A3 3 c3 A1 2 c1 aw2 aw1 w10 HS310.out HS110.out (by omega) (by omega) (Nat.le_refl _))
  clear hk10 HT hm ec
  go_wp2_with fail
  refine HW.out.mono ?_
  rintro e w11 ⟨r, rfl, hw, hk11⟩
  have hr : r = true := hw.2 fun e x h => by
    have := aw_minus.2 e x
    rw [h] at this
    exact (Bool.and_eq_true _ _ ▸ this.symm).1
  subst hr
  have HK11 := Lib.hid (HK10.out.trans hk11)
  have HS111 := Lib.hid (HS110.out.here hk11)
  have HS311 := Lib.hid (HS310.out.here hk11)
  have HM := Lib.hid (meets_any _ A3 3 c3 A1 2 c1 aw2 aw1 w11 HS311.out HS111.out (by omega) (by omega) (Nat.le_refl _))
  clear hk11 HW hw
  go_wp2_with fail
  refine HM.out.mono ?_
  rintro e w12 ⟨r, rfl, hw, hk12⟩
  have hr : r = true := hw.2 ⟨0, 0, by decide +kernel, by decide +kernel⟩
  subst hr
  have HK12 := Lib.hid (HK11.out.trans hk12)
  clear hk12 HM hw
  go_wp2_with fail
  go_ret
  exact ⟨rfl, HK12.out⟩

end Go.Proofs.Ytlcbajdckgcopaa
