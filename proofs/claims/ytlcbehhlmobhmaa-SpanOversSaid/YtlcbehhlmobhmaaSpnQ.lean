/- Chapter 15: SpanParts. -/
import Derived.Test.YtlcbehhlmobhmaaSpnO
namespace Go.Proofs.Ytlcbehhlmobhmaa
open Go.RowKit

theorem parts_all {a b c m u n : List Sp} (hc : KeptIs a b true c) (hm : KeptIs a b false m) (hu : NormOf (c ++ m) u) (hn : NormOf a n) : u = n :=
  normal_one hu.1 hn.1 fun e x => by
    rw [hu.2, hn.2, hasL_app, hc.2, hm.2]
    cases hasL a e x <;> cases hasL b e x <;> rfl
theorem parts_swap {a b c d : List Sp} (hc : KeptIs a b true c) (hd : KeptIs b a true d) : d = c :=
  normal_one hd.1 hc.1 fun e x => by
    rw [hd.2, hc.2]
    cases hasL a e x <;> cases hasL b e x <;> rfl
theorem parts_union {a b c d : List Sp} (hc : NormOf (a ++ b) c) (hd : NormOf (b ++ a) d) : c = d :=
  normal_one hc.1 hd.1 fun e x => by
    rw [hc.2, hd.2, hasL_app, hasL_app, Bool.or_comm]
theorem parts_meet {a b c m : List Sp} {r : Bool} (hc : KeptIs a b true c) (hm : KeptIs a b false m) (h : meetsB c m r) : r = false := by
  cases r with
  | false => rfl
  | true =>
    obtain ⟨e, x, h1, h2⟩ := h.1 rfl
    rw [hc.2] at h1
    rw [hm.2] at h2
    cases ha : hasL a e x <;> cases hb : hasL b e x <;> rw [ha, hb] at h1 h2 <;> first | exact absurd h1 Bool.false_ne_true | exact absurd h2 Bool.false_ne_true
theorem parts_cnt {a b c m n c' m' n' : List Sp} (hc : KeptIs a b true c) (hm : KeptIs a b false m) (hn : NormOf a n) (h1 : NormOf c c') (h2 : NormOf m m') (h3 : NormOf a n') : cntL c' + cntL m' = cntL n' := by
  rw [h1.one (NormOf.self hc.1), h2.one (NormOf.self hm.1), h3.one hn]
  refine cnt_parts hn.1 hc.1 hm.1 (fun e x => ?_) (fun e x h => ?_)
  · rw [hn.2, hc.2, hm.2]
    cases hasL a e x <;> cases hasL b e x <;> rfl
  · rw [hc.2, hm.2] at h
    cases ha : hasL a e x <;> cases hb : hasL b e x <;> rw [ha, hb] at h <;> first | exact absurd h.1 Bool.false_ne_true | exact absurd h.2 Bool.false_ne_true
theorem parts_len {c c' : List Sp} (hc : NormalS c) (h : NormOf c c') {n : Nat} (hn : c.length ≤ n) : 0 ≤ cntL c' ∧ cntL c' ≤ 1000000 * n := by
  rw [h.one (NormOf.self hc)]
  have := cntL_range hc
  omega
theorem parts_in {a b c : List Sp} {r : Bool} (hc : KeptIs a b true c) (h : withinB c b r) : r = true :=
  h.2 fun e x hx => by
    rw [hc.2] at hx
    cases ha : hasL a e x <;> cases hb : hasL b e x <;> rw [ha, hb] at hx <;> first | rfl | exact absurd hx Bool.false_ne_true
theorem parts_in2 {a b c : List Sp} {r : Bool} (hc : NormOf (a ++ b) c) (h : withinB a c r) : r = true :=
  h.2 fun e x hx => by rw [hc.2, hasL_app, hx]; rfl
theorem parts_none {a b m : List Sp} {r : Bool} (hm : KeptIs a b false m) (h : withinB a b r) {n : Nat} (hn : n = m.length) : r = (((n : Int) == 0) : Bool) := by
  apply bool_ext
  rw [show r = true ↔ _ from h, beq_iff_eq, hn]
  have h2 := kept_nil hm
  constructor
  · intro hh
    have : m = [] := h2.2 fun e x hx => by rw [hh e x hx.1] at hx; cases hx.2
    simp [this]
  · intro hh e x hx
    have := h2.1 (List.eq_nil_of_length_eq_zero (by omega)) e x
    cases hb : hasL b e x with
    | true => rfl
    | false => exact absurd ⟨hx, hb⟩ this

set_option maxHeartbeats 8000000 in
set_option maxRecDepth 100000 in
theorem spanParts_walk (W : World) (A0 : Option Addr) (n0 c0 : Nat) (l0 : List Sp) (s0 : repSp.Sl W W.heap.size A0 n0 c0 l0) (A1 : Option Addr) (n1 c1 : Nat) (l1 : List Sp) (s1 : repSp.Sl W W.heap.size A1 n1 c1 l1) :
    Calls Try.prog 6 #[.slice A0 n0 c0, .slice A1 n1 c1] W fun e W' => e = .returned (.bool true) ∧ Keep Never W W' := by
  have HL0 := Lib.hid (Live.two s0 s1)
  clear s0 s1
  have HA := Lib.hid (awake15_any W)
  go_enter Try.func6, Try.ntmps6
  go_wp2_with fail
  refine HA.out.mono ?_
  rintro e w1 ⟨rfl, hk1⟩
  have HL1 := Lib.hid (HL0.out.go hk1)
  clear hk1 HA HL0
  by_cases hs : n0 ≤ 200 ∧ n1 ≤ 200
  case neg =>
    by_cases h0 : n0 ≤ 200
    · have t0 : decide ((n0 : Int) > 200) = false := by simp; omega
      have t1 : decide ((n1 : Int) > 200) = true := by simp; omega
      clear hs h0
      go_wp2_with fail
      go_ret
      exact ⟨rfl, HL1.out.1⟩
    · have t0 : decide ((n0 : Int) > 200) = true := by simp; omega
      clear hs h0
      go_wp2_with fail
      go_ret
      exact ⟨rfl, HL1.out.1⟩
  case pos =>
    obtain ⟨h0, h1⟩ := hs
    have t0 : decide ((n0 : Int) > 200) = false := by simp; omega
    have t1 : decide ((n1 : Int) > 200) = false := by simp; omega
    have bb : n0 * (2 * n1 + 1) ≤ 200 * 401 := Nat.mul_le_mul h0 (by omega)
    have bb' : n1 * (2 * n0 + 1) ≤ 200 * 401 := Nat.mul_le_mul h1 (by omega)
    have HC := Lib.hid (both_at HL1.out 0 1 rfl rfl (by omega) (by omega))
    go_wp2_with fail
    refine HC.out.mono ?_
    rintro e w2 ⟨m2, A2, n2, c2, rfl, hn2, hs2, hk2, hp2, hb2⟩
    have b2 : n2 ≤ 80200 := by have := hn2.out; omega
    have HL2 := Lib.hid (HL1.out.put hk2 hs2)
    have HP2 := Lib.hid hp2
    clear HC HL1 hs2 hk2 hp2
    have HC := Lib.hid (minus_at HL2.out 0 1 rfl rfl (by omega) (by omega))
    go_wp2_with fail
    refine HC.out.mono ?_
    rintro e w3 ⟨m3, A3, n3, c3, rfl, hn3, hs3, hk3, hp3, hb3⟩
    have b3 : n3 ≤ 80200 := by have := hn3.out; omega
    have HL3 := Lib.hid (HL2.out.put hk3 hs3)
    have HP3 := Lib.hid hp3
    clear HC HL2 hs3 hk3 hp3
    have HC := Lib.hid (union_at HL3.out 2 3 rfl rfl (by omega) (by omega))
    go_wp2_with fail
    refine HC.out.mono ?_
    rintro e w4 ⟨m4, A4, n4, c4, rfl, hn4, hs4, hk4, hp4, hb4⟩
    have b4 : n4 ≤ 200000 := by have := hn4.out; omega
    have HL4 := Lib.hid (HL3.out.put hk4 hs4)
    have HP4 := Lib.hid hp4
    clear HC HL3 hs4 hk4 hp4
    have HC := Lib.hid (norm_at HL4.out 0 rfl (by omega))
    go_wp2_with fail
    refine HC.out.mono ?_
    rintro e w5 ⟨m5, A5, n5, c5, rfl, hn5, hs5, hk5, hp5, hb5⟩
    have b5 : n5 ≤ 200000 := by have := hn5.out; omega
    have HL5 := Lib.hid (HL4.out.put hk5 hs5)
    have e45 := parts_all HP2.out HP3.out HP4.out hp5
    subst e45
    have HP5 := Lib.hid hp5
    clear HC HL4 hs5 hk5 hp5
    have HC := Lib.hid (same_at HL5.out 4 5 rfl rfl (by omega) (by omega))
    go_wp2_with fail
    refine HC.out.mono ?_
    rintro e w6 ⟨rfl, hk6⟩
    have HL6 := Lib.hid (HL5.out.go hk6)
    clear HC HL5 hk6
    have HC := Lib.hid (both_at HL6.out 1 0 rfl rfl (by omega) (by omega))
    go_wp2_with fail
    refine HC.out.mono ?_
    rintro e w7 ⟨m7, A7, n7, c7, rfl, hn7, hs7, hk7, hp7, hb7⟩
    have b7 : n7 ≤ 80200 := by have := hn7.out; omega
    have HL7 := Lib.hid (HL6.out.put hk7 hs7)
    have e72 := parts_swap HP2.out hp7
    subst e72
    clear HC HL6 hs7 hk7 hp7
    have HC := Lib.hid (same_at HL7.out 6 2 rfl rfl (by omega) (by omega))
    go_wp2_with fail
    refine HC.out.mono ?_
    rintro e w8 ⟨rfl, hk8⟩
    have HL8 := Lib.hid (HL7.out.go hk8)
    clear HC HL7 hk8
    have HC := Lib.hid (union_at HL8.out 0 1 rfl rfl (by omega) (by omega))
    go_wp2_with fail
    refine HC.out.mono ?_
    rintro e w9 ⟨m9, A9, n9, c9, rfl, hn9, hs9, hk9, hp9, hb9⟩
    have b9 : n9 ≤ 400 := by have := hn9.out; omega
    have HL9 := Lib.hid (HL8.out.put hk9 hs9)
    have HP9 := Lib.hid hp9
    clear HC HL8 hs9 hk9 hp9
    have HC := Lib.hid (union_at HL9.out 1 0 rfl rfl (by omega) (by omega))
    go_wp2_with fail
    refine HC.out.mono ?_
    rintro e w10 ⟨m10, A10, n10, c10, rfl, hn10, hs10, hk10, hp10, hb10⟩
    have b10 : n10 ≤ 400 := by have := hn10.out; omega
    have HL10 := Lib.hid (HL9.out.put hk10 hs10)
    have e910 := parts_union HP9.out hp10
    subst e910
    clear HC HL9 hs10 hk10 hp10
    have HC := Lib.hid (same_at HL10.out 7 8 rfl rfl (by omega) (by omega))
    go_wp2_with fail
    refine HC.out.mono ?_
    rintro e w11 ⟨rfl, hk11⟩
    have HL11 := Lib.hid (HL10.out.go hk11)
    clear HC HL10 hk11
    have HC := Lib.hid (meets_at HL11.out 2 3 rfl rfl (by omega) (by omega))
    go_wp2_with fail
    refine HC.out.mono ?_
    rintro e w12 ⟨r, rfl, hr, hk12⟩
    have er := parts_meet HP2.out HP3.out hr
    subst er
    have HL12 := Lib.hid (HL11.out.go hk12)
    clear HC HL11 hk12 hr
    have HC := Lib.hid (total_at HL12.out 2 rfl (by omega))
    go_wp2_with fail
    refine HC.out.mono ?_
    rintro e w13 ⟨mc, rfl, hmc, hk13⟩
    have HL13 := Lib.hid (HL12.out.go hk13)
    have gc := parts_len HP2.out.1 hmc (n := 80200) (by omega)
    have HMC := Lib.hid hmc
    clear HC HL12 hk13 hmc
    have HC := Lib.hid (total_at HL13.out 3 rfl (by omega))
    go_wp2_with fail
    refine HC.out.mono ?_
    rintro e w14 ⟨mm, rfl, hmm, hk14⟩
    have HL14 := Lib.hid (HL13.out.go hk14)
    have gm := parts_len HP3.out.1 hmm (n := 80200) (by omega)
    have HMM := Lib.hid hmm
    clear HC HL13 hk14 hmm
    obtain ⟨gc1, gc2⟩ := gc
    obtain ⟨gm1, gm2⟩ := gm
    have HC := Lib.hid (total_at HL14.out 0 rfl (by omega))
    go_wp2_with fail
    refine HC.out.mono ?_
    rintro e w15 ⟨ma, rfl, hma, hk15⟩
    have HL15 := Lib.hid (HL14.out.go hk15)
    have es := parts_cnt HP2.out HP3.out HP5.out HMC.out HMM.out hma
    have es2 : ((cntL mc + cntL mm == cntL ma) : Bool) = true := by rw [beq_iff_eq]; exact es
    clear HC HL14 hk15 hma es
    have HC := Lib.hid (within_at HL15.out 2 1 rfl rfl (by omega) (by omega))
    go_wp2_with fail
    refine HC.out.mono ?_
    rintro e w16 ⟨r, rfl, hr, hk16⟩
    have er := parts_in HP2.out hr
    subst er
    have HL16 := Lib.hid (HL15.out.go hk16)
    clear HC HL15 hk16 hr
    have HC := Lib.hid (union_at HL16.out 0 1 rfl rfl (by omega) (by omega))
    go_wp2_with fail
    refine HC.out.mono ?_
    rintro e w17 ⟨m17, A17, n17, c17, rfl, hn17, hs17, hk17, hp17, hb17⟩
    have b17 : n17 ≤ 400 := by have := hn17.out; omega
    have HL17 := Lib.hid (HL16.out.put hk17 hs17)
    have HP17 := Lib.hid hp17
    clear HC HL16 hs17 hk17 hp17
    have HC := Lib.hid (within_at HL17.out 0 9 rfl rfl (by omega) (by omega))
    go_wp2_with fail
    refine HC.out.mono ?_
    rintro e w18 ⟨r, rfl, hr, hk18⟩
    have er := parts_in2 HP17.out hr
    subst er
    have HL18 := Lib.hid (HL17.out.go hk18)
    clear HC HL17 hk18 hr
    have HC := Lib.hid (within_at HL18.out 0 1 rfl rfl (by omega) (by omega))
    go_wp2_with fail
    refine HC.out.mono ?_
    rintro e w19 ⟨r, rfl, hr, hk19⟩
    have er := parts_none HP3.out hr hn3.out
    have HL19 := Lib.hid (HL18.out.go hk19)
    have er2 : ((r == ((n3 : Int) == 0)) : Bool) = true := by rw [er]; exact beq_self_eq_true _
    clear HC HL18 hk19 hr er
    go_wp2_with fail
    go_ret
    exact ⟨rfl, HL19.out.1⟩

end Go.Proofs.Ytlcbehhlmobhmaa
