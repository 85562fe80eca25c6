/- Chapter 15: SpanPoints. -/
import Derived.Test.YtlcbehhlmobhmaaSpnO
namespace Go.Proofs.Ytlcbehhlmobhmaa
open Go.RowKit

theorem bff : (false == false) = true := rfl
theorem btf : (true == false) = false := rfl
theorem bft : (false == true) = false := rfl
theorem btt : (true == true) = true := rfl
theorem six (p1 p2 p3 p4 p5 p6 : Bool) : p1 = false ∨ (p1 = true ∧ p2 = false) ∨ (p1 = true ∧ p2 = true ∧ p3 = false) ∨ (p1 = true ∧ p2 = true ∧ p3 = true ∧ p4 = false) ∨ (p1 = true ∧ p2 = true ∧ p3 = true ∧ p4 = true ∧ p5 = false) ∨
    (p1 = true ∧ p2 = true ∧ p3 = true ∧ p4 = true ∧ p5 = true ∧ p6 = false) ∨ (p1 = true ∧ p2 = true ∧ p3 = true ∧ p4 = true ∧ p5 = true ∧ p6 = true) := by
  cases p1 <;> cases p2 <;> cases p3 <;> cases p4 <;> cases p5 <;> cases p6 <;> simp
theorem has_six (s : Sp) (e a : Int) : (someS s && hasS s e a) = ((s.1 == e) && decide (e ≥ 0) && decide (s.2.1 ≥ 0) && decide (s.2.2 ≤ 1000000) && decide (s.2.1 ≤ a) && decide (a < s.2.2)) := by
  apply bool_ext
  simp only [Bool.and_eq_true, someS_iff, hasS_iff, beq_iff_eq, decide_eq_true_eq]
  omega
theorem hasL_take {l : List Sp} {k : Nat} {s : Sp} (h : l[k]? = some s) (e a : Int) : hasL (l.take (k + 1)) e a = (hasL (l.take k) e a || (someS s && hasS s e a)) := by
  rw [List.take_add_one, h]
  simp [hasL]

set_option maxHeartbeats 8000000 in
set_option maxRecDepth 100000 in
theorem spanPoints_walk (W : World) (A0 : Option Addr) (n0 c0 : Nat) (l0 : List Sp) (s0 : repSp.Sl W W.heap.size A0 n0 c0 l0) (A1 : Option Addr) (n1 c1 : Nat) (l1 : List Sp) (s1 : repSp.Sl W W.heap.size A1 n1 c1 l1) (x2 : Int) (b2 : -9223372036854775808 ≤ x2) (c2 : x2 ≤ 9223372036854775807) (x3 : Int) (b3 : -9223372036854775808 ≤ x3) (c3 : x3 ≤ 9223372036854775807) :
    Calls Try.prog 4 #[.slice A0 n0 c0, .slice A1 n1 c1, .int .i64 x2, .int .i64 x3] W fun e W' => e = .returned (.bool true) ∧ Keep Never W W' := by
  have HL0 := Lib.hid (Live.two s0 s1)
  clear s0 s1
  have HA := Lib.hid (awake15_any W)
  go_enter Try.func4, Try.ntmps4
  go_wp2_with fail
  refine HA.out.mono ?_
  rintro e w1 ⟨rfl, hk1⟩
  have HL1 := Lib.hid (HL0.out.go hk1)
  clear hk1 HA HL0
  by_cases hs : n0 ≤ 200 ∧ n1 ≤ 200
  case neg =>
    by_cases h0 : n0 ≤ 200
    · have t0 : decide ((n0 : Int) > 200) = false := by simp; omega
      have t1 : decide ((n1 : Int) > 200) = true := by simp; omega
      clear hs h0
      go_wp2_with fail
      go_ret
      exact ⟨rfl, HL1.out.1⟩
    · have t0 : decide ((n0 : Int) > 200) = true := by simp; omega
      clear hs h0
      go_wp2_with fail
      go_ret
      exact ⟨rfl, HL1.out.1⟩
  case pos =>
    obtain ⟨h0, h1⟩ := hs
    have t0 : decide ((n0 : Int) > 200) = false := by simp; omega
    have t1 : decide ((n1 : Int) > 200) = false := by simp; omega
    go_wp2_with fail
    go_loopw [10, 11] (fun xv i wr => ∃ (k : Nat) (b : Bool), k ≤ n0 ∧ xv = .bool b ∧ i = .int .i64 k ∧ Hid (Live W wr [⟨A0, n0, c0, l0⟩, ⟨A1, n1, c1, l1⟩] ∧ hasL (l0.take k) x2 x3 = b)) (fun _ i _ => n0 - (intOf i).toNat)
    case atStart => exact ⟨0, false, by omega, rfl, rfl, Lib.hid ⟨HL1.out, rfl⟩⟩
    case round =>
      obtain ⟨k, b, hk, rfl, rfl, HH⟩ := hrel
      by_cases hkn : k < n0
      · obtain ⟨ad, s, hA, _, hs, c0, c1, c2⟩ := (HH.out.1.ix 0 rfl).rd.sp hkn
        subst hA
        obtain ⟨q1, q2, q3⟩ := s
        simp only at c0 c1 c2
        have hki : (k : Int) < (n0 : Int) := by omega
        have hk00 : (0 : Int) ≤ (k : Int) := by omega
        have HT := Lib.hid (hasL_take hs x2 x3)
        have H6 := Lib.hid (has_six (q1, q2, q3) x2 x3)
        clear hs
        cases b with
        | true =>
          go_wp2_with fail
          refine ⟨⟨k + 1, true, by omega, rfl, by go_num, Lib.hid ⟨HH.out.1.go (Keep.refl _ _), by rw [HT.out, HH.out.2]; rfl⟩⟩, ?_⟩
          simp [intOf]; try omega
        | false =>
          rcases six (q1 == x2) (decide (x2 ≥ 0)) (decide (q2 ≥ 0)) (decide (q3 ≤ 1000000)) (decide (q2 ≤ x3)) (decide (x3 < q3)) with g1 | ⟨g1, g2⟩ | ⟨g1, g2, g3⟩ | ⟨g1, g2, g3, g4⟩ | ⟨g1, g2, g3, g4, g5⟩ | ⟨g1, g2, g3, g4, g5, g6⟩ | ⟨g1, g2, g3, g4, g5, g6⟩
          · have HF : Hid (hasL (l0.take (k + 1)) x2 x3 = false) := Lib.hid (by rw [HT.out, HH.out.2, H6.out]; simp only [g1]; rfl)
            go_wp2_with fail
            refine ⟨⟨k + 1, false, by omega, rfl, by go_num, Lib.hid ⟨HH.out.1.go (Keep.refl _ _), HF.out⟩⟩, ?_⟩
            simp [intOf]; try omega
          · have HF : Hid (hasL (l0.take (k + 1)) x2 x3 = false) := Lib.hid (by rw [HT.out, HH.out.2, H6.out]; simp only [g1, g2]; rfl)
            go_wp2_with fail
            refine ⟨⟨k + 1, false, by omega, rfl, by go_num, Lib.hid ⟨HH.out.1.go (Keep.refl _ _), HF.out⟩⟩, ?_⟩
            simp [intOf]; try omega
          · have HF : Hid (hasL (l0.take (k + 1)) x2 x3 = false) := Lib.hid (by rw [HT.out, HH.out.2, H6.out]; simp only [g1, g2, g3]; rfl)
            go_wp2_with fail
            refine ⟨⟨k + 1, false, by omega, rfl, by go_num, Lib.hid ⟨HH.out.1.go (Keep.refl _ _), HF.out⟩⟩, ?_⟩
            simp [intOf]; try omega
          · have HF : Hid (hasL (l0.take (k + 1)) x2 x3 = false) := Lib.hid (by rw [HT.out, HH.out.2, H6.out]; simp only [g1, g2, g3, g4]; rfl)
            go_wp2_with fail
            refine ⟨⟨k + 1, false, by omega, rfl, by go_num, Lib.hid ⟨HH.out.1.go (Keep.refl _ _), HF.out⟩⟩, ?_⟩
            simp [intOf]; try omega
          · have HF : Hid (hasL (l0.take (k + 1)) x2 x3 = false) := Lib.hid (by rw [HT.out, HH.out.2, H6.out]; simp only [g1, g2, g3, g4, g5]; rfl)
            go_wp2_with fail
            refine ⟨⟨k + 1, false, by omega, rfl, by go_num, Lib.hid ⟨HH.out.1.go (Keep.refl _ _), HF.out⟩⟩, ?_⟩
            simp [intOf]; try omega
          · have HF : Hid (hasL (l0.take (k + 1)) x2 x3 = false) := Lib.hid (by rw [HT.out, HH.out.2, H6.out]; simp only [g1, g2, g3, g4, g5, g6]; rfl)
            go_wp2_with fail
            refine ⟨⟨k + 1, false, by omega, rfl, by go_num, Lib.hid ⟨HH.out.1.go (Keep.refl _ _), HF.out⟩⟩, ?_⟩
            simp [intOf]; try omega
          · have HF : Hid (hasL (l0.take (k + 1)) x2 x3 = true) := Lib.hid (by rw [HT.out, HH.out.2, H6.out]; simp only [g1, g2, g3, g4, g5, g6]; rfl)
            go_wp2_with fail
            refine ⟨⟨k + 1, true, by omega, rfl, by go_num, Lib.hid ⟨HH.out.1.go (Keep.refl _ _), HF.out⟩⟩, ?_⟩
            simp [intOf]; try omega
      · obtain rfl : k = n0 := by omega
        have hki : ¬ (k : Int) < (k : Int) := by omega
        have HX : Hid (hasL l0 x2 x3 = b) := Lib.hid (by
          have := HH.out.2
          rwa [List.take_of_length_le (by rw [(HH.out.1.ix 0 rfl).len]; exact Nat.le_refl _)] at this)
        obtain ⟨y, hy⟩ : ∃ y, hasL l1 x2 x3 = y := ⟨_, rfl⟩
        have HY := Lib.hid hy
        have HL2 := Lib.hid HH.out.1
        have HC0 := has_at HL2.out 1 rfl (by omega) x2 x3
        rw [HY.out] at HC0
        have HC := Lib.hid HC0
        clear HC0
        clear HH hy
        go_wp2_with fail
        refine HC.out.mono ?_
        rintro e w3 ⟨rfl, hk3⟩
        have HL3 := Lib.hid (HL2.out.go hk3)
        clear HC HL2 hk3
        have HC0 := has_at HL3.out 0 rfl (by omega) x2 x3
        rw [HX.out] at HC0
        have HC := Lib.hid HC0
        clear HC0
        cases b <;> cases y
        all_goals
          go_wp2_with fail
          refine HC.out.mono ?_
          rintro e w4 ⟨rfl, hk4⟩
          have HL4 := Lib.hid (HL3.out.go hk4)
          clear HC HL3 hk4
          have HC := Lib.hid (norm_at HL4.out 0 rfl (by omega))
          go_wp2_with fail
          refine HC.out.mono ?_
          rintro e w5 ⟨m5, A5, n5, c5, rfl, hn5, hs5, hk5, hp5, hb5⟩
          have b5 : n5 ≤ 200 := by have := hn5.out; omega
          have HL5 := Lib.hid (HL4.out.put hk5 hs5)
          clear HC HL4 hk5 hs5
          have HC0 := has_at HL5.out 2 rfl (by omega) x2 x3
          rw [hp5.2, HX.out] at HC0
          have HC := Lib.hid HC0
          clear HC0
          clear hp5
          go_wp2_with fail
          refine HC.out.mono ?_
          rintro e w6 ⟨rfl, hk6⟩
          have HL6 := Lib.hid (HL5.out.go hk6)
          clear HC HL5 hk6
          have HC := Lib.hid (union_at HL6.out 0 1 rfl rfl (by omega) (by omega))
          go_wp2_with fail
          refine HC.out.mono ?_
          rintro e w7 ⟨m7, A7, n7, c7, rfl, hn7, hs7, hk7, hp7, hb7⟩
          have b7 : n7 ≤ 400 := by have := hn7.out; omega
          have HL7 := Lib.hid (HL6.out.put hk7 hs7)
          clear HC HL6 hk7 hs7
          have HC0 := has_at HL7.out 3 rfl (by omega) x2 x3
          rw [hp7.2, hasL_app, HX.out, HY.out] at HC0
          simp only [Bool.or_true, Bool.or_false, Bool.true_or, Bool.false_or] at HC0
          have HC := Lib.hid HC0
          clear HC0
          clear hp7
          go_wp2_with fail
          refine HC.out.mono ?_
          rintro e w8 ⟨rfl, hk8⟩
          have HL8 := Lib.hid (HL7.out.go hk8)
          clear HC HL7 hk8
          have HC := Lib.hid (minus_at HL8.out 0 1 rfl rfl (by omega) (by omega))
          go_wp2_with fail
          refine HC.out.mono ?_
          rintro e w9 ⟨m9, A9, n9, c9, rfl, hn9, hs9, hk9, hp9, hb9⟩
          have b9' := Nat.mul_le_mul h0 (show 2 * n1 + 1 ≤ 401 by omega)
          have b9 : n9 ≤ 100000 := by have := hn9.out; omega
          have HL9 := Lib.hid (HL8.out.put hk9 hs9)
          clear HC HL8 hk9 hs9
          have HC0 := has_at HL9.out 4 rfl (by omega) x2 x3
          rw [hp9.2, HX.out, HY.out] at HC0
          simp only [bff, btf, bft, btt, Bool.and_true, Bool.and_false, Bool.true_and, Bool.false_and] at HC0
          have HC := Lib.hid HC0
          clear HC0
          clear hp9
          go_wp2_with fail
          refine HC.out.mono ?_
          rintro e w10 ⟨rfl, hk10⟩
          have HL10 := Lib.hid (HL9.out.go hk10)
          clear HC HL9 hk10
          have HC := Lib.hid (both_at HL10.out 0 1 rfl rfl (by omega) (by omega))
          go_wp2_with fail
          refine HC.out.mono ?_
          rintro e w11 ⟨m11, A11, n11, c11, rfl, hn11, hs11, hk11, hp11, hb11⟩
          have b11 : n11 ≤ 100000 := by have := hn11.out; omega
          have HL11 := Lib.hid (HL10.out.put hk11 hs11)
          clear HC HL10 hk11 hs11
          have HC0 := has_at HL11.out 5 rfl (by omega) x2 x3
          rw [hp11.2, HX.out, HY.out] at HC0
          simp only [bff, btf, bft, btt, Bool.and_true, Bool.and_false, Bool.true_and, Bool.false_and] at HC0
          have HC := Lib.hid HC0
          clear HC0
          clear hp11
          go_wp2_with fail
          refine HC.out.mono ?_
          rintro e w12 ⟨rfl, hk12⟩
          have HL12 := Lib.hid (HL11.out.go hk12)
          clear HC HL11 hk12
          have HC := Lib.hid (within_at HL12.out 0 1 rfl rfl (by omega) (by omega))
          go_wp2_with fail
          refine HC.out.mono ?_
          rintro e w13 ⟨r, rfl, hw, hk13⟩
          have HL13 := Lib.hid (HL12.out.go hk13)
          have hw2 : ∀ (h : r = true), hasL l0 x2 x3 = true → hasL l1 x2 x3 = true := fun h => hw.1 h x2 x3
          rw [HX.out, HY.out] at hw2
          clear HC HL12 hk13 hw
          have HC := Lib.hid (meets_at HL13.out 0 1 rfl rfl (by omega) (by omega))
          have hw3 := Lib.hid hw2
          clear hw2
          cases r
          all_goals try (exact absurd (hw3.out rfl rfl) Bool.false_ne_true)
          all_goals
            go_wp2_with fail
            refine HC.out.mono ?_
            rintro e w14 ⟨r2, rfl, hm, hk14⟩
            have HL14 := Lib.hid (HL13.out.go hk14)
            have hm2 : hasL l0 x2 x3 = true ∧ hasL l1 x2 x3 = true → r2 = true := fun h => hm.2 ⟨x2, x3, h⟩
            rw [HX.out, HY.out] at hm2
            have hm3 := Lib.hid hm2
            clear HC HL13 hk14 hm hm2
            cases r2
            all_goals try (exact absurd (hm3.out ⟨rfl, rfl⟩) Bool.false_ne_true)
            all_goals
              go_wp2_with fail
              go_ret
              exact ⟨rfl, HL14.out.1⟩

end Go.Proofs.Ytlcbehhlmobhmaa
