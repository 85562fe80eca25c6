/- Chapter 15: the document's answers; SpanForms. -/
import Derived.Test.YtlcbehhlmobhmaaSpnS
namespace Go.Proofs.Ytlcbehhlmobhmaa
open Go.RowKit

theorem nilAt (w : World) : SpAt w w.heap.size none 0 0 [] := ⟨Rd.nil _ _ _ _, fun _ => rfl, Nat.le_refl _⟩
theorem form_norm (a : List Sp) : NormOf a (FormM a [] (true, false, false)) := ⟨(FormM_ok a [] _).1, fun e x => by rw [(FormM_ok a [] _).2.1, hasL_nil]; cases hasL a e x <;> rfl⟩
theorem form_union (a b : List Sp) : NormOf (a ++ b) (FormM a b (true, true, true)) := ⟨(FormM_ok a b _).1, fun e x => by rw [(FormM_ok a b _).2.1, hasL_app]; cases hasL a e x <;> cases hasL b e x <;> rfl⟩
theorem form_minus (a b : List Sp) : KeptIs a b false (FormM a b (true, false, false)) := ⟨(FormM_ok a b _).1, fun e x => by rw [(FormM_ok a b _).2.1]; cases hasL a e x <;> cases hasL b e x <;> rfl⟩
theorem form_both (a b : List Sp) : KeptIs a b true (FormM a b (false, false, true)) := ⟨(FormM_ok a b _).1, fun e x => by rw [(FormM_ok a b _).2.1]; cases hasL a e x <;> cases hasL b e x <;> rfl⟩

set_option maxHeartbeats 1000000 in
set_option maxRecDepth 100000 in
theorem rnorm_any (B A1 n1 c1) (a : List Sp) (w : World) (h1 : SpAt w B A1 n1 c1 a) (hn1 : n1 ≤ 1000) (hB : B ≤ w.heap.size) :
    Calls Try.prog 12 #[.slice A1 n1 c1] w (SpAns w fun m => NormOf a m ∧ m.length ≤ 4000000) := by
  have HLn : Hid ((FormM a [] (true, false, false)).length ≤ 4000000) := Lib.hid (by
    have h2 := (FormM_ok a [] (true, false, false)).2.2
    have h3 := h1.len
    simp only [List.length_nil, Nat.add_zero] at h2
    have h4 : a.length * (2 * a.length) ≤ 1000 * 2000 := Nat.mul_le_mul (by omega) (by omega)
    omega)
  have HK := Lib.hid (form_any A1 n1 c1 none 0 0 _ a [] (true, false, false) w (h1.more hB) (nilAt w) hn1 (by omega) (Nat.le_refl _))
  clear h1 hn1 hB
  go_enter Try.func12, Try.ntmps12
  go_wp2_with fail
  refine HK.out.mono ?_
  rintro e w' ⟨m, A, n, c, rfl, hn, hs, hk, rfl⟩
  have H := Lib.hid (And.intro hs hk)
  clear hs hk HK
  go_wp2_with fail
  go_ret
  exact ⟨_, A, n, c, rfl, hn, H.out.1, H.out.2, form_norm a, HLn.out⟩
set_option maxHeartbeats 1000000 in
set_option maxRecDepth 100000 in
theorem runion_any (B A1 n1 c1 A2 n2 c2) (a b : List Sp) (w : World) (h1 : SpAt w B A1 n1 c1 a) (h2 : SpAt w B A2 n2 c2 b) (hn1 : n1 ≤ 1000) (hn2 : n2 ≤ 1000) (hB : B ≤ w.heap.size) :
    Calls Try.prog 14 #[.slice A1 n1 c1, .slice A2 n2 c2] w (SpAns w fun m => NormOf (a ++ b) m) := by
  have HK := Lib.hid (form_any A1 n1 c1 A2 n2 c2 B a b (true, true, true) w h1 h2 hn1 hn2 hB)
  clear h1 h2 hn1 hn2 hB
  go_enter Try.func14, Try.ntmps14
  go_wp2_with fail
  refine HK.out.mono ?_
  rintro e w' ⟨m, A, n, c, rfl, hn, hs, hk, rfl⟩
  have H := Lib.hid (And.intro hs hk)
  clear hs hk HK
  go_wp2_with fail
  go_ret
  exact ⟨_, A, n, c, rfl, hn, H.out.1, H.out.2, form_union a b⟩
set_option maxHeartbeats 1000000 in
set_option maxRecDepth 100000 in
theorem rminus_any (B A1 n1 c1 A2 n2 c2) (a b : List Sp) (w : World) (h1 : SpAt w B A1 n1 c1 a) (h2 : SpAt w B A2 n2 c2 b) (hn1 : n1 ≤ 1000) (hn2 : n2 ≤ 1000) (hB : B ≤ w.heap.size) :
    Calls Try.prog 16 #[.slice A1 n1 c1, .slice A2 n2 c2] w (SpAns w fun m => KeptIs a b false m) := by
  have HK := Lib.hid (form_any A1 n1 c1 A2 n2 c2 B a b (true, false, false) w h1 h2 hn1 hn2 hB)
  clear h1 h2 hn1 hn2 hB
  go_enter Try.func16, Try.ntmps16
  go_wp2_with fail
  refine HK.out.mono ?_
  rintro e w' ⟨m, A, n, c, rfl, hn, hs, hk, rfl⟩
  have H := Lib.hid (And.intro hs hk)
  clear hs hk HK
  go_wp2_with fail
  go_ret
  exact ⟨_, A, n, c, rfl, hn, H.out.1, H.out.2, form_minus a b⟩
set_option maxHeartbeats 1000000 in
set_option maxRecDepth 100000 in
theorem rboth_any (B A1 n1 c1 A2 n2 c2) (a b : List Sp) (w : World) (h1 : SpAt w B A1 n1 c1 a) (h2 : SpAt w B A2 n2 c2 b) (hn1 : n1 ≤ 1000) (hn2 : n2 ≤ 1000) (hB : B ≤ w.heap.size) :
    Calls Try.prog 18 #[.slice A1 n1 c1, .slice A2 n2 c2] w (SpAns w fun m => KeptIs a b true m) := by
  have HK := Lib.hid (form_any A1 n1 c1 A2 n2 c2 B a b (false, false, true) w h1 h2 hn1 hn2 hB)
  clear h1 h2 hn1 hn2 hB
  go_enter Try.func18, Try.ntmps18
  go_wp2_with fail
  refine HK.out.mono ?_
  rintro e w' ⟨m, A, n, c, rfl, hn, hs, hk, rfl⟩
  have H := Lib.hid (And.intro hs hk)
  clear hs hk HK
  go_wp2_with fail
  go_ret
  exact ⟨_, A, n, c, rfl, hn, H.out.1, H.out.2, form_both a b⟩
set_option maxHeartbeats 1000000 in
set_option maxRecDepth 100000 in
theorem rwithin_any (B A1 n1 c1 A2 n2 c2) (a b : List Sp) (w : World) (h1 : SpAt w B A1 n1 c1 a) (h2 : SpAt w B A2 n2 c2 b) (hn1 : n1 ≤ 1000) (hn2 : n2 ≤ 1000) (hB : B ≤ w.heap.size) :
    Calls Try.prog 20 #[.slice A1 n1 c1, .slice A2 n2 c2] w fun e w' => ∃ r, e = .returned (.bool r) ∧ withinB a b r ∧ Keep Never w w' := by
  have HK := Lib.hid (rminus_any B A1 n1 c1 A2 n2 c2 a b w h1 h2 hn1 hn2 hB)
  clear h1 h2 hn1 hn2 hB
  go_enter Try.func20, Try.ntmps20
  go_wp2_with fail
  refine HK.out.mono ?_
  rintro e w' ⟨m, A, n, c, rfl, hn, ho, hk, hp⟩
  have hm : withinB a b (decide (n = 0)) := by
    unfold withinB
    rw [decide_eq_true_eq, hn.out, List.length_eq_zero_iff, kept_nil hp]
    constructor
    · intro h e x hx
      have := h e x
      cases hb : hasL b e x
      · exact absurd ⟨hx, hb⟩ this
      · rfl
    · rintro h e x ⟨h1, h2⟩
      rw [h e x h1] at h2; cases h2
  have HM := Lib.hid hm
  have Hk := Lib.hid hk
  clear ho hk hp HK hm
  by_cases h0 : n = 0
  · have t0 : ((n : Int) == 0) = true := by simp [h0]
    have HM2 : Hid (withinB a b true) := by have := HM.out; rwa [decide_eq_true h0] at this
    clear h0 HM
    go_wp2_with fail
    go_ret
    exact ⟨true, rfl, HM2.out, Hk.out⟩
  · have t0 : ((n : Int) == 0) = false := by simp; omega
    have HM2 : Hid (withinB a b false) := by have := HM.out; rwa [decide_eq_false h0] at this
    clear h0 HM
    go_wp2_with fail
    go_ret
    exact ⟨false, rfl, HM2.out, Hk.out⟩
set_option maxHeartbeats 1000000 in
set_option maxRecDepth 100000 in
theorem rmeets_any (B A1 n1 c1 A2 n2 c2) (a b : List Sp) (w : World) (h1 : SpAt w B A1 n1 c1 a) (h2 : SpAt w B A2 n2 c2 b) (hn1 : n1 ≤ 1000) (hn2 : n2 ≤ 1000) (hB : B ≤ w.heap.size) :
    Calls Try.prog 22 #[.slice A1 n1 c1, .slice A2 n2 c2] w fun e w' => ∃ r, e = .returned (.bool r) ∧ meetsB a b r ∧ Keep Never w w' := by
  have HK := Lib.hid (rboth_any B A1 n1 c1 A2 n2 c2 a b w h1 h2 hn1 hn2 hB)
  clear h1 h2 hn1 hn2 hB
  go_enter Try.func22, Try.ntmps22
  go_wp2_with fail
  refine HK.out.mono ?_
  rintro e w' ⟨m, A, n, c, rfl, hn, ho, hk, hp⟩
  have hm : meetsB a b (decide (0 < n)) := by
    unfold meetsB
    rw [decide_eq_true_eq, hn.out, List.length_pos_iff, Ne, kept_nil hp]
    constructor
    · intro h
      exact Classical.byContradiction fun h2 => h (fun e x hx => h2 ⟨e, x, hx⟩)
    · rintro ⟨e, x, hx⟩ h
      exact h e x hx
  have HM := Lib.hid hm
  have Hk := Lib.hid hk
  clear ho hk hp HK hm
  go_wp2_with fail
  go_ret
  exact ⟨decide (0 < n), by simp, HM.out, Hk.out⟩
set_option maxHeartbeats 1000000 in
set_option maxRecDepth 100000 in
theorem rtotal_any (B A1 n1 c1) (a : List Sp) (w : World) (h1 : SpAt w B A1 n1 c1 a) (hn1 : n1 ≤ 1000) (hB : B ≤ w.heap.size) :
    Calls Try.prog 24 #[.slice A1 n1 c1] w fun e w' => ∃ m, e = .returned (.int .i64 (cntL m)) ∧ NormOf a m ∧ Keep Never w w' := by
  have HN := Lib.hid (rnorm_any B A1 n1 c1 a w h1 hn1 hB)
  clear h1 hB
  go_enter Try.func24, Try.ntmps24
  go_wp2_with fail
  refine HN.out.mono ?_
  rintro e w1 ⟨m, A, n, c, rfl, hn, hs, hk, hp, hb⟩
  have HO := Lib.hid hs
  have HK := Lib.hid hk
  have HP := Lib.hid hp
  have hnn : n ≤ 4000000 := by have := hn.out; omega
  clear hs hk hp HN hb
  go_wp2_with fail
  go_loopw [4, 5] (fun s i wr => ∃ k : Nat, k ≤ n ∧ i = .int .i64 k ∧ s = .int .i64 (cntL (m.take k)) ∧ Hid (Keep Never w1 wr)) (fun _ i _ => n - (intOf i).toNat)
  case atStart => exact ⟨0, by omega, rfl, rfl, Lib.hid (Keep.refl _ _)⟩
  case round =>
    obtain ⟨k, hk, rfl, rfl, HH⟩ := hrel
    have hr := cntL_range (HP.out.1.take k)
    have hlt : (m.take k).length ≤ n := by rw [List.length_take]; have := hn.out; omega
    by_cases h0 : k < n
    · have hkz : (k : Int) < (n : Int) := by omega
      obtain ⟨ad, s, hA, _, hs, q0, q1, q2⟩ := (HO.out.rd.keep HH.out (fun _ h => h.elim)).sp h0
      subst hA
      have HS : Hid (cntL (m.take (k + 1)) = cntL (m.take k) + (s.2.2 - s.2.1)) := cntL_take hs
      have hsm := someS_iff.1 (HP.out.1.1 s (List.mem_of_getElem? hs))
      obtain ⟨s1, s2, s3⟩ := s
      simp only at q0 q1 q2 HS hsm
      obtain ⟨S, hS⟩ : ∃ S, cntL (m.take k) = S := ⟨_, rfl⟩
      rw [hS] at HS hr ⊢
      have hr1 := hr.1
      have hr2 : S ≤ 1000000 * 4000000 := by have := hr.2; omega
      obtain ⟨p1, p2, p3, p4⟩ := hsm
      have HE : Hid (S + s3 - s2 = S + (s3 - s2)) := Lib.hid (by omega)
      have x1 : IntKind.i64.wrap (S + s3) = S + s3 := IntWalk.i64_in _ (by omega)
      have x2 : IntKind.i64.wrap (S + s3 - s2) = S + s3 - s2 := IntWalk.i64_in _ (by omega)
      clear hs hS hr hlt
      go_wp2_with fail
      go_quiet (fail)
      clear x1 x2
      go_wp2_with fail
      refine ⟨⟨k + 1, by omega, by go_num, by rw [HS.out, HE.out], HH.out.drewN _⟩, ?_⟩
      simp [intOf]; try omega
    · obtain rfl : k = n := by omega
      have hkz : ¬ (k : Int) < (k : Int) := by omega
      have HT : Hid (m.take k = m) := Lib.hid (List.take_of_length_le (by have := hn.out; omega))
      rw [HT.out]
      clear hr hlt
      go_wp2_with fail
      go_ret
      exact ⟨m, rfl, HP.out, HK.out.trans HH.out⟩
theorem within_one {a b : List Sp} {r s : Bool} (h : withinB a b r) (h' : withinB a b s) : r = s := bool_ext (h.trans h'.symm)
theorem meets_one {a b : List Sp} {r s : Bool} (h : meetsB a b r) (h' : meetsB a b s) : r = s := bool_ext (h.trans h'.symm)
theorem KeptIs.one' {a b m n : List Sp} {which : Bool} (h : KeptIs a b which m) (h' : KeptIs a b which n) : m = n := h.one h'

set_option maxHeartbeats 8000000 in
set_option maxRecDepth 100000 in
theorem spanForms_walk (W : World) (A0 : Option Addr) (n0 c0 : Nat) (l0 : List Sp) (s0 : repSp.Sl W W.heap.size A0 n0 c0 l0) (A1 : Option Addr) (n1 c1 : Nat) (l1 : List Sp) (s1 : repSp.Sl W W.heap.size A1 n1 c1 l1) :
    Calls Try.prog 3 #[.slice A0 n0 c0, .slice A1 n1 c1] W fun e W' => e = .returned (.bool true) ∧ Keep Never W W' := by
  have HL0 := Lib.hid (Live.two s0 s1)
  clear s0 s1
  have HA := Lib.hid (awake15_any W)
  go_enter Try.func3, Try.ntmps3
  go_wp2_with fail
  refine HA.out.mono ?_
  rintro e w1 ⟨rfl, hk1⟩
  have HL1 := Lib.hid (HL0.out.go hk1)
  clear hk1 HA HL0
  by_cases hs : n0 ≤ 60 ∧ n1 ≤ 60
  case neg =>
    by_cases h0 : n0 ≤ 60
    · have t0 : decide ((n0 : Int) > 60) = false := by simp; omega
      have t1 : decide ((n1 : Int) > 60) = true := by simp; omega
      clear hs h0
      go_wp2_with fail
      go_ret
      exact ⟨rfl, HL1.out.1⟩
    · have t0 : decide ((n0 : Int) > 60) = true := by simp; omega
      clear hs h0
      go_wp2_with fail
      go_ret
      exact ⟨rfl, HL1.out.1⟩
  case pos =>
    obtain ⟨h0, h1⟩ := hs
    have t0 : decide ((n0 : Int) > 60) = false := by simp; omega
    have t1 : decide ((n1 : Int) > 60) = false := by simp; omega
    have bb : n0 * (2 * n1 + 1) ≤ 60 * 121 := Nat.mul_le_mul h0 (by omega)
    have HC := Lib.hid (norm_at HL1.out 0 rfl (by omega))
    go_wp2_with fail
    refine HC.out.mono ?_
    rintro e w2 ⟨m2, A2, n2, c2, rfl, hn2, hs2, hk2, hp2, hb⟩
    have HL2 := Lib.hid (HL1.out.put hk2 hs2)
    have b2 : n2 ≤ 100000 := by have := hn2.out; omega
    have HP2 := Lib.hid hp2
    clear HC HL1 hs2 hk2 hp2
    have HC := Lib.hid (rnorm_any _ A0 n0 c0 l0 w2 (HL2.out.ix 0 rfl) (by omega) (Nat.le_refl _))
    go_wp2_with fail
    refine HC.out.mono ?_
    rintro e w3 ⟨m3, A3, n3, c3, rfl, hn3, hs3, hk3, hp3, hb⟩
    have HL3 := Lib.hid (HL2.out.put hk3 hs3)
    have HP3 := Lib.hid hp3
    clear HC HL2 hs3 hk3 hp3
    have e3 := HP3.out.one HP2.out
    subst e3
    have b3 : n3 ≤ 100000 := by have := hn2.out; have := hn3.out; omega
    have HC := Lib.hid (same_at HL3.out 2 3 rfl rfl (by omega) (by omega))
    go_wp2_with fail
    refine HC.out.mono ?_
    rintro e w4 ⟨rfl, hk4⟩
    have HL4 := Lib.hid (HL3.out.go hk4)
    clear HC HL3 hk4
    have HC := Lib.hid (union_at HL4.out 0 1 rfl rfl (by omega) (by omega))
    go_wp2_with fail
    refine HC.out.mono ?_
    rintro e w5 ⟨m5, A5, n5, c5, rfl, hn5, hs5, hk5, hp5, hb⟩
    have HL5 := Lib.hid (HL4.out.put hk5 hs5)
    have b5 : n5 ≤ 100000 := by have := hn5.out; omega
    have HP5 := Lib.hid hp5
    clear HC HL4 hs5 hk5 hp5
    have HC := Lib.hid (runion_any _ A0 n0 c0 A1 n1 c1 l0 l1 w5 (HL5.out.ix 0 rfl) (HL5.out.ix 1 rfl) (by omega) (by omega) (Nat.le_refl _))
    go_wp2_with fail
    refine HC.out.mono ?_
    rintro e w6 ⟨m6, A6, n6, c6, rfl, hn6, hs6, hk6, hp6⟩
    have HL6 := Lib.hid (HL5.out.put hk6 hs6)
    have HP6 := Lib.hid hp6
    clear HC HL5 hs6 hk6 hp6
    have e6 := HP6.out.one HP5.out
    subst e6
    have b6 : n6 ≤ 100000 := by have := hn5.out; have := hn6.out; omega
    have HC := Lib.hid (same_at HL6.out 4 5 rfl rfl (by omega) (by omega))
    go_wp2_with fail
    refine HC.out.mono ?_
    rintro e w7 ⟨rfl, hk7⟩
    have HL7 := Lib.hid (HL6.out.go hk7)
    clear HC HL6 hk7
    have HC := Lib.hid (minus_at HL7.out 0 1 rfl rfl (by omega) (by omega))
    go_wp2_with fail
    refine HC.out.mono ?_
    rintro e w8 ⟨m8, A8, n8, c8, rfl, hn8, hs8, hk8, hp8, hb⟩
    have HL8 := Lib.hid (HL7.out.put hk8 hs8)
    have b8 : n8 ≤ 100000 := by have := hn8.out; omega
    have HP8 := Lib.hid hp8
    clear HC HL7 hs8 hk8 hp8
    have HC := Lib.hid (rminus_any _ A0 n0 c0 A1 n1 c1 l0 l1 w8 (HL8.out.ix 0 rfl) (HL8.out.ix 1 rfl) (by omega) (by omega) (Nat.le_refl _))
    go_wp2_with fail
    refine HC.out.mono ?_
    rintro e w9 ⟨m9, A9, n9, c9, rfl, hn9, hs9, hk9, hp9⟩
    have HL9 := Lib.hid (HL8.out.put hk9 hs9)
    have HP9 := Lib.hid hp9
    clear HC HL8 hs9 hk9 hp9
    have e9 := HP9.out.one HP8.out
    subst e9
    have b9 : n9 ≤ 100000 := by have := hn8.out; have := hn9.out; omega
    have HC := Lib.hid (same_at HL9.out 6 7 rfl rfl (by omega) (by omega))
    go_wp2_with fail
    refine HC.out.mono ?_
    rintro e w10 ⟨rfl, hk10⟩
    have HL10 := Lib.hid (HL9.out.go hk10)
    clear HC HL9 hk10
    have HC := Lib.hid (both_at HL10.out 0 1 rfl rfl (by omega) (by omega))
    go_wp2_with fail
    refine HC.out.mono ?_
    rintro e w11 ⟨m11, A11, n11, c11, rfl, hn11, hs11, hk11, hp11, hb⟩
    have HL11 := Lib.hid (HL10.out.put hk11 hs11)
    have b11 : n11 ≤ 100000 := by have := hn11.out; omega
    have HP11 := Lib.hid hp11
    clear HC HL10 hs11 hk11 hp11
    have HC := Lib.hid (rboth_any _ A0 n0 c0 A1 n1 c1 l0 l1 w11 (HL11.out.ix 0 rfl) (HL11.out.ix 1 rfl) (by omega) (by omega) (Nat.le_refl _))
    go_wp2_with fail
    refine HC.out.mono ?_
    rintro e w12 ⟨m12, A12, n12, c12, rfl, hn12, hs12, hk12, hp12⟩
    have HL12 := Lib.hid (HL11.out.put hk12 hs12)
    have HP12 := Lib.hid hp12
    clear HC HL11 hs12 hk12 hp12
    have e12 := HP12.out.one HP11.out
    subst e12
    have b12 : n12 ≤ 100000 := by have := hn11.out; have := hn12.out; omega
    have HC := Lib.hid (same_at HL12.out 8 9 rfl rfl (by omega) (by omega))
    go_wp2_with fail
    refine HC.out.mono ?_
    rintro e w13 ⟨rfl, hk13⟩
    have HL13 := Lib.hid (HL12.out.go hk13)
    clear HC HL12 hk13
    have HC := Lib.hid (within_at HL13.out 0 1 rfl rfl (by omega) (by omega))
    go_wp2_with fail
    refine HC.out.mono ?_
    rintro e w14 ⟨r14, rfl, hr14, hk14⟩
    have HL14 := Lib.hid (HL13.out.go hk14)
    have HR14 := Lib.hid hr14
    clear HC HL13 hk14 hr14
    have HC := Lib.hid (rwithin_any _ A0 n0 c0 A1 n1 c1 l0 l1 w14 (HL14.out.ix 0 rfl) (HL14.out.ix 1 rfl) (by omega) (by omega) (Nat.le_refl _))
    go_wp2_with fail
    refine HC.out.mono ?_
    rintro e w15 ⟨r15, rfl, hr15, hk15⟩
    have HL15 := Lib.hid (HL14.out.go hk15)
    have e15 := within_one hr15 HR14.out
    subst e15
    clear HC HL14 hk15 hr15 HR14
    have q15 : (r15 == r15) = true := beq_self_eq_true _
    have HC := Lib.hid (meets_at HL15.out 0 1 rfl rfl (by omega) (by omega))
    go_wp2_with fail
    refine HC.out.mono ?_
    rintro e w16 ⟨r16, rfl, hr16, hk16⟩
    have HL16 := Lib.hid (HL15.out.go hk16)
    have HR16 := Lib.hid hr16
    clear HC HL15 hk16 hr16
    have HC := Lib.hid (rmeets_any _ A0 n0 c0 A1 n1 c1 l0 l1 w16 (HL16.out.ix 0 rfl) (HL16.out.ix 1 rfl) (by omega) (by omega) (Nat.le_refl _))
    go_wp2_with fail
    refine HC.out.mono ?_
    rintro e w17 ⟨r17, rfl, hr17, hk17⟩
    have HL17 := Lib.hid (HL16.out.go hk17)
    have e17 := meets_one hr17 HR16.out
    subst e17
    clear HC HL16 hk17 hr17 HR16
    have q17 : (r17 == r17) = true := beq_self_eq_true _
    have HC := Lib.hid (total_at HL17.out 0 rfl (by omega))
    go_wp2_with fail
    refine HC.out.mono ?_
    rintro e w18 ⟨m18, rfl, hr18, hk18⟩
    have HL18 := Lib.hid (HL17.out.go hk18)
    have HR18 := Lib.hid hr18
    clear HC HL17 hk18 hr18
    have HC := Lib.hid (rtotal_any _ A0 n0 c0 l0 w18 (HL18.out.ix 0 rfl) (by omega) (Nat.le_refl _))
    go_wp2_with fail
    refine HC.out.mono ?_
    rintro e w19 ⟨m19, rfl, hr19, hk19⟩
    have HL19 := Lib.hid (HL18.out.go hk19)
    have e19 := hr19.one HR18.out
    subst e19
    clear HC HL18 hk19 hr19 HR18
    have q19 : (cntL m19 == cntL m19) = true := beq_self_eq_true _
    go_wp2_with fail
    go_ret
    exact ⟨rfl, HL19.out.1⟩

end Go.Proofs.Ytlcbehhlmobhmaa
