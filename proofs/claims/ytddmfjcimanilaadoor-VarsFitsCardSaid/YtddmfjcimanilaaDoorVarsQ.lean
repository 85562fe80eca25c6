/- VarsFits: the walk. -/
import Derived.Test.YtddmfjcimanilaaDoorVarsM
namespace Go.Proofs.YtddmfjcimanilaaDoor
open Go.RowKit

theorem shl_one {k : Nat} (hk : k ≤ 32) : wrap64 ((2 : Int) ^ k) = ((2 ^ k : Nat) : Int) := by
  have h1 := pow_pos' k
  have h2 := pow_le32 hk
  have e : (2 : Int) ^ k = ((2 ^ k : Nat) : Int) := (Int.natCast_pow 2 k).symm
  rw [e, IntWalk.wrap64_in _ ⟨by omega, by omega⟩]

set_option maxHeartbeats 2000000 in
theorem fits_walk (w : World) (hw : Widths w) (v n : Int) (hn : n ≤ 9223372036854775807) :
    Calls Tryd.prog 6 #[.int .i64 v, .int .i64 n] w fun e w' => e = .returned (.bool true) ∧ Keep Never w w' := by
  have HW := Lib.hid hw
  have HK := Lib.hid (Keep.refl Never w)
  clear hw
  by_cases h : 0 ≤ v ∧ v < 96
  · have hi : vIs v = true := vIs_iff.2 h
    have h1 : 1 ≤ (vrow v).width ∧ (vrow v).width ≤ 32 := by
      obtain ⟨i, rfl⟩ : ∃ i : Nat, v = i := ⟨v.toNat, by omega⟩
      have := vrows_range _ (List.mem_of_getElem? (vrow_at i (by omega)))
      omega
    obtain ⟨k, hk⟩ : ∃ k : Nat, (vrow v).width = k := ⟨(vrow v).width.toNat, by omega⟩
    obtain ⟨p, hp⟩ : ∃ p : Int, ((2 ^ k : Nat) : Int) = p := ⟨_, rfl⟩
    obtain ⟨m, hm⟩ : ∃ x, rMost v = x := ⟨_, rfl⟩
    obtain ⟨sp, hsp⟩ : ∃ x, rSpecial v = x := ⟨_, rfl⟩
    obtain ⟨b, hb⟩ : ∃ x, rMay v n = x := ⟨_, rfl⟩
    have hp1 := pow_pos' k
    have hp2 := pow_le32 (k := k) (by omega)
    have hsh : wrap64 ((2 : Int) ^ k) = p := by rw [shl_one (by omega), hp]
    have hfacts : 0 ≤ m ∧ m < p ∧ 0 ≤ sp ∧ sp < p ∧ (0 < sp → m < sp) ∧ b = decide (0 ≤ n ∧ n < p ∧ (n ≤ m ∨ (0 < sp ∧ sp ≤ n))) := by
      obtain ⟨i, rfl⟩ : ∃ i : Nat, v = i := ⟨v.toNat, by omega⟩
      have hmem := List.mem_of_getElem? (vrow_at i (by omega))
      have r1 := vrows_range (vrow i) hmem
      have r2 := vrows_special (vrow i) hmem
      have hb' : b = decide (vIs i = true ∧ 0 ≤ n ∧ n < p ∧ ((vrow i).most < 0 ∨ n ≤ (vrow i).most ∨ (0 ≤ (vrow i).special ∧ (vrow i).special ≤ n))) := by rw [← hb, rMay, hk, Int.toNat_natCast, hp]
      rw [hi] at hb'
      rw [hk, Int.toNat_natCast, hp] at r2
      unfold rMost at hm
      unfold rSpecial at hsp
      rw [hi, hk, Int.toNat_natCast, hp] at hm
      generalize (vrow i).most = m0 at *
      generalize (vrow i).special = s0 at *
      have hm' : m = if m0 < 0 then p - 1 else m0 := by
        rw [← hm]; by_cases h0 : m0 < 0
        · rw [if_pos ⟨rfl, h0⟩, if_pos h0]
        · rw [if_neg (by simpa using h0), if_neg h0]
      have hs' : sp = if s0 < 0 then 0 else s0 := hsp.symm
      clear hm hsp
      rw [hp] at hp1
      refine ⟨?_, ?_, ?_, ?_, ?_, ?_⟩
      · split at hm' <;> omega
      · split at hm' <;> omega
      · split at hs' <;> omega
      · split at hs' <;> omega
      · split at hs' <;> split at hm' <;> omega
      · rw [hb', Bool.eq_iff_iff, decide_eq_true_iff, decide_eq_true_iff]
        simp only [true_and]
        split at hs' <;> split at hm' <;> omega
    obtain ⟨f1, f2, f3, f4, f5, f6⟩ := hfacts
    obtain ⟨h2, h3⟩ := h
    rw [hk] at h1
    obtain ⟨k1, k2⟩ := h1
    have H1 := Lib.hid hk
    have H2 := Lib.hid hm
    have H3 := Lib.hid hsp
    have H4 := Lib.hid hb
    have H5 : Hid (0 < sp → m < sp) := f5
    have H6 : Hid (b = decide (0 ≤ n ∧ n < p ∧ (n ≤ m ∨ (0 < sp ∧ sp ≤ n)))) := f6
    rw [hp] at hp1 hp2
    clear hk hm hsp hb hp f5 f6 hi
    go_enter Tryd.func6, Tryd.ntmps6
    go_wp2_with (first
      | (go_at_call 8; refine (awake2_at HW HK).mono ?_; rintro e w' ⟨rfl, hk2⟩; replace HK := Hid_step HK hk2; clear hk2)
      | (go_at_call 9; refine (width_at H1.out HW HK).mono ?_; rintro e w' ⟨rfl, rfl⟩)
      | (go_at_call 11; refine (most_at H2.out HW HK).mono ?_; rintro e w' ⟨rfl, rfl⟩)
      | (go_at_call 13; refine (special_at H3.out).mono ?_; rintro e w' ⟨rfl, rfl⟩)
      | (go_at_call 17; refine (may_at hn H4.out HW HK).mono ?_; rintro e w' ⟨rfl, rfl⟩))
    all_goals (have g5 := H5.out; have g6 := H6.out; clear H1 H2 H3 H4 H5 H6 hsh HW)
    all_goals (cases b <;> first | (exfalso; contradiction) | skip)
    all_goals first
      | (exfalso; simp only [*, Bool.true_eq, Bool.false_eq, decide_eq_true_eq, decide_eq_false_iff_not] at *; omega)
      | (go_ret; exact ⟨rfl, HK.out⟩)
      | (go_ret; refine ⟨ret_bool ?_, HK.out⟩; have g7 := of_decide_eq_false g6.symm; simp; omega)
      | (go_ret; refine ⟨ret_bool ?_, HK.out⟩; (try simp only [Bool.true_and, beq_iff_eq]); rw [Bool.eq_iff_iff]; simp only [Bool.or_eq_true, Bool.and_eq_true, decide_eq_true_eq, g6]; omega)
  · have hz : (vrow v).width = 0 := by rw [vrow, if_neg h]
    have hb : rMay v n = false := by
      have : vIs v = false := by simpa [vIs] using h
      rw [rMay, this]; simp
    have H1 := Lib.hid hz
    have H4 := Lib.hid hb
    clear hz hb
    have h : v < 0 ∨ 96 ≤ v := by omega
    rcases h with h | h
    all_goals
      go_enter Tryd.func6, Tryd.ntmps6
      go_wp2_with (first
        | (go_at_call 8; refine (awake2_at HW HK).mono ?_; rintro e w' ⟨rfl, hk2⟩; replace HK := Hid_step HK hk2; clear hk2)
        | (go_at_call 9; refine (width_at H1.out HW HK).mono ?_; rintro e w' ⟨rfl, rfl⟩)
        | (go_at_call 17; refine (may_at hn H4.out HW HK).mono ?_; rintro e w' ⟨rfl, rfl⟩))
      all_goals go_ret
      all_goals exact ⟨rfl, HK.out⟩
end Go.Proofs.YtddmfjcimanilaaDoor
