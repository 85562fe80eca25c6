/- VarsFits, VarsNames: walks. -/
import Derived.Test.YtddmfjcimanilaaDoorVarsM
namespace Go.Proofs.YtddmfjcimanilaaDoor
open Go.RowKit

set_option maxHeartbeats 1000000 in
theorem names_walk (w : World) (hw : Widths w) (a b : Int) :
    Calls Tryd.prog 7 #[.int .i64 a, .int .i64 b] w fun e w' => e = .returned (.bool true) ∧ Keep Never w w' := by
  have HW := Lib.hid hw
  have HK := Lib.hid (Keep.refl Never w)
  clear hw
  by_cases h : (0 ≤ a ∧ a < 96) ∧ (0 ≤ b ∧ b < 96)
  · obtain ⟨⟨a1, a2⟩, ⟨b1, b2⟩⟩ := h
    obtain ⟨i, rfl⟩ : ∃ i : Nat, a = i := ⟨a.toNat, by omega⟩
    obtain ⟨j, rfl⟩ : ∃ j : Nat, b = j := ⟨b.toNat, by omega⟩
    obtain ⟨s, hs⟩ : ∃ s, vName i = s := ⟨_, rfl⟩
    obtain ⟨t, ht⟩ : ∃ t, vName j = t := ⟨_, rfl⟩
    have hN : Hid (∀ (x : Int) (u : ByteArray), ((x = i ∧ u = s) ∨ (x = j ∧ u = t)) → ∀ w : World, Calls Tryd.prog 15 #[.int .i64 x] w fun e w' => e = .returned (.string u) ∧ Keep Never w w') := by
      rintro x u (⟨rfl, rfl⟩ | ⟨rfl, rfl⟩) w
      · exact name_at hs
      · exact name_at ht
    have hf := find_name (a := i) (by omega)
    rw [hs] at hf
    have HF := Lib.hid hf
    have hne : (s.toList == (⟨#[]⟩ : ByteArray).toList) = false := by
      rw [bytes_beq, ← hs]; simpa using vName_ne (a := i) (by omega)
    have hne2 : Hid (¬ s.toList = []) := by
      intro h
      have : (s.toList == (⟨#[]⟩ : ByteArray).toList) = true := by rw [h, Lib.toList_data]; rfl
      rw [hne] at this; cases this
    have heq : (s.toList == t.toList) = ((i : Int) == (j : Int)) := by
      rw [bytes_beq, Bool.eq_iff_iff, decide_eq_true_iff, beq_iff_eq, ← hs, ← ht]
      constructor
      · intro h; have := vName_inj (by omega) (by omega) h; omega
      · intro h; have : i = j := by omega
        rw [this]
    clear hf hs ht
    go_enter Tryd.func7, Tryd.ntmps7
    go_wp2_with (first
      | (go_at_call 8; refine (awake2_at HW HK).mono ?_; rintro e w' ⟨rfl, hk2⟩; replace HK := Hid_step HK hk2; clear hk2)
      | (go_at_call 15; refine (hN.out _ _ (by first | exact .inl ⟨rfl, rfl⟩ | exact .inr ⟨rfl, rfl⟩) _).mono ?_; rintro e w' ⟨rfl, hk2⟩; replace HK := Hid_step HK hk2; clear hk2)
      | (go_at_call 19; refine (vfind_any _ _).mono ?_; rintro e w' ⟨y, rfl, hy, hk2⟩; obtain rfl := hy.one HF.out; replace HK := Hid_step HK hk2; clear hk2 hy))
    go_ret
    exact ⟨by first | rfl | (refine ret_bool ?_; simp; exact hne2.out), HK.out⟩
  · obtain ⟨s, hs⟩ : ∃ s : ByteArray, ⟨(vrow a).name.toArray⟩ = s := ⟨_, rfl⟩
    have HS := Lib.hid hs
    have hz : ¬ (0 ≤ a ∧ a < 96) → s = ⟨#[]⟩ := by intro h; rw [← hs, vrow, if_neg h]
    clear hs
    by_cases ha : 0 ≤ a ∧ a < 96
    · obtain ⟨a1, a2⟩ := ha
      clear hz
      have hb : b < 0 ∨ 96 ≤ b := by omega
      clear h
      rcases hb with hb | hb
      all_goals
        go_enter Tryd.func7, Tryd.ntmps7
        go_wp2_with (first
          | (go_at_call 8; refine (awake2_at HW HK).mono ?_; rintro e w' ⟨rfl, hk2⟩; replace HK := Hid_step HK hk2; clear hk2))
        go_ret
        exact ⟨rfl, HK.out⟩
    · obtain rfl := hz ha
      clear hz
      have hb : a < 0 ∨ 96 ≤ a := by omega
      clear h ha
      rcases hb with hb | hb
      all_goals
        go_enter Tryd.func7, Tryd.ntmps7
        go_wp2_with (first
          | (go_at_call 8; refine (awake2_at HW HK).mono ?_; rintro e w' ⟨rfl, hk2⟩; replace HK := Hid_step HK hk2; clear hk2)
          | (go_at_call 15; refine (name_at HS.out).mono ?_; rintro e w' ⟨rfl, hk2⟩; replace HK := Hid_step HK hk2; clear hk2))
        all_goals go_ret
        all_goals exact ⟨rfl, HK.out⟩
end Go.Proofs.YtddmfjcimanilaaDoor
