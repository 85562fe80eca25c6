/- The laws' walks of layer 2. -/
import Derived.Test.YtddmfjcimanilaaDoorVarsL
namespace Go.Proofs.YtddmfjcimanilaaDoor
open Go.RowKit

theorem rwidth_at {v x : Int} (hx : (vrow v).width = x) {w : World} :
    Calls Tryd.prog 10 #[.int .i64 v] w fun e w' => e = .returned (.int .i64 x) ∧ Keep Never w w' := by subst hx; exact rwidth_any v w
theorem rmost_at {v x : Int} (hx : rMost v = x) {w : World} :
    Calls Tryd.prog 12 #[.int .i64 v] w fun e w' => e = .returned (.int .i64 x) ∧ Keep Never w w' := by subst hx; exact rmost_any v w
theorem rspecial_at {v x : Int} (hx : rSpecial v = x) {w : World} :
    Calls Tryd.prog 14 #[.int .i64 v] w fun e w' => e = .returned (.int .i64 x) ∧ Keep Never w w' := by subst hx; exact rspecial_any v w
theorem rmay_at {v n : Int} {x : Bool} (hx : rMay v n = x) {w : World} :
    Calls Tryd.prog 18 #[.int .i64 v, .int .i64 n] w fun e w' => e = .returned (.bool x) ∧ Keep Never w w' := by subst hx; exact rmay_any v n w
theorem rname_at {v : Int} {s : ByteArray} (hx : ⟨(vrow v).name.toArray⟩ = s) {w : World} :
    Calls Tryd.prog 16 #[.int .i64 v] w fun e w' => e = .returned (.string s) ∧ Keep Never w w' := by subst hx; exact rname_any v w
theorem awake2_at {w0 w : World} (hw : Hid (Widths w0)) (hk : Hid (Keep Never w0 w)) :
    Calls Tryd.prog 8 #[] w fun e w' => e = .returned (.bool true) ∧ Keep Never w w' := awake2_any w (hw.out.keep hk.out (fun h => h))

set_option maxHeartbeats 1000000 in
theorem rows_walk (w : World) (hw : Widths w) (v : Int) :
    Calls Tryd.prog 3 #[.int .i64 v] w fun e w' => e = .returned (.bool true) ∧ Keep Never w w' := by
  obtain ⟨wd, h1⟩ : ∃ x, (vrow v).width = x := ⟨_, rfl⟩
  obtain ⟨m, h2⟩ : ∃ x, rMost v = x := ⟨_, rfl⟩
  obtain ⟨sp, h3⟩ : ∃ x, rSpecial v = x := ⟨_, rfl⟩
  obtain ⟨s, h4⟩ : ∃ s : ByteArray, ⟨(vrow v).name.toArray⟩ = s := ⟨_, rfl⟩
  have H1 := Lib.hid h1
  have H2 := Lib.hid h2
  have H3 := Lib.hid h3
  have H4 := Lib.hid h4
  have HW := Lib.hid hw
  have HK := Lib.hid (Keep.refl Never w)
  clear hw h1 h2 h3 h4
  go_enter Tryd.func3, Tryd.ntmps3
  go_wp2_with (first
    | (go_at_call 8; refine (awake2_at HW HK).mono ?_; rintro e w' ⟨rfl, hk2⟩; replace HK := Hid_step HK hk2; clear hk2)
    | (go_at_call 9; refine (width_at H1.out HW HK).mono ?_; rintro e w' ⟨rfl, rfl⟩)
    | (go_at_call 11; refine (most_at H2.out HW HK).mono ?_; rintro e w' ⟨rfl, rfl⟩)
    | (go_at_call 13; refine (special_at H3.out).mono ?_; rintro e w' ⟨rfl, rfl⟩)
    | (go_at_call 15; refine (name_at H4.out).mono ?_; rintro e w' ⟨rfl, hk2⟩; replace HK := Hid_step HK hk2; clear hk2)
    | (go_at_call 10; refine (rwidth_at H1.out).mono ?_; rintro e w' ⟨rfl, hk2⟩; replace HK := Hid_step HK hk2; clear hk2)
    | (go_at_call 12; refine (rmost_at H2.out).mono ?_; rintro e w' ⟨rfl, hk2⟩; replace HK := Hid_step HK hk2; clear hk2)
    | (go_at_call 14; refine (rspecial_at H3.out).mono ?_; rintro e w' ⟨rfl, hk2⟩; replace HK := Hid_step HK hk2; clear hk2)
    | (go_at_call 16; refine (rname_at H4.out).mono ?_; rintro e w' ⟨rfl, hk2⟩; replace HK := Hid_step HK hk2; clear hk2))
  go_ret
  exact ⟨rfl, HK.out⟩

set_option maxHeartbeats 1000000 in
theorem may_walk (w : World) (hw : Widths w) (v n : Int) (hn : n ≤ 9223372036854775807) :
    Calls Tryd.prog 4 #[.int .i64 v, .int .i64 n] w fun e w' => e = .returned (.bool true) ∧ Keep Never w w' := by
  obtain ⟨b, h1⟩ : ∃ x, rMay v n = x := ⟨_, rfl⟩
  have H1 := Lib.hid h1
  have HW := Lib.hid hw
  have HK := Lib.hid (Keep.refl Never w)
  clear hw h1
  go_enter Tryd.func4, Tryd.ntmps4
  go_wp2_with (first
    | (go_at_call 8; refine (awake2_at HW HK).mono ?_; rintro e w' ⟨rfl, hk2⟩; replace HK := Hid_step HK hk2; clear hk2)
    | (go_at_call 17; refine (may_at hn H1.out HW HK).mono ?_; rintro e w' ⟨rfl, rfl⟩)
    | (go_at_call 18; refine (rmay_at H1.out).mono ?_; rintro e w' ⟨rfl, hk2⟩; replace HK := Hid_step HK hk2; clear hk2))
  go_ret
  exact ⟨rfl, HK.out⟩

set_option maxHeartbeats 1000000 in
theorem finds_walk (w : World) (hw : Widths w) (s : ByteArray) :
    Calls Tryd.prog 5 #[.string s] w fun e w' => e = .returned (.bool true) ∧ Keep Never w w' := by
  have HW := Lib.hid hw
  have HK := Lib.hid (Keep.refl Never w)
  have Hx : ∃ x, FindIs s x ∧ ∀ y, FindIs s y → y = x := by
    by_cases h : ∃ x, FindIs s x
    · obtain ⟨x, hx⟩ := h; exact ⟨x, hx, fun y hy => hy.one hx⟩
    · exfalso
      have h2 : ∀ k, k ≤ 96 → ∀ j, j < k → vName j ≠ s := by
        intro k
        induction k with
        | zero => intro _ j hj; omega
        | succ k ih =>
          intro hk j hj hjs
          exact h ⟨j, .inl ⟨j, by omega, rfl, hjs, fun i hi => ih (by omega) i (by omega)⟩⟩
      exact h ⟨-1, .inr ⟨rfl, h2 96 (by omega)⟩⟩
  obtain ⟨x, -, hx⟩ := Hx
  have HX := Lib.hid hx
  clear hw hx
  go_enter Tryd.func5, Tryd.ntmps5
  go_wp2_with (first
    | (go_at_call 8; refine (awake2_at HW HK).mono ?_; rintro e w' ⟨rfl, hk2⟩; replace HK := Hid_step HK hk2; clear hk2)
    | (go_at_call 19; refine (vfind_any _ _).mono ?_; rintro e w' ⟨y, rfl, hy, hk2⟩; obtain rfl := HX.out _ hy; replace HK := Hid_step HK hk2; clear hk2 hy)
    | (go_at_call 20; refine (rfind_any _ _).mono ?_; rintro e w' ⟨y, rfl, hy, hk2⟩; obtain rfl := HX.out _ hy; replace HK := Hid_step HK hk2; clear hk2 hy))
  all_goals go_ret
  all_goals exact ⟨by first | rfl | (refine ret_bool ?_; simp), HK.out⟩
end Go.Proofs.YtddmfjcimanilaaDoor
