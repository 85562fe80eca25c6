/- awake of layer 2; the laws' walks. -/
import Derived.Test.YtddmfjcimanilaaDoorVarsP
namespace Go.Proofs.YtddmfjcimanilaaDoor
open Go.RowKit

theorem Hid_step {w a b : World} (h : Hid (Keep Never w a)) (k : Keep Never a b) : Hid (Keep Never w b) := Lib.hid (h.out.trans k)
theorem width_at {v x : Int} (hx : (vrow v).width = x) {w0 w : World} (hw : Hid (Widths w0)) (hk : Hid (Keep Never w0 w)) :
    Calls Tryd.prog 9 #[.int .i64 v] w fun e w' => e = .returned (.int .i64 x) ∧ w = w' := by
  subst hx; rw [← vWidth_eq]; exact vwidth_any v w (hw.out.keep hk.out (fun h => h))
theorem most_at {v x : Int} (hx : rMost v = x) {w0 w : World} (hw : Hid (Widths w0)) (hk : Hid (Keep Never w0 w)) :
    Calls Tryd.prog 11 #[.int .i64 v] w fun e w' => e = .returned (.int .i64 x) ∧ w = w' := by
  subst hx; rw [← vMost_eq]; exact vmost_any v w (hw.out.keep hk.out (fun h => h))
theorem special_at {v x : Int} (hx : rSpecial v = x) {w : World} :
    Calls Tryd.prog 13 #[.int .i64 v] w fun e w' => e = .returned (.int .i64 x) ∧ w = w' := by
  subst hx; rw [← vSpecial_eq]; exact vspecial_any v w
theorem may_at {v n : Int} (hn : n ≤ 9223372036854775807) {x : Bool} (hx : rMay v n = x) {w0 w : World} (hw : Hid (Widths w0)) (hk : Hid (Keep Never w0 w)) :
    Calls Tryd.prog 17 #[.int .i64 v, .int .i64 n] w fun e w' => e = .returned (.bool x) ∧ w = w' := by
  subst hx; rw [← vMay_eq]; exact vmay_any v n hn w (hw.out.keep hk.out (fun h => h))
theorem name_at {v : Int} {s : ByteArray} (hx : ⟨(vrow v).name.toArray⟩ = s) {w : World} :
    Calls Tryd.prog 15 #[.int .i64 v] w fun e w' => e = .returned (.string s) ∧ Keep Never w w' := by
  subst hx; exact vname_any v w

theorem find6 : FindIs ⟨#[81, 95, 68, 73, 82]⟩ 6 := find_name (a := 6) (by decide)

set_option maxHeartbeats 1000000 in
theorem awake2_any (w : World) (hw : Widths w) :
    Calls Tryd.prog 8 #[] w fun e w' => e = .returned (.bool true) ∧ Keep Never w w' := by
  have HW := Lib.hid hw
  have HK := Lib.hid (Keep.refl Never w)
  clear hw
  go_enter Tryd.func8, Tryd.ntmps8
  go_wp2_with (first
    | (go_at_call 9; refine (width_at (x := 32) (by decide +kernel) HW HK).mono ?_; rintro e w' ⟨rfl, rfl⟩)
    | (go_at_call 11; refine (most_at (x := 120) (by decide +kernel) HW HK).mono ?_; rintro e w' ⟨rfl, rfl⟩)
    | (go_at_call 13; refine (special_at (x := 127) (by decide +kernel)).mono ?_; rintro e w' ⟨rfl, rfl⟩)
    | (go_at_call 17; first
        | (refine (may_at (by omega) (x := true) (by decide +kernel) HW HK).mono ?_; rintro e w' ⟨rfl, rfl⟩)
        | (refine (may_at (by omega) (x := false) (by decide +kernel) HW HK).mono ?_; rintro e w' ⟨rfl, rfl⟩))
    | (go_at_call 15; refine (name_at rfl).mono ?_; rintro e w' ⟨rfl, hk2⟩; replace HK := Hid_step HK hk2; clear hk2)
    | (go_at_call 19; refine (vfind_any _ _).mono ?_; rintro e w' ⟨x, rfl, hx, hk2⟩; obtain rfl := hx.one find6; replace HK := Hid_step HK hk2; clear hk2 hx))
  go_ret
  exact ⟨rfl, HK.out⟩
end Go.Proofs.YtddmfjcimanilaaDoor
