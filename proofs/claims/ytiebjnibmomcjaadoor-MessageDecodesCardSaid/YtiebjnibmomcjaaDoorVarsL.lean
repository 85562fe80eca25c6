/- awake of layer 2; the laws' walks. -/
import Derived.Test.YtiebjnibmomcjaaDoorBdVarsD
namespace Go.Proofs.YtiebjnibmomcjaaDoor
open Go.RowKit

theorem Hid_step {w a b : World} (h : Hid (Keep Never w a)) (k : Keep Never a b) : Hid (Keep Never w b) := Lib.hid (h.out.trans k)
theorem width_at {v x : Int} (hx : (vrow v).width = x) {w0 w : World} (hw : Hid (Widths w0)) (hk : Hid (Keep Never w0 w)) :
    Calls Tryd.prog 23 #[.int .i64 v] w fun e w' => e = .returned (.int .i64 x) ∧ w = w' := by
  subst hx; rw [← vWidth_eq]; exact vwidth_any v w (hw.out.keep hk.out (fun h => h))
theorem most_at {v x : Int} (hx : rMost v = x) {w0 w : World} (hw : Hid (Widths w0)) (hk : Hid (Keep Never w0 w)) :
    Calls Tryd.prog 55 #[.int .i64 v] w fun e w' => e = .returned (.int .i64 x) ∧ w = w' := by
  subst hx; rw [← vMost_eq]; exact vmost_any v w (hw.out.keep hk.out (fun h => h))
theorem special_at {v x : Int} (hx : rSpecial v = x) {w : World} :
    Calls Tryd.prog 54 #[.int .i64 v] w fun e w' => e = .returned (.int .i64 x) ∧ w = w' := by
  subst hx; rw [← vSpecial_eq]; exact vspecial_any v w
theorem may_at {v n : Int} (hn : n ≤ 9223372036854775807) {x : Bool} (hx : rMay v n = x) {w0 w : World} (hw : Hid (Widths w0)) (hk : Hid (Keep Never w0 w)) :
    Calls Tryd.prog 27 #[.int .i64 v, .int .i64 n] w fun e w' => e = .returned (.bool x) ∧ w = w' := by
  subst hx; rw [← vMay_eq]; exact vmay_any v n hn w (hw.out.keep hk.out (fun h => h))
theorem find6 : FindIs ⟨#[81, 95, 68, 73, 82]⟩ 6 := find_name (a := 6) (by decide)

end Go.Proofs.YtiebjnibmomcjaaDoor
