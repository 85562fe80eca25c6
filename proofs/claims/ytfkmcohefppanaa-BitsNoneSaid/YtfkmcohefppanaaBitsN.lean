/- The walk of BitsNone. -/
import Derived.Test.YtfkmcohefppanaaBitsA
namespace Go.Proofs.Ytfkmcohefppanaa
open Go.RowKit

set_option maxHeartbeats 1000000 in
theorem none_walk (w : World) (width : Int) (_ : -9223372036854775808 ≤ width) (_ : width ≤ 9223372036854775807) : Calls Try.prog 9 #[.int .i64 width] w fun e w' => e = .returned (.bool true) ∧ Keep Never w w' := by
  by_cases h : width < 1 ∨ 32 < width
  · have hm : mayB 0 width = false := by simp [mayB]; omega
    have Hm := Lib.hid hm
    have H := Lib.hid h
    clear hm
    rcases h with h | h
    all_goals
      go_enter Try.func9, Try.ntmps9
      go_wp2_with (first
        | (go_at_call 10; refine (awake_any _).mono ?_; rintro e w1 ⟨rfl, hk1⟩)
        | (go_at_call 17; refine (get_bad none width H.out _).mono ?_; rintro e w2 ⟨rfl, rfl⟩)
        | (go_at_call 12; refine (wput_bad none 0 width (by decide) Hm.out _).mono ?_; rintro e w3 ⟨rfl, rfl⟩)
        | (go_at_call 18; refine (left_nil _).mono ?_; rintro e w4 ⟨rfl, rfl⟩)
        | (go_at_call 21; refine (at_nil _).mono ?_; rintro e w5 ⟨rfl, rfl⟩)
        | (go_at_call 13; refine (wlen_nil _).mono ?_; rintro e w6 ⟨rfl, rfl⟩)
        | (go_at_call 14; refine (wbytes_nil _).mono ?_; rintro e w7 ⟨rfl, rfl⟩))
      go_ret
      exact ⟨rfl, hk1⟩
  · have hm : mayB 0 width = true := by
      rw [mayB_iff]
      have := pow_pos' width.toNat
      omega
    have Hm := Lib.hid hm
    have h1 : 1 ≤ width := by omega
    have h2 : width ≤ 32 := by omega
    clear hm h
    go_enter Try.func9, Try.ntmps9
    go_wp2_with (first
      | (go_at_call 10; refine (awake_any _).mono ?_; rintro e w1 ⟨rfl, hk1⟩)
      | (go_at_call 17; refine (get_nil width h1 h2 _).mono ?_; rintro e w2 ⟨rfl, rfl⟩)
      | (go_at_call 12; refine (wput_nil 0 width (by decide) Hm.out _).mono ?_; rintro e w3 ⟨rfl, rfl⟩)
      | (go_at_call 18; refine (left_nil _).mono ?_; rintro e w4 ⟨rfl, rfl⟩)
      | (go_at_call 21; refine (at_nil _).mono ?_; rintro e w5 ⟨rfl, rfl⟩)
      | (go_at_call 13; refine (wlen_nil _).mono ?_; rintro e w6 ⟨rfl, rfl⟩)
      | (go_at_call 14; refine (wbytes_nil _).mono ?_; rintro e w7 ⟨rfl, rfl⟩))
    go_ret
    exact ⟨rfl, hk1⟩

end Go.Proofs.Ytfkmcohefppanaa
