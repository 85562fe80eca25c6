/- linesideref01.Power. -/
import Derived.Test.YtpahfobijmmmmaaBitsM
namespace Go.Proofs.Ytpahfobijmmmmaa
open Go.RowKit

set_option maxHeartbeats 400000 in
theorem power_any (n : Nat) (hn : n ≤ 32) (w : World) :
    Calls Try.prog 48 #[.int .i64 n] w fun e w' => e = .returned (.int .i64 ((2 ^ n : Nat) : Int)) ∧ w = w' := by
  go_enter Try.func48, Try.ntmps48
  go_wp2
  go_loop [3, 4] (fun p i => ∃ k : Nat, k ≤ n ∧ i = .int .i64 k ∧ p = .int .i64 ((2 ^ k : Nat) : Int)) (fun _ i => n - (intOf i).toNat)
  case atStart => exact ⟨0, Nat.zero_le _, rfl, rfl⟩
  case round =>
    obtain ⟨k, hk, rfl, rfl⟩ := hrel
    have h1 := pow_pos' k
    have h2 := pow_le32 (k := k) (by omega)
    have h3 : ((2 ^ (k + 1) : Nat) : Int) = ((2 ^ k : Nat) : Int) * 2 := by rw [Nat.pow_succ]; omega
    have H3 := Lib.hid h3; clear h3
    generalize hp : ((2 ^ k : Nat) : Int) = p at *
    have HP := Lib.hid hp; clear hp
    go_wp2
    · go_round
      case rel => exact ⟨k + 1, by omega, by go_num, by rw [H3.out]⟩
      case measure => simp [intOf]; omega
    · have : k = n := by omega
      subst this
      go_ret
      exact ⟨ret_int HP.out.symm, rfl⟩

theorem power_any' (n : Nat) (hn : n ≤ 32) (p : Int) (hp : ((2 ^ n : Nat) : Int) = p) (w : World) :
    Calls Try.prog 48 #[.int .i64 n] w fun e w' => e = .returned (.int .i64 p) ∧ w = w' := by
  subst hp; exact power_any n hn w

end Go.Proofs.Ytpahfobijmmmmaa
