/- Walks of the reference of layer 1. -/
import Derived.Test.YtpahfobijmmmmaaGreatPow
namespace Go.Proofs.YtpahfobijmmmmaaGreat
open Go.RowKit

set_option maxRecDepth 100000 in
theorem elemU : Elem Tryz.prog 46 5 1 1 := ⟨Tryz.underlying46, _, _, rfl, rfl, rfl, rfl, rfl, by omega⟩

/-- what the document's Put leaves -/
def RPut (w : World) (A : Option Addr) (l : List Bool) (x width : Int) (e : Ending) (w' : World) : Prop :=
  ∃ A' n' c', e = .returned (.tuple #[.slice A' n' c', .int .i64 (putE l.length x width)]) ∧ n' = (putL l x width).length ∧ n' ≤ 8184 ∧ Rd w' w'.heap.size 1 A' n' ((putL l x width).map .bool) ∧ Keep Never w w' ∧ (∀ q, InRow A' q → InRow A q ∨ (w.heap.size ≤ q ∧ q < w'.heap.size))

theorem bit_int (xn j : Nat) : ((xn : Int) / ((2 ^ j : Nat) : Int) % 2 == 1) = bitOf xn j := by
  unfold bitOf
  rw [Bool.eq_iff_iff]
  simp only [beq_iff_eq]
  omega

/-- what the document's Bytes leaves -/
def RBytes (w : World) (l : List Bool) (e : Ending) (w' : World) : Prop :=
  ∃ A' n' c', e = .returned (.slice A' n' c') ∧ n' = (bytesOf l).length ∧ Rd w' w'.heap.size 1 A' n' ((bytesOf l).map u8v) ∧ Keep Never w w' ∧ n' ≤ c' ∧ c' ≤ maxLen

end Go.Proofs.YtpahfobijmmmmaaGreat
