/- Walks of the reference of layer 1: Get, Bits. -/
import Derived.Test.YtpahfobijmmmmaaGreatBitsR
import Derived.Deep.RegionHeld3
namespace Go.Proofs.YtpahfobijmmmmaaGreat
open Go.RowKit

/-- what the document's Get leaves -/
def RGet (w : World) (B : Nat) (A : Option Addr) (l : List Bool) (width : Int) (e : Ending) (w' : World) : Prop :=
  ∃ A' n' c', e = .returned (.tuple #[.int .i64 (getN l width), .slice A' n' c', .int .i64 (getE l.length width)]) ∧ n' = (getL l width).length ∧ n' ≤ c' ∧ Rd w' B 1 A' n' ((getL l width).map .bool) ∧ Keep Never w w' ∧ (∀ q, InRow A' q → InRow A q)

/-- what the document's Bits leaves -/
def RBits (w : World) (b : List Nat) (e : Ending) (w' : World) : Prop :=
  ∃ A' n' c', e = .returned (.slice A' n' c') ∧ n' = 8 * b.length ∧ n' ≤ c' ∧ Rd w' w'.heap.size 1 A' n' ((bitsB b).map .bool) ∧ Keep Never w w' ∧ (∀ q, InRow A' q → w.heap.size ≤ q)

theorem bit_int' (xn j : Nat) : ((xn : Int) / ((2 ^ j : Nat) : Int) % 2 == 1) = bitOf xn j := bit_int xn j

end Go.Proofs.YtpahfobijmmmmaaGreat
