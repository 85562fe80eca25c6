/- vars.Name and vars.Find. -/
import Derived.Test.YtiebjnibmomcjaaDoorVarsF
import Derived.Test.YtiebjnibmomcjaaDoorVarsC
namespace Go.Proofs.YtiebjnibmomcjaaDoor
open Go.RowKit

def rests (k : Nat) : List UInt8 := ((vrows.map (·.name)).drop k).flatMap (· ++ [32])
theorem rests_len : ∀ k, k < 97 → (rests k).length ≤ 3000 := by decide +kernel
theorem cut_rest : ∀ k, k < 96 → (Lib.cut (rests k) [32]).1 = (vrows.getD k ⟨[], 0, 0, 0⟩).name ∧ (Lib.cut (rests k) [32]).2.1 = rests (k + 1) := by decide +kernel

def restB (k : Nat) : ByteArray := ⟨(rests k).toArray⟩
end Go.Proofs.YtiebjnibmomcjaaDoor
