/- slices.Reverse at lineside/api.Step: the body is the one that the kit's contract speaks of (laid by the kit's own tool). -/
import Derived.Test.YtijdkjcjhfebfaaRows
import Derived.Shelf.SlicesQ.Reverse
namespace Go.Proofs.Ytijdkjcjhfebfaa
open Go.Proofs Go.Shelf
def revSt_ren : Go.Shelf.Ren := ⟨fun | 35 => 51 | n => n, fun | 22 => 39 | 23 => 45 | 3 => 3 | 4 => 4 | 0 => 0 | n => n, fun | n => n⟩
theorem revSt : Go.Proofs.SlLaysE0.n35 Try.prog revSt_ren := {
  mixed := by kernel_rfl
  f35 := ⟨Try.f51.name, by decide, Try.func51.trans (congrArg some (by kernel_rfl))⟩
  t0 := Try.underlying0
  a0 := Try.isAgg0
  z0 := Try.sizeOf0
  v0 := Try.zeroValue0
  t3 := Try.underlying3
  a3 := Try.isAgg3
  z3 := Try.sizeOf3
  v3 := Try.zeroValue3
  t4 := Try.underlying4
  a4 := Try.isAgg4
  z4 := Try.sizeOf4
  v4 := Try.zeroValue4
  t22 := Try.underlying39
  a22 := Try.isAgg39
  z22 := Try.sizeOf39
  v22 := Try.zeroValue39 }
end Go.Proofs.Ytijdkjcjhfebfaa
