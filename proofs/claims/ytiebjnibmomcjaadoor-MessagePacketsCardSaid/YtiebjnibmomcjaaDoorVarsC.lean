/- strings.Cut at one byte. -/
import Derived.Test.YtiebjnibmomcjaaDoorBitsM
import Derived.Lib.Walk
import Derived.Lib.Bytealg
import Derived.Lib.IndexBytes
import Derived.Lib.CutLaws
import Derived.Deep.Draws
namespace Go.Proofs.YtiebjnibmomcjaaDoor
open Go.RowKit

/-- cut at a byte, over lists -/
def cutL (c : UInt8) (l : List UInt8) : List UInt8 × List UInt8 := (l.takeWhile (· ≠ c), (l.dropWhile (· ≠ c)).drop 1)

end Go.Proofs.YtiebjnibmomcjaaDoor
