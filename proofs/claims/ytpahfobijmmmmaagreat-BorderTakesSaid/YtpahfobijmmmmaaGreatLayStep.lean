/- slices.SortFunc at lineside/api.Step: the bodies that it reaches are those that the kit's contract speaks of (laid by the kit's own tool). -/
import Derived.Test.YtpahfobijmmmmaaGreatRows
import Derived.Shelf.SlSortCmp.WholeK
namespace Go.Proofs.YtpahfobijmmmmaaGreat
open Go.Proofs Go.Shelf
end Go.Proofs.YtpahfobijmmmmaaGreat
