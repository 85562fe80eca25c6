/- linesideref01.Power. -/
import Derived.Test.YtpahfobijmmmmaaGreatBitsM
namespace Go.Proofs.YtpahfobijmmmmaaGreat
open Go.RowKit

end Go.Proofs.YtpahfobijmmmmaaGreat
