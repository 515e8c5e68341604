/- The reference's numbers. No condition but the sizes'. -/
import Derived.Test.YtcempndfbckcaaaPb
import Derived.Test.YtcempndfbckcaaaNum
namespace Go.Proofs.Ytcempndfbckcaaa
open Go.RowKit
end Go.Proofs.Ytcempndfbckcaaa
