/- octets.Same; a string of bytes. No condition. -/
import Derived.Test.YtcempndfbckcaaaBst
import Derived.Test.YtcempndfbckcaaaPre
import Derived.Test.YtcempndfbckcaaaGKi
import Derived.Laws.BytesArg
namespace Go.Proofs.Ytcempndfbckcaaa
open Go.RowKit
end Go.Proofs.Ytcempndfbckcaaa
