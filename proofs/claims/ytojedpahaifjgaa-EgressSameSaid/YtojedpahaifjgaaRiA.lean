/- Rings: packets in a slice: insertion. No condition but the sizes'. -/
import Derived.Test.YtojedpahaifjgaaIB
import Derived.Test.YtojedpahaifjgaaGEl
namespace Go.Proofs.Ytojedpahaifjgaa
open Go.RowKit
end Go.Proofs.Ytojedpahaifjgaa
