/- Rings: where an index is. No condition but the sizes'. -/
import Derived.Test.YtojedpahaifjgaaRiA
import Derived.Test.YtojedpahaifjgaaIB
namespace Go.Proofs.Ytojedpahaifjgaa
open Go.RowKit
end Go.Proofs.Ytojedpahaifjgaa
