/- Rings: cut (for seats that do not reach Indices and Forget). No condition but the sizes'. -/
import Derived.Test.YtojedpahaifjgaaRiC
namespace Go.Proofs.Ytojedpahaifjgaa
open Go.RowKit
end Go.Proofs.Ytojedpahaifjgaa
