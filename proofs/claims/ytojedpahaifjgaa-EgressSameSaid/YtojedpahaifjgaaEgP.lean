/- A ring that keeps packets of one size by rising indices from 0 on, as many as there is room for. Plain law. -/
import Derived.Test.YtojedpahaifjgaaRiL
import Derived.Test.YtojedpahaifjgaaArB
namespace Go.Proofs.Ytojedpahaifjgaa
open Go.RowKit
end Go.Proofs.Ytojedpahaifjgaa
