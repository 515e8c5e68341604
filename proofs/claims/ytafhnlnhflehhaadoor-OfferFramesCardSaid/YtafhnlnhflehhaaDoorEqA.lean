/- Two arrays of numbers compared. -/
import Derived.Test.YtafhnlnhflehhaaDoorArr
import Derived.Laws.StructEq
namespace Go.Proofs.YtafhnlnhflehhaaDoor
open Go.RowKit
end Go.Proofs.YtafhnlnhflehhaaDoor
