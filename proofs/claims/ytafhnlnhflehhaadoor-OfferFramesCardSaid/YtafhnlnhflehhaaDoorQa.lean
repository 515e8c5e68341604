/- Whole arrays (and structs) loaded, in a region that draws. -/
import Derived.Test.YtafhnlnhflehhaaDoorRg
import Derived.Laws.Rows
namespace Go.Proofs.YtafhnlnhflehhaaDoor
open Go.RowKit
end Go.Proofs.YtafhnlnhflehhaaDoor
