/- The box by definition: the inverse sought among all, and the affine map. A closed check over all bytes (long). -/
import Derived.Test.YtikmhlbpefednaaGreatAesK
namespace Go.Proofs.YtikmhlbpefednaaGreat
end Go.Proofs.YtikmhlbpefednaaGreat
