/- Slices of numbers of 16 bits. No condition. -/
import Derived.Test.YtcempndfbckcaaaGW4
namespace Go.Proofs.Ytcempndfbckcaaa
open Go.RowKit
theorem slU1N : SlTy Try.prog 25 28 1 2 := SlTy.mk' Try.underlying25 (by kernel_rfl) (by decide)
end Go.Proofs.Ytcempndfbckcaaa
