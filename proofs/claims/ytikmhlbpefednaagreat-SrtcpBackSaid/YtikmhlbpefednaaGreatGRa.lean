/- Packets of media as plain data; what bytes are which packet. Nothing of the program; no condition. What bytes any packet of media is written as; written and read again, read and written again. Nothing of the program; no condition. -/
import Derived.Test.YtikmhlbpefednaaGreatGKi
import Derived.Test.YtikmhlbpefednaaGreatGRn
import Derived.Test.YtikmhlbpefednaaGreatGBa
namespace Go.Proofs.YtikmhlbpefednaaGreat
open Go.RowKit
structure RtpD where
 marker : Bool
 typ : Nat
 seq : Nat
 stamp : Nat
 source : Nat
 others : List Nat
 ext : Bool
 profile : Nat
 extra : List Nat
 payload : List Nat
 pad : Nat
def nm (l : List Nat) (a n : Nat) : Nat := numB ((l.drop a).take n)
theorem nm_lt (l : List Nat) (h : ByL l) (a n : Nat) : nm l a n < 256 ^ n := by
 have h1 := numB_lt ((l.drop a).take n) (fun x hx => ((h.drop a).take n) x hx)
 have h2 : ((l.drop a).take n).length ≤ n := List.length_take_le _ _
 exact Nat.lt_of_lt_of_le h1 (Nat.pow_le_pow_right (by decide) h2)
end Go.Proofs.YtikmhlbpefednaaGreat

namespace Go.Proofs.YtikmhlbpefednaaGreat
open Go.RowKit
structure RtpWf (d : RtpD) : Prop where
 typ : d.typ < 256
 seq : d.seq < 65536
 stamp : d.stamp < 4294967296
 source : d.source < 4294967296
 others : ∀ x ∈ d.others, x < 4294967296
 profile : d.profile < 65536
 extra : ByL d.extra
 payload : ByL d.payload
 pad : d.pad < 256
theorem zeros_byL (n : Nat) : ByL (zeros n) := fun x hx => by
 have := (List.mem_replicate.1 hx).2
 omega
end Go.Proofs.YtikmhlbpefednaaGreat
