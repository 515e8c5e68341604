/- An egress of plain media: New. No condition but the numbers' bounds. -/
import Derived.Test.YtojedpahaifjgaaEgD
namespace Go.Proofs.Ytojedpahaifjgaa
open Go.RowKit
def limC (pk by_ again : Int) : Array Value := #[.int .i64 0, .int .i64 0, .int .i64 0, .int .i64 0, .int .i64 0, .int .i64 0, .int .i64 pk, .int .i64 by_, .int .u64 again]
def kfP : Value := fnV 69
def pfP : Value := fnV 68
structure EgI (w : World) (base g gc gr gb : Nat) (src many wanted goes first : Int) (fol : Bool) (a0 b0 : Int) (out : Bool) (l0 pk by_ : Int) (v : Value) (L : PL) (rate burst hav : Int) : Prop where
 hp : ∃ a1 a2 b1 b2 l1 l2, HpB w g (.cells (egC gc kfP pfP src first fol a0 a1 a2 b0 b1 b2 out l0 l1 l2 gr gb) 57)
 ch : HpB w gc (.cells (chC many wanted goes) 112)
 rg : RingV w base gr pk by_ v L
 bk : Bk w gb rate burst hav
theorem EgI.bw {w w' : World} {base g gc gr gb src many wanted goes first fol a0 b0 out l0 pk by_ v L rate burst hav} (h : EgI w base g gc gr gb src many wanted goes first fol a0 b0 out l0 pk by_ v L rate burst hav) (b : BW w w') : EgI w' base g gc gr gb src many wanted goes first fol a0 b0 out l0 pk by_ v L rate burst hav := by
 obtain ⟨⟨a1, a2, b1, b2, l1, l2, hp⟩, ch, rg, bk⟩ := h
 exact ⟨⟨a1, a2, b1, b2, l1, l2, hp.bw b⟩, ch.bw b, rg.bw b, b.heap bk⟩
end Go.Proofs.Ytojedpahaifjgaa
