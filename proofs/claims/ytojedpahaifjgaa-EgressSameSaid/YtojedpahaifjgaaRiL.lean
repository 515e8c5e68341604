/- Rings: Put. No condition but the sizes'. -/
import Derived.Test.YtojedpahaifjgaaRiK
namespace Go.Proofs.Ytojedpahaifjgaa
open Go.RowKit
def RPutPost (base g : Nat) (pk by_ : Int) (v : Value) (R : Nat × PL) (w : World) (e : Ending) (w' : World) : Prop :=
 e = .returned (.int .i64 (R.1 : Nat)) ∧ (∃ v', RingV w' base g pk by_ v' R.2 ∧ ∀ k, v'.ownBlock = some k → v.ownBlock = some k ∨ w.heap.size ≤ k) ∧ Still (g :: v.ownBlock.toList) w w'
theorem RPutPost.same {base g : Nat} {pk by_ : Int} {v : Value} {L : PL} {w w' : World} {e : Ending} (r : Nat) (h : RingV w base g pk by_ v L) (hb : BW w w') (he : e = .returned (.int .i64 (r : Nat))) : RPutPost base g pk by_ v (r, L) w e w' :=
 ⟨he, ⟨v, h.bw hb, fun k hk => .inl hk⟩, hb.still _⟩
end Go.Proofs.Ytojedpahaifjgaa
