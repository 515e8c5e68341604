/- Slices of bytes that are read: 'SlB w sa ln cp l': the slice's elements are the numbers l, each from 0 to 255. Small laws on worlds. No condition. -/
import Derived.Test.YtafhnlnhflehhaaDoorRd
import Derived.WalkSpells
import Derived.WalkLawsBesides
import Derived.Lib.Hide
import Derived.IntWalk
namespace Go.Proofs.YtafhnlnhflehhaaDoor
open Go.RowKit
def SlB (w : World) (sa : Option Addr) (ln cp : Nat) (l : List Int) : Prop :=
 ln = l.length ∧ ln ≤ cp ∧ cp ≤ maxLen ∧ (∀ x ∈ l, 0 ≤ x ∧ x ≤ 255) ∧
 ((ln = 0 ∧ (sa = none → cp = 0)) ∨ ∃ b o, sa = some ⟨b, o, none⟩ ∧ b < w.heap.size ∧ ∀ i, i < ln → w.cell? ⟨b, o + i, none⟩ = some (.int .u8 (l.getD i 0)))
theorem SlB.below {w w' : World} {sa : Option Addr} {ln cp : Nat} {l : List Int} (h : SlB w sa ln cp l) (hb : Below w.heap.size w w') : SlB w' sa ln cp l := by
 obtain ⟨h1, h2, h3, h4, h5⟩ := h
 refine ⟨h1, h2, h3, h4, ?_⟩
 rcases h5 with h5 | ⟨b, o, hs, hlt, hc⟩
 ·exact .inl h5
 ·exact .inr ⟨b, o, hs, Nat.lt_of_lt_of_le hlt hb.size, fun i hi => (hb.cell (p := ⟨b, o + i, none⟩) hlt).trans (hc i hi)⟩
theorem SlB.len {w : World} {sa : Option Addr} {ln cp : Nat} {l : List Int} (h : SlB w sa ln cp l) : ln ≤ 9223372036854775807 := by
 obtain ⟨h1, h2, h3, _⟩ := h
 unfold maxLen at h3; omega
theorem Below.drewN {B : Nat} {a w : World} (h : Below B a w) (k : Nat) : Below B a (w.drewN k) := ⟨h.os, h.tape, h.output, h.size, h.block⟩
end Go.Proofs.YtafhnlnhflehhaaDoor
