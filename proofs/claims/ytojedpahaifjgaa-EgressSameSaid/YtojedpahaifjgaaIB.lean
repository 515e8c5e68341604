/- Elements of a number and bytes of the call's own. Nothing of the program; no condition. -/
import Derived.Test.YtojedpahaifjgaaGEl
import Derived.Test.YtojedpahaifjgaaApO
namespace Go.Proofs.Ytojedpahaifjgaa
open Go.RowKit
def NoB (w : World) (k : Nat) : Prop := w.heap.size ≤ k ∨ ∃ cs t f, w.heap[k]? = some (.cells cs t f) ∧ t ≠ 5
theorem NoB.ob {w : World} {base : Nat} {v : Value} {n : Nat} {b : List Nat} (h : OB w base 5 v n b) {S : List Nat} (hS : ∀ k ∈ S, NoB w k) : ∀ g, v.ownBlock = some g → g ∉ S := fun g hg hm => by
 rcases hS g hm with h1 | ⟨cs, t, f, h1, h2⟩
 ·have := h.lt' g hg; omega
 ·exact h.2.2.ne h1 h2 g hg rfl
def IB : Elt (Int × List Nat) where
 size := 2
 R := fun w base a c => ∃ v, c = [.int .i64 a.1, v] ∧ OB w base 5 v a.2.length a.2
 Ok := NoB
 pos := by decide
 len := fun ⟨v, e, _⟩ => by rw [e]; rfl
 one := fun ⟨v, e, hv⟩ u hu => by
  rw [e] at hu
  obtain ⟨s, c, rfl, _, _⟩ := hv.len
  simp at hu
  rcases hu with rfl | rfl <;> rfl
 bw := fun ⟨v, e, hv⟩ hb => ⟨v, e, hv.bw hb⟩
 up := fun ⟨v, e, hv⟩ hb => ⟨v, e, hv.up hb⟩
 still := fun ⟨v, e, hv⟩ hs hS => ⟨v, e, hv.still hs (NoB.ob hv hS)⟩
 old := fun ⟨v, e, hv⟩ hs hS => ⟨v, e, hv.still hs (fun k hk hm => by have := hv.ge' k hk; have := hS k hm; omega)⟩
abbrev PL := List (Int × List Nat)
def lensL (o : List (Int × List Nat)) : Nat := (o.map fun p => p.2.length).sum
end Go.Proofs.Ytojedpahaifjgaa
