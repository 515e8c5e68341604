/- Elements of a number and bytes of the call's own. Nothing of the program; no condition. -/
import Derived.Test.YtojedpahaifjgaaGEl
import Derived.Test.YtojedpahaifjgaaApO
namespace Go.Proofs.Ytojedpahaifjgaa
open Go.RowKit
def NoB (w : World) (k : Nat) : Prop := w.heap.size ≤ k ∨ ∃ cs t f, w.heap[k]? = some (.cells cs t f) ∧ t ≠ 5
theorem NoB.ob {w : World} {base : Nat} {v : Value} {n : Nat} {b : List Nat} (h : OB w base 5 v n b) {S : List Nat} (hS : ∀ k ∈ S, NoB w k) : ∀ g, v.ownBlock = some g → g ∉ S := fun g hg hm => by
 rcases hS g hm with h1 | ⟨cs, t, f, h1, h2⟩
 ·have := h.lt' g hg; omega
 ·exact h.2.2.ne h1 h2 g hg rfl
def IB : Elt (Int × List Nat) where
 size := 2
 R := fun w base a c => ∃ v, c = [.int .i64 a.1, v] ∧ OB w base 5 v a.2.length a.2
 Ok := NoB
 pos := by decide
 len := fun ⟨v, e, _⟩ => by rw [e]; rfl
 one := fun ⟨v, e, hv⟩ u hu => by
  rw [e] at hu
  obtain ⟨s, c, rfl, _, _⟩ := hv.len
  simp at hu
  rcases hu with rfl | rfl <;> rfl
 bw := fun ⟨v, e, hv⟩ hb => ⟨v, e, hv.bw hb⟩
 up := fun ⟨v, e, hv⟩ hb => ⟨v, e, hv.up hb⟩
 still := fun ⟨v, e, hv⟩ hs hS => ⟨v, e, hv.still hs (NoB.ob hv hS)⟩
 old := fun ⟨v, e, hv⟩ hs hS => ⟨v, e, hv.still hs (fun k hk hm => by have := hv.ge' k hk; have := hS k hm; omega)⟩
theorem EQ.noB {α : Type} {E : Elt α} {T : TypeId} {w : World} {base : Nat} {v : Value} {n : Nat} {l : List α} (h : EQ E T w base v n l) (hT : T ≠ 5) : ∀ k ∈ v.ownBlock.toList, NoB w k := fun k hk => by
 obtain ⟨cs, hh⟩ := h.row k (by simpa using hk)
 exact .inr ⟨_, _, _, hh, hT⟩
theorem sum_snoc (l : List Nat) (x : Nat) : (l ++ [x]).sum = l.sum + x := by induction l with
 | nil => simp
 | cons a l ih => simp [ih, Nat.add_assoc]
theorem sum_take_le (l : List Nat) : ∀ k, (l.take k).sum ≤ l.sum := by
 induction l with
 | nil => intro k; simp
 | cons a l ih =>
  intro k
  cases k with
  | zero => simp
  | succ k => have := ih k; simp; omega
abbrev PL := List (Int × List Nat)
def lensL (o : List (Int × List Nat)) : Nat := (o.map fun p => p.2.length).sum
theorem lensL_snoc (o : List (Int × List Nat)) (c : Int) (x : List Nat) : lensL (o ++ [(c, x)]) = lensL o + x.length := by
 unfold lensL
 rw [List.map_append, List.map_singleton, sum_snoc]
def cl (L : PL) (i : Nat) : Int := (L.getD i (0, [])).1
theorem cl_get {L : PL} {i : Nat} (h : i < L.length) : cl L i = L[i].1 := by
 unfold cl
 rw [List.getD_eq_getElem?_getD, List.getElem?_eq_getElem h]; rfl
theorem lensL_take (o : List (Int × List Nat)) (j : Nat) (h : j < o.length) : lensL (o.take (j + 1)) = lensL (o.take j) + (o[j]).2.length := by
 rw [List.take_succ_eq_append_getElem h, ← lensL_snoc _ (o[j]).1]
theorem lensL_le (o : List (Int × List Nat)) (j : Nat) : lensL (o.take j) ≤ lensL o := by
 unfold lensL; rw [List.map_take]; exact sum_take_le _ _
theorem lensL_erase (L : PL) (a : Nat) : lensL (L.eraseIdx a) ≤ lensL L := by
 induction L generalizing a with
 | nil => simp
 | cons p L ih =>
  cases a with
  | zero => show lensL L ≤ p.2.length + lensL L; omega
  | succ a => have := ih a; show p.2.length + lensL (L.eraseIdx a) ≤ p.2.length + lensL L; omega
theorem lensL_get (L : PL) (a : Nat) (h : a < L.length) : (L[a]).2.length ≤ lensL L := by
 have h1 := lensL_take L a h
 have h2 := lensL_le L (a + 1)
 omega
end Go.Proofs.Ytojedpahaifjgaa
