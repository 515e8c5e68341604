/- Stores into slices of the call's own whose elements are of one kind: one element of one cell; cells behind the end (the built-in clear). Nothing of the program; no condition. -/
import Derived.Test.YtafhnlnhflehhaaDoorEl
import Derived.Lib.SliceRun
namespace Go.Proofs.YtafhnlnhflehhaaDoor
open Go.RowKit
variable {α : Type}
theorem still_sc (w : World) (g o : Nat) (v : Value) : Still [g] w (w.setCell ⟨g, o, none⟩ v) := by
 refine ⟨rfl, rfl, rfl, by simp [World.setCell], fun k _ hk => ?_⟩
 exact hp_oth (by simpa using hk)
theorem EL.set1 {E : Elt α} {w : World} {base : Nat} (hs : E.size = 1) {a : α} {u : Value} (hu : E.R w base a [u]) : ∀ {l : List α} {xs : List Value} (i : Nat), EL E w base l xs → EL E w base (l.set i a) (xs.set i u)
 | [], xs, i, h => by rw [show xs = [] from h]; exact rfl
 | b :: l, _, 0, ⟨c, xs', e, h1, h2⟩ => by
  have hc := E.len h1
  rw [hs] at hc
  match c, hc with
  | [x], _ => subst e; exact ⟨[u], xs', rfl, hu, h2⟩
 | b :: l, _, i + 1, ⟨c, xs', e, h1, h2⟩ => by
  have hc := E.len h1
  rw [hs] at hc
  match c, hc with
  | [x], _ => subst e; exact ⟨[x], xs'.set i u, rfl, h1, h2.set1 hs hu i⟩
theorem EQ.set1 {E : Elt α} {T : TypeId} {w : World} {base : Nat} {g o n cap : Nat} {l : List α} (h : EQ E T w base (.slice (some ⟨g, o, none⟩) n cap) n l) (hs : E.size = 1) (hOk : E.Ok w g) {a : α} {u : Value} (hu : E.R w base a [u]) (i : Nat) (hi : i < n) : EQ E T (w.setCell ⟨g, o + i, none⟩ u) base (.slice (some ⟨g, o, none⟩) n cap) n (l.set i a) := by
 obtain ⟨h0, xs, h1, h2⟩ := h
 have hst : Still [g] w (w.setCell ⟨g, o + i, none⟩ u) := still_sc w g (o + i) u
 refine ⟨by rw [List.length_set]; exact h0, xs.set i u, h1.set i (by rw [hs, Nat.mul_one]; exact hi) u, ?_⟩
 exact (h2.set1 hs hu i).mono fun _ _ h => E.still h hst (by simpa using hOk)
theorem Ows.behind {base : Nat} {E : TypeId} {size g o n cap : Nat} {xs : List Value} : ∀ (vs : List Value) (p : Nat) {w : World}, Ows w base E size (.slice (some ⟨g, o, none⟩) n cap) n xs → o + n * size ≤ p → Ows (w.setCells g p vs) base E size (.slice (some ⟨g, o, none⟩) n cap) n xs
 | [], _, _, h, _ => h
 | v :: vs, p, w, h, hp => by
  refine Ows.behind vs (p + 1) ?_ (by omega)
  obtain ⟨h1, ⟨h2, _⟩ | ⟨g', o', cap', cur, he, hg, hh, hn, hc, hs, ht⟩⟩ := h
  ·cases h2
  ·cases he
   refine ⟨h1, .inr ⟨g, o, cap, cur.setIfInBounds p v, rfl, hg, ?_, hn, hc, by simpa using hs, ?_⟩⟩
   ·simp [World.setCell, Array.getElem?_modify, hh]
   ·rw [Array.toList_setIfInBounds, List.drop_set, if_neg (by omega), List.take_set_of_le (by omega), ht]
theorem still_stCells (g : Nat) : ∀ (vs : List Value) (p : Nat) (w : World), Still [g] w (w.setCells g p vs)
 | [], _, w => Still.of_below (Below.refl _ _)
 | v :: vs, p, w => (still_sc w g p v).trans (still_stCells g vs (p + 1) _)
theorem EQ.behind {E : Elt α} {T : TypeId} {w : World} {base : Nat} {g o n cap : Nat} {l : List α} (h : EQ E T w base (.slice (some ⟨g, o, none⟩) n cap) n l) (hOk : E.Ok w g) (vs : List Value) (p : Nat) (hp : o + n * E.size ≤ p) : EQ E T (w.setCells g p vs) base (.slice (some ⟨g, o, none⟩) n cap) n l := by
 obtain ⟨h0, xs, h1, h2⟩ := h
 exact ⟨h0, xs, h1.behind vs p hp, h2.mono fun _ _ h => E.still h (still_stCells g vs p w) (by simpa using hOk)⟩
theorem EQ.new1 {E : Elt α} (w : World) (T : TypeId) (base : Nat) (a : α) (c : List Value) (hr : E.R (w.alloc (.cells c.toArray T)) base a c) (hb : base ≤ w.heap.size) : EQ E T (w.alloc (.cells c.toArray T)) base (.slice (some ⟨w.heap.size, 0, Option.none⟩) 1 1) 1 [a] := by
 have hl := E.len hr
 refine ⟨rfl, c, ⟨by rw [hl]; omega, .inr ⟨w.heap.size, 0, 1, c.toArray, rfl, hb, heap_alloc_new w _, Nat.le_refl _, by decide, by simp; omega, ?_⟩⟩, EL.single hr⟩
 rw [List.drop_zero, List.take_of_length_le (by simp; omega)]
theorem EQ.frz {E : Elt α} {T : TypeId} {w : World} {base : Nat} {g o n cap : Nat} {l : List α} (h : EQ E T w base (.slice (some ⟨g, o, none⟩) n cap) n l) (h0 : 0 < n) (j : Nat) : w.frozen? ⟨g, j, none⟩ = false := by
 obtain ⟨_, xs, h1, _⟩ := h
 obtain ⟨g', o', cap', he, _, _, _, _, _, hf⟩ := h1.form h0
 cases he
 exact hf j
end Go.Proofs.YtafhnlnhflehhaaDoor
