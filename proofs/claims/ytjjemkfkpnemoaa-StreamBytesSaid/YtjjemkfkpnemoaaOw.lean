/- Slices of the call's own, of elements of one cell: append of one element, reading, storing; what a loop's relation says of them. No condition but the sizes' bound. -/
import Derived.Test.YtjjemkfkpnemoaaRg
import Derived.Deep.AppendLies
import Derived.Deep.MidRow
import Derived.Laws.OwnMore
namespace Go.Proofs.Ytjjemkfkpnemoaa
open Go.RowKit

/-- The type's facts: a slice of elements of so many cells, so many bytes. -/
structure SlT (P : Program) (T E : TypeId) (size bytes : Nat) : Prop where
  ht : P.underlying T = some (.slice E)
  ex : ∃ i z, P.info? E = some i ∧ i.zero = some z ∧ i.size = size ∧ i.bytes = bytes ∧ z.cells.size = size
  pos : 0 < size

theorem SlT.mk' {P : Program} {T E : TypeId} {size bytes : Nat} (ht : P.underlying T = some (.slice E)) (hi : (P.info? E).map (fun i => (i.zero.map (·.cells.size), i.size, i.bytes)) = some (some size, size, bytes)) (hp : 0 < size) : SlT P T E size bytes := by
  refine ⟨ht, ?_, hp⟩
  cases h : P.info? E with
  | none => simp [h] at hi
  | some i =>
    simp only [h, Option.map_some, Option.some.injEq, Prod.mk.injEq] at hi
    obtain ⟨h1, h2, h3⟩ := hi
    cases hz : i.zero with
    | none => simp [hz] at h1
    | some z => simp [hz] at h1; exact ⟨i, z, rfl, hz, h2, h3, h1⟩

/-- v is nil, or the head of a block of the call's own (from base on), that holds the values xs. -/
def Own (w : World) (base : Nat) (E : TypeId) (v : Value) (xs : List Value) : Prop := w.ownsRow base E 1 v xs.length xs

theorem Own.nil (w : World) (base : Nat) (E : TypeId) : Own w base E (.slice none 0 0) [] := ⟨rfl, .inl ⟨rfl, rfl⟩⟩
theorem Own.form {w : World} {base : Nat} {E : TypeId} {v : Value} {xs : List Value} (h : Own w base E v xs) {n : Nat} (hx : xs.length = n) (h0 : 0 < n) :
    ∃ g cap, v = .slice (some ⟨g, 0, none⟩) n cap ∧ base ≤ g ∧ g < w.heap.size ∧ n ≤ cap ∧ cap ≤ maxLen ∧ (∀ i, i < n → w.cell? ⟨g, i, none⟩ = xs[i]?) ∧ ∀ i, w.frozen? ⟨g, i, none⟩ = false := by
  subst hx
  obtain ⟨h1, ⟨_, h2⟩ | ⟨g, cap, cur, rfl, hb, hh, hn, hc, hs, ht⟩⟩ := h
  · omega
  · have hlt : g < w.heap.size := by
      rcases Nat.lt_or_ge g w.heap.size with h | h
      · exact h
      · simp [h] at hh
    refine ⟨g, cap, rfl, hb, hlt, hn, hc, fun i hi => ?_, fun i => by simp [World.frozen?, hh]⟩
    have : cur[i]? = (cur.toList.take (xs.length * 1))[i]? := by
      rw [List.getElem?_take, if_pos (by omega)]; simp
    rw [ht] at this
    simp only [World.cell?, hh, Option.isSome_none, Bool.false_eq_true, if_false]
    exact this
theorem Own.len {w : World} {base : Nat} {E : TypeId} {v : Value} {xs : List Value} (h : Own w base E v xs) : ∃ sa cap, v = .slice sa xs.length cap ∧ xs.length ≤ cap ∧ cap ≤ maxLen := by
  obtain ⟨h1, ⟨rfl, h2⟩ | ⟨g, cap, cur, rfl, hb, hh, hn, hc, hs, ht⟩⟩ := h
  · exact ⟨none, 0, by rw [h2], by omega, by decide⟩
  · exact ⟨_, cap, rfl, hn, hc⟩
theorem Own.still {w w' : World} {base : Nat} {E : TypeId} {v : Value} {xs : List Value} {S : List Nat} (h : Own w base E v xs) (hs : Still S w w') (hS : ∀ g, v.ownBlock = some g → g ∉ S) : Own w' base E v xs := by
  obtain ⟨h1, h2 | ⟨g, cap, cur, rfl, hg, hh, r⟩⟩ := h
  · exact ⟨h1, .inl h2⟩
  · exact ⟨h1, .inr ⟨g, cap, cur, rfl, hg, by rw [hs.block g (Array.getElem?_eq_some_iff.1 hh).1 (hS g rfl), hh], r⟩⟩
theorem Own.below {w w' : World} {base B : Nat} {E : TypeId} {v : Value} {xs : List Value} (h : Own w base E v xs) (hb : Below B w w') (hB : w.heap.size ≤ B) : Own w' base E v xs :=
  h.still (Still.of_below (S := []) (hb.mono hB)) (by simp)
theorem Own.new (w : World) (base : Nat) (E : TypeId) (c : Array Value) (xs : List Value) (n : Nat) (hb : base ≤ w.heap.size) (hn : n = xs.length) (hm : n ≤ maxLen) (hc : c.toList = xs) :
    Own (w.alloc (.cells c E)) base E (.slice (some ⟨w.heap.size, 0, none⟩) n n) xs := by
  subst hn
  have hsz : c.size = xs.length := by rw [← Array.length_toList, hc]
  refine ⟨by simp, .inr ⟨w.heap.size, xs.length, c, rfl, hb, ?_, Nat.le_refl _, hm, by omega, ?_⟩⟩
  · show (w.heap.push _)[w.heap.size]? = _; simp
  · rw [hc, List.take_of_length_le (by omega)]
theorem Own.alloc {w : World} {base : Nat} {E : TypeId} {v : Value} {xs : List Value} (h : Own w base E v xs) (o : Obj) : Own (w.alloc o) base E v xs := World.ownsRow.alloc h o
/-- What the own slice leads to is left alone by a store elsewhere. -/
theorem Own.set_other {w : World} {base : Nat} {E : TypeId} {v : Value} {xs : List Value} (h : Own w base E v xs) {p : Addr} (hp : ∀ g, v.ownBlock = some g → g ≠ p.block) (u : Value) : Own (w.setCell p u) base E v xs := by
  obtain ⟨h1, h2 | ⟨g, cap, cur, rfl, hg, hh, r⟩⟩ := h
  · exact ⟨h1, .inl h2⟩
  · exact ⟨h1, .inr ⟨g, cap, cur, rfl, hg, by rw [Below.heap_setCell _ _ _ _ (hp g rfl), hh], r⟩⟩
theorem Own.set {w : World} {base : Nat} {E : TypeId} {g n cap : Nat} {xs : List Value} (h : Own w base E (.slice (some ⟨g, 0, none⟩) n cap) xs) (i : Nat) (hi : i < xs.length) (u : Value) : Own (w.setCell ⟨g, i, none⟩ u) base E (.slice (some ⟨g, 0, none⟩) n cap) (xs.set i u) := by
  obtain ⟨h1, ⟨h2, _⟩ | ⟨g', cap', cur, he, hg, hh, hn, hc, hs, ht⟩⟩ := h
  · cases h2
  · cases he
    refine ⟨by simp, .inr ⟨g, cap, cur.setIfInBounds i u, by simp, hg, ?_, by simpa using hn, hc, by simpa using hs, ?_⟩⟩
    · simp [World.setCell, Array.getElem?_modify, hh]
    · rw [Array.toList_setIfInBounds, List.length_set, List.take_set, ht]
theorem Own.grown {w w' : World} {B base : Nat} (hB : B ≤ w.heap.size) (hb : B ≤ base) {E : TypeId} {v : Value} {xs : List Value} (h : Own w base E v xs) (hg : w.grownBy w' v.ownBlock) : Below B w w' := by
  refine (Below.refl B w).grown hg hB fun k hk => ?_
  obtain ⟨h1, ⟨rfl, _⟩ | ⟨g, cap, cur, rfl, hb', _⟩⟩ := h
  · simp [Value.ownBlock] at hk
  · simp [Value.ownBlock] at hk; omega
theorem Own.up {w : World} {base base' : Nat} {E : TypeId} {v : Value} {xs : List Value} (h : Own w base E v xs) (hb : base' ≤ base) : Own w base' E v xs := by
  obtain ⟨h1, h2 | ⟨g, cap, cur, rfl, hg, r⟩⟩ := h
  · exact ⟨h1, .inl h2⟩
  · exact ⟨h1, .inr ⟨g, cap, cur, rfl, Nat.le_trans hb hg, r⟩⟩

section
variable {P : Program}
/-- append(s, x), x one new element. -/
theorem wp_ap1 {T E : TypeId} {bytes : Nat} (hT : SlT P T E 1 bytes) {o : Oper} {a : Act} {w : World} {K : Act → World → Prop} {Q : Exit → Act → World → Prop} (s x : Operand)
    (ho : o.op = .call { callee := .builtin .append, args := #[s, x], argTypes := #[T, T] }) (base : Nat) (v : Value) (xs : List Value) (hs : a.eval s = v) (hown : Own w base E v xs) {n : Nat} (hn : xs.length = n)
    (b : Nat) (hx : a.eval x = .slice (some ⟨b, 0, none⟩) 1 1) (u : Value) (hu : w.cell? ⟨b, 0, none⟩ = some u) (h1 : u.oneCell' = true) (hsz : (n + 1) * bytes ≤ 140737488355328) (hb1 : 1 ≤ bytes) (hbase : base ≤ w.heap.size)
    (h : ∀ g cap w', Own w' base E (.slice (some ⟨g, 0, none⟩) (n + 1) cap) (xs ++ [u]) → w.grownBy w' v.ownBlock → K (a.put o.dst (.slice (some ⟨g, 0, none⟩) (n + 1) cap)) w') : o.wp P a w K Q := by
  subst hn
  obtain ⟨i, z, hi, hz, h2, h3, h4⟩ := hT.ex
  have hbig : xs.length + 1 ≤ (xs.length + 1) * bytes := Nat.le_mul_of_pos_right _ hb1
  refine wp_append_lies w s x T ho base E i z 1 bytes hT.ht hi hz h2 h3 h4 (by omega) v xs.length xs hs hown ⟨b, 0, none⟩ 1 1 [u] hx rfl (fun j u' hj => ?_) (by simpa using h1) (by omega) (by unfold maxLen; omega) hsz hbase _ rfl fun g cap w' k1 k2 _ _ => h g cap w' (by unfold Own; rw [List.length_append]; exact k1) k2
  cases j with
  | zero => simp at hj; subst hj; rw [Addr.add_mid]; exact hu
  | succ j => simp at hj
theorem wpList_ap1 {T E : TypeId} {bytes : Nat} (hT : SlT P T E 1 bytes) {ops : Array Oper} {rest : List Oper} {o : Oper} {a : Act} {w : World} {Q : Exit → Act → World → Prop} (hgd : o.guard = none) (s x : Operand)
    (ho : o.op = .call { callee := .builtin .append, args := #[s, x], argTypes := #[T, T] }) (base : Nat) (v : Value) (xs : List Value) (hs : a.eval s = v) (hown : Own w base E v xs) {n : Nat} (hn : xs.length = n)
    (b : Nat) (hx : a.eval x = .slice (some ⟨b, 0, none⟩) 1 1) (u : Value) (hu : w.cell? ⟨b, 0, none⟩ = some u) (h1 : u.oneCell' = true) (hsz : (n + 1) * bytes ≤ 140737488355328) (hb1 : 1 ≤ bytes) (hbase : base ≤ w.heap.size)
    (h : ∀ g cap w', Own w' base E (.slice (some ⟨g, 0, none⟩) (n + 1) cap) (xs ++ [u]) → w.grownBy w' v.ownBlock → wpList P ops Q rest (a.put o.dst (.slice (some ⟨g, 0, none⟩) (n + 1) cap)) w') : wpList P ops Q (o :: rest) a w :=
  wpList_plain hgd fun _ hK => wp_ap1 hT s x ho base v xs hs hown hn b hx u hu h1 hsz hb1 hbase fun g cap w' k1 k2 => hK _ _ (h g cap w' k1 k2)
end

theorem Still.heap {S : List Nat} {w w' : World} (h : Still S w w') {b : Nat} {o : Obj} (hb : w.heap[b]? = some o) (hs : b ∉ S) : w'.heap[b]? = some o := by
  rw [h.block b (Array.getElem?_eq_some_iff.1 hb).1 hs]; exact hb
theorem heap_ne {w : World} {a b : Nat} {c1 c2 : Array Value} {t1 t2 : TypeId} {f1 f2 : Nat × Nat} (h1 : w.heap[a]? = some (.cells c1 t1 f1)) (h2 : w.heap[b]? = some (.cells c2 t2 f2)) (ht : t1 ≠ t2) : a ≠ b := fun e => by
  subst e; rw [h1] at h2; cases h2; exact ht rfl
theorem heap_set {w : World} {b : Nat} {c : Array Value} {t : TypeId} {f : Nat × Nat} (h : w.heap[b]? = some (.cells c t f)) (i : Nat) (u : Value) : (w.setCell ⟨b, i, none⟩ u).heap[b]? = some (.cells (c.setIfInBounds i u) t f) := by
  simp [World.setCell, Array.getElem?_modify, h]
theorem heap_cell {w : World} {b : Nat} {c : Array Value} {t : TypeId} {f : Nat × Nat} (h : w.heap[b]? = some (.cells c t f)) (i : Nat) : w.cell? ⟨b, i, none⟩ = c[i]? := by simp [World.cell?, h]
theorem below_heap {B : Nat} {w w' : World} (h : Below B w w') {b : Nat} {o : Obj} (hb : w.heap[b]? = some o) (hB : b < B) : w'.heap[b]? = some o := by rw [h.block b hB]; exact hb
theorem cell_new0 (w : World) (u : Value) (t : TypeId) : (w.alloc (.cells #[u] t)).cell? ⟨w.heap.size, 0, none⟩ = some u := by simp [go_sem]
end Go.Proofs.Ytjjemkfkpnemoaa
