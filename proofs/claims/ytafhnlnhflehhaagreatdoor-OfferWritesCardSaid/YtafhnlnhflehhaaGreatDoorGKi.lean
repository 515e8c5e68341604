/- Slices: of the call's own (from any place of a block), and such as are read; append onto them, whatever is appended; pieces of them. Nothing of the program; no condition but the sizes' bound. Plain laws on SHA-1 over numbers: no program in sight. Bytes as lists of numbers: slices of bytes read, and of the call's own. Worlds that only grew: 'BW a b': all that was there in a stands in b. How readings go along. Nothing of the program; no condition. Pieces of slices, s[lo:hi], at a place that need not be known: one value, whatever the capacity. No condition. -/
import Derived.Test.YtafhnlnhflehhaaGreatDoorRg
import Derived.Deep.AppendSrc
import Derived.Deep.MidRow
import Derived.Laws.OwnMore
import Init.Data.List.Lemmas
import Derived.Laws.Slices
namespace Go.Proofs.YtafhnlnhflehhaaGreatDoor
open Go.RowKit
structure SlTy (P : Program) (T E : TypeId) (size bytes : Nat) : Prop where
 ht : P.underlying T = some (.slice E)
 ex : ∃ i z, P.info? E = some i ∧ i.zero = some z ∧ i.size = size ∧ i.bytes = bytes ∧ z.cells.size = size
 pos : 0 < size
 bpos : 1 ≤ bytes
theorem SlTy.mk' {P : Program} {T E : TypeId} {size bytes : Nat} (ht : P.underlying T = some (.slice E)) (hi : (P.info? E).map (fun i => (i.zero.map (·.cells.size), i.size, i.bytes)) = some (some size, size, bytes)) (hp : (0 < size) ∧ 1 ≤ bytes) : SlTy P T E size bytes := by
 refine ⟨ht, ?_, hp.1, hp.2⟩
 cases h : P.info? E with
 | none => simp [h] at hi
 | some i =>
  simp only [h, Option.map_some, Option.some.injEq, Prod.mk.injEq] at hi
  obtain ⟨h1, h2, h3⟩ := hi
  cases hz : i.zero with
  | none => simp [hz] at h1
  | some z => simp [hz] at h1; exact ⟨i, z, rfl, hz, h2, h3, h1⟩
def Sls (w : World) (size : Nat) (v : Value) (n : Nat) (xs : List Value) : Prop :=
 xs.length = n * size ∧ n ≤ maxLen ∧ ((n = 0 ∧ ∃ sa cp, v = .slice sa 0 cp ∧ (sa = none → cp = 0) ∧ cp ≤ maxLen) ∨
  ∃ b o cap, v = .slice (some ⟨b, o, none⟩) n cap ∧ n ≤ cap ∧ cap ≤ maxLen ∧ b < w.heap.size ∧ ∀ j, j < n * size → w.cell? ⟨b, o + j, none⟩ = xs[j]?)
def Ows (w : World) (base : Nat) (E : TypeId) (size : Nat) (v : Value) (n : Nat) (xs : List Value) : Prop :=
 xs.length = n * size ∧ ((v = .slice none 0 0 ∧ n = 0) ∨
  ∃ g o cap cur, v = .slice (some ⟨g, o, none⟩) n cap ∧ base ≤ g ∧ w.heap[g]? = some (.cells cur E (0, 0)) ∧ n ≤ cap ∧ cap ≤ maxLen ∧ o + cap * size ≤ cur.size ∧ (cur.toList.drop o).take (n * size) = xs)
theorem Ows.nil (w : World) (base : Nat) (E : TypeId) (size : Nat) : Ows w base E size (.slice none 0 0) 0 [] := ⟨by simp, .inl ⟨rfl, rfl⟩⟩
theorem Ows.row {w : World} {base : Nat} {E : TypeId} {size : Nat} {v : Value} {n : Nat} {xs : List Value} (h : w.ownsRow base E size v n xs) : Ows w base E size v n xs := by
 obtain ⟨h1, h2 | ⟨g, cap, cur, rfl, hb, hh, hn, hc, hs, ht⟩⟩ := h
 ·exact ⟨h1, .inl h2⟩
 ·exact ⟨h1, .inr ⟨g, 0, cap, cur, rfl, hb, hh, hn, hc, by omega, by simpa using ht⟩⟩
theorem Ows.new (w : World) (base : Nat) (E : TypeId) (size : Nat) (c : Array Value) (xs : List Value) (n : Nat) (hb : base ≤ w.heap.size) (hn : xs.length = n * size) (hm : n ≤ maxLen) (hc : c.toList = xs) :
  Ows (w.alloc (.cells c E)) base E size (.slice (some ⟨w.heap.size, 0, none⟩) n n) n xs := by
 have hsz : c.size = xs.length := by rw [← Array.length_toList, hc]
 refine ⟨hn, .inr ⟨w.heap.size, 0, n, c, rfl, hb, ?_, Nat.le_refl _, hm, by omega, ?_⟩⟩
 ·show (w.heap.push _)[w.heap.size]? = _; simp
 ·rw [List.drop_zero, hc, List.take_of_length_le (by omega)]
theorem Ows.lt {w : World} {base : Nat} {E : TypeId} {size : Nat} {v : Value} {n : Nat} {xs : List Value} (h : Ows w base E size v n xs) : ∀ k, v.ownBlock = some k → base ≤ k ∧ k < w.heap.size := by
 obtain ⟨h1, ⟨rfl, _⟩ | ⟨g, o, cap, cur, rfl, hb, hh, r⟩⟩ := h
 ·intro k hk; cases hk
 ·intro k hk; cases hk; exact ⟨hb, (Array.getElem?_eq_some_iff.1 hh).1⟩
theorem Ows.still {w w' : World} {base : Nat} {E : TypeId} {size : Nat} {v : Value} {n : Nat} {xs : List Value} {S : List Nat} (h : Ows w base E size v n xs) (hs : Still S w w') (hS : ∀ g, v.ownBlock = some g → g ∉ S) : Ows w' base E size v n xs := by
 obtain ⟨h1, h2 | ⟨g, o, cap, cur, rfl, hg, hh, r⟩⟩ := h
 ·exact ⟨h1, .inl h2⟩
 ·exact ⟨h1, .inr ⟨g, o, cap, cur, rfl, hg, by rw [hs.block g (Array.getElem?_eq_some_iff.1 hh).1 (hS g rfl), hh], r⟩⟩
theorem Ows.below {w w' : World} {base B : Nat} {E : TypeId} {size : Nat} {v : Value} {n : Nat} {xs : List Value} (h : Ows w base E size v n xs) (hb : Below B w w') (hB : w.heap.size ≤ B) : Ows w' base E size v n xs :=
 h.still (Still.of_below (S := []) (hb.mono hB)) (by simp)
theorem Ows.up {w : World} {base base' : Nat} {E : TypeId} {size : Nat} {v : Value} {n : Nat} {xs : List Value} (h : Ows w base E size v n xs) (hb : base' ≤ base) : Ows w base' E size v n xs := by
 obtain ⟨h1, h2 | ⟨g, o, cap, cur, rfl, hg, r⟩⟩ := h
 ·exact ⟨h1, .inl h2⟩
 ·exact ⟨h1, .inr ⟨g, o, cap, cur, rfl, Nat.le_trans hb hg, r⟩⟩
theorem Ows.alloc {w : World} {base : Nat} {E : TypeId} {size : Nat} {v : Value} {n : Nat} {xs : List Value} (h : Ows w base E size v n xs) (ob : Obj) : Ows (w.alloc ob) base E size v n xs :=
 h.still (S := []) (Still.of_below ((Below.refl _ _).alloc (Nat.le_refl _) _)) (by simp)
theorem Ows.ne {w : World} {base : Nat} {E : TypeId} {size : Nat} {v : Value} {n : Nat} {xs : List Value} (h : Ows w base E size v n xs) {b : Nat} {cs : Array Value} {t : TypeId} {fr : Nat × Nat} (hb : w.heap[b]? = some (.cells cs t fr)) (ht : t ≠ E) : ∀ g, v.ownBlock = some g → g ≠ b := by
 obtain ⟨h1, ⟨rfl, _⟩ | ⟨g, o, cap, cur, rfl, hg, hh, r⟩⟩ := h
 ·intro g hg; cases hg
 ·intro g' hg' e
  cases hg'
  subst e
  rw [hb] at hh
  cases hh
  exact ht rfl
theorem Ows.form {w : World} {base : Nat} {E : TypeId} {size : Nat} {v : Value} {n : Nat} {xs : List Value} (h : Ows w base E size v n xs) (h0 : 0 < n) :
  ∃ g o cap, v = .slice (some ⟨g, o, none⟩) n cap ∧ base ≤ g ∧ g < w.heap.size ∧ n ≤ cap ∧ cap ≤ maxLen ∧ (∀ j, j < n * size → w.cell? ⟨g, o + j, none⟩ = xs[j]?) ∧ ∀ j, w.frozen? ⟨g, j, none⟩ = false := by
 obtain ⟨h1, ⟨_, h2⟩ | ⟨g, o, cap, cur, rfl, hb, hh, hn, hc, hs, ht⟩⟩ := h
 ·omega
 ·refine ⟨g, o, cap, rfl, hb, (Array.getElem?_eq_some_iff.1 hh).1, hn, hc, fun j hj => ?_, fun i => by simp [World.frozen?, hh]⟩
  rw [← ht, List.getElem?_take, if_pos hj, List.getElem?_drop]
  simp [World.cell?, hh]
theorem Ows.len {w : World} {base : Nat} {E : TypeId} {size : Nat} {v : Value} {n : Nat} {xs : List Value} (h : Ows w base E size v n xs) : ∃ sa cap, v = .slice sa n cap ∧ n ≤ cap ∧ cap ≤ maxLen := by
 obtain ⟨h1, ⟨rfl, rfl⟩ | ⟨g, o, cap, cur, rfl, hb, hh, hn, hc, r⟩⟩ := h
 ·exact ⟨none, 0, rfl, Nat.le_refl _, by decide⟩
 ·exact ⟨_, cap, rfl, hn, hc⟩
theorem Ows.sls {w : World} {base : Nat} {E : TypeId} {size : Nat} {v : Value} {n : Nat} {xs : List Value} (h : Ows w base E size v n xs) : Sls w size v n xs := by
 have hl := h.1
 rcases Nat.eq_zero_or_pos n with h0 | h0
 ·subst h0
  obtain ⟨h1, ⟨rfl, _⟩ | ⟨g, o, cap, cur, rfl, _, _, _, hc, _⟩⟩ := h
  ·exact ⟨hl, by decide, .inl ⟨rfl, none, 0, rfl, fun _ => rfl, by decide⟩⟩
  ·exact ⟨hl, by decide, .inl ⟨rfl, _, cap, rfl, by simp, hc⟩⟩
 ·obtain ⟨g, o, cap, rfl, _, hlt, hn, hc, hcell, _⟩ := h.form h0
  exact ⟨hl, Nat.le_trans hn hc, .inr ⟨g, o, cap, rfl, hn, hc, hlt, hcell⟩⟩
theorem Ows.set {w : World} {base : Nat} {E : TypeId} {size : Nat} {g o n cap : Nat} {xs : List Value} (h : Ows w base E size (.slice (some ⟨g, o, none⟩) n cap) n xs) (j : Nat) (hj : j < n * size) (u : Value) : Ows (w.setCell ⟨g, o + j, none⟩ u) base E size (.slice (some ⟨g, o, none⟩) n cap) n (xs.set j u) := by
 obtain ⟨h1, ⟨h2, _⟩ | ⟨g', o', cap', cur, he, hg, hh, hn, hc, hs, ht⟩⟩ := h
 ·cases h2
 ·cases he
  refine ⟨by simpa using h1, .inr ⟨g, o, cap, cur.setIfInBounds (o + j) u, rfl, hg, ?_, hn, hc, by simpa using hs, ?_⟩⟩
  ·simp [World.setCell, Array.getElem?_modify, hh]
  ·rw [Array.toList_setIfInBounds, List.drop_set, if_neg (by omega), show o + j - o = j by omega, List.take_set, ht]
theorem Ows.drop {w : World} {base : Nat} {E : TypeId} {size : Nat} {g o n cap : Nat} {xs : List Value} (h : Ows w base E size (.slice (some ⟨g, o, none⟩) n cap) n xs) (d : Nat) (hd : d ≤ n) (o' : Nat) (ho : o' = o + d * size ∨ (cap = d ∧ o' = o)) : Ows w base E size (.slice (some ⟨g, o', none⟩) (n - d) (cap - d)) (n - d) (xs.drop (d * size)) := by
 obtain ⟨h1, ⟨h2, _⟩ | ⟨g', o1, cap', cur, he, hg, hh, hn, hc, hs, ht⟩⟩ := h
 ·cases h2
 ·cases he
  have hm1 : n * size = (n - d) * size + d * size := by rw [← Nat.add_mul]; congr 1; omega
  have hm2 : cap * size = (cap - d) * size + d * size := by rw [← Nat.add_mul]; congr 1; omega
  refine ⟨by rw [List.length_drop]; omega, .inr ⟨g, o', cap - d, cur, rfl, hg, hh, by omega, by omega, ?_, ?_⟩⟩
  ·rcases ho with ho | ⟨ho, ho'⟩ <;> omega
  ·rcases ho with ho | ⟨hc', ho'⟩
   ·rw [ho, ← ht, List.drop_take, List.drop_drop]
    congr 1; omega
   ·have hz : n - d = 0 := by omega
    have hz' : (n - d) * size = 0 := by rw [hz, Nat.zero_mul]
    rw [hz', List.take_zero, List.drop_of_length_le (by omega)]
theorem Sls.len {w : World} {size : Nat} {v : Value} {n : Nat} {xs : List Value} (h : Sls w size v n xs) : ∃ sa cap, v = .slice sa n cap ∧ n ≤ cap ∧ cap ≤ maxLen := by
 obtain ⟨h1, h2, ⟨rfl, sa, cp, rfl, hc, hm⟩ | ⟨b, o, cap, rfl, hn, hc, r⟩⟩ := h
 ·exact ⟨sa, cp, rfl, Nat.zero_le _, hm⟩
 ·exact ⟨_, cap, rfl, hn, hc⟩
theorem Sls.form {w : World} {size : Nat} {v : Value} {n : Nat} {xs : List Value} (h : Sls w size v n xs) (h0 : 0 < n) :
  ∃ b o cap, v = .slice (some ⟨b, o, none⟩) n cap ∧ n ≤ cap ∧ cap ≤ maxLen ∧ b < w.heap.size ∧ ∀ j, j < n * size → w.cell? ⟨b, o + j, none⟩ = xs[j]? := by
 obtain ⟨h1, h2, ⟨rfl, _⟩ | h⟩ := h
 ·omega
 ·exact h
theorem Sls.still {w w' : World} {size : Nat} {v : Value} {n : Nat} {xs : List Value} {S : List Nat} (h : Sls w size v n xs) (hs : Still S w w') (hS : ∀ g, v.ownBlock = some g → g ∉ S) : Sls w' size v n xs := by
 obtain ⟨h1, h2, h3 | ⟨b, o, cap, rfl, hn, hc, hb, hcell⟩⟩ := h
 ·exact ⟨h1, h2, .inl h3⟩
 ·refine ⟨h1, h2, .inr ⟨b, o, cap, rfl, hn, hc, Nat.lt_of_lt_of_le hb hs.size, fun j hj => ?_⟩⟩
  rw [← hcell j hj]
  exact World.cell?_of_block (hs.block b hb (hS b rfl))
theorem Sls.below {w w' : World} {size : Nat} {v : Value} {n : Nat} {xs : List Value} (h : Sls w size v n xs) {B : Nat} (hb : Below B w w') (hB : w.heap.size ≤ B) : Sls w' size v n xs :=
 h.still (Still.of_below (S := []) (hb.mono hB)) (by simp)
theorem Sls.alloc {w : World} {size : Nat} {v : Value} {n : Nat} {xs : List Value} (h : Sls w size v n xs) (o : Obj) : Sls (w.alloc o) size v n xs :=
 h.below ((Below.refl _ _).alloc (Nat.le_refl _) o) (Nat.le_refl _)
section
variable {P : Program} (w : World)
inductive App (P : Program) (w : World) (T : TypeId) (size : Nat) : (tx : TypeId) → (x : Value) → (m : Nat) → (ys : List Value) → Prop
 | sl (e' : TypeId) (tx : TypeId) (x : Value) (m : Nat) (ys : List Value) (hk : P.underlying tx = some (.slice e')) (h : Sls w size x m ys) (h1 : ∀ u ∈ ys, u.oneCell' = true) : App P w T size tx x m ys
 | str (tx : TypeId) (s : ByteArray) (hk : P.underlying tx = some .string) (hs : size = 1) : App P w T size tx (.string s) s.size (byteCells s)
theorem App.src {T : TypeId} {size : Nat} {tx : TypeId} {x : Value} {m : Nat} {ys : List Value} (h : App P w T size tx x m ys) : Src P size tx x m ys w := by
 cases h with
 | sl e' _ _ _ _ hk h h1 =>
  obtain ⟨hl, _, ⟨rfl, sa, cp, rfl, hc, _⟩ | ⟨b, o, cap, rfl, _, _, hb, hcell⟩⟩ := h
  ·have hy : ys = [] := List.eq_nil_of_length_eq_zero (by omega)
   subst hy
   cases sa with
   | none => exact Src.ofNil w hk cp
   | some a => exact Src.ofSlice w hk a 0 cp [] (by simp) (by simp) (by simp)
  ·refine Src.ofSlice w hk ⟨b, o, none⟩ m cap ys hl (fun j u hj => ?_) h1
   have hlt := (List.getElem?_eq_some_iff.1 hj).1
   rw [Addr.add_mid, hcell j (by omega), hj]
 | str _ s hk hs => subst hs; exact Src.ofString w hk s
theorem App.len {T : TypeId} {size : Nat} {tx : TypeId} {x : Value} {m : Nat} {ys : List Value} (h : App P w T size tx x m ys) : ys.length = m * size := (h.src w).newsLen
theorem setCells_heap_eq (b : Nat) : ∀ (vs : List Value) (o : Nat) (w : World) (cur : Array Value) (t : TypeId) (fr : Nat × Nat), w.heap[b]? = some (.cells cur t fr) → o + vs.length ≤ cur.size →
  ∃ cur' : Array Value, (w.setCells b o vs).heap[b]? = some (.cells cur' t fr) ∧ cur'.size = cur.size ∧ ∀ j, cur'.toList[j]? = if o ≤ j ∧ j < o + vs.length then vs[j - o]? else cur.toList[j]?
 | [], o, w, cur, t, fr, h, _ => ⟨cur, h, rfl, fun j => by rw [if_neg (by simp)]⟩
 | v :: vs, o, w, cur, t, fr, h, hs => by
  have h1 : (w.setCell ⟨b, o, none⟩ v).heap[b]? = some (.cells (cur.setIfInBounds o v) t fr) := by simp [World.setCell, Array.getElem?_modify, h]
  simp only [List.length_cons] at hs
  obtain ⟨cur', h2, h3, h4⟩ := setCells_heap_eq b vs (o + 1) _ _ _ _ h1 (by simp; omega)
  refine ⟨cur', h2, by simpa using h3, fun j => ?_⟩
  rw [h4 j]
  simp only [List.length_cons, Array.toList_setIfInBounds]
  by_cases hj : o + 1 ≤ j ∧ j < o + 1 + vs.length
  ·rw [if_pos hj, if_pos (by omega), show j - o = (j - (o + 1)) + 1 by omega, List.getElem?_cons_succ]
  ·rw [if_neg hj]
   by_cases hjo : j = o
   ·subst hjo
    rw [if_pos (by omega), List.getElem?_set_self (by simp; omega)]
    simp
   ·rw [if_neg (by omega), List.getElem?_set_ne (by omega)]
theorem setCells_other (b : Nat) : ∀ (vs : List Value) (o : Nat) (w : World) (k : Nat), k ≠ b → (w.setCells b o vs).heap[k]? = w.heap[k]?
 | [], _, _, _, _ => rfl
 | v :: vs, o, w, k, h => by
  show ((w.setCell ⟨b, o, none⟩ v).setCells b (o + 1) vs).heap[k]? = _
  rw [setCells_other b vs _ _ k h, Below.heap_setCell _ _ _ _ h]
theorem setCells_frame (b : Nat) : ∀ (vs : List Value) (o : Nat) (w : World), (w.setCells b o vs).os = w.os ∧ (w.setCells b o vs).tape = w.tape ∧ (w.setCells b o vs).output = w.output ∧ (w.setCells b o vs).heap.size = w.heap.size
 | [], _, _ => ⟨rfl, rfl, rfl, rfl⟩
 | v :: vs, o, w => by
  obtain ⟨h1, h2, h3, h4⟩ := setCells_frame b vs (o + 1) (w.setCell ⟨b, o, none⟩ v)
  exact ⟨h1, h2, h3, by show ((w.setCell ⟨b, o, none⟩ v).setCells b (o + 1) vs).heap.size = _; rw [h4]; simp [World.setCell]⟩
theorem run_append_ows {T E : TypeId} {size bytes : Nat} (hT : SlTy P T E size bytes) (tx ty : TypeId) (base : Nat) (v : Value) (n : Nat) (xs : List Value) (hown : Ows w base E size v n xs) (x : Value) (m : Nat) (ys : List Value) (hx : App P w T size tx x m ys)
  (hsz : (n + m) * bytes ≤ 140737488355328) (hbase : base ≤ w.heap.size) :
  ∃ v' w', (Builtin.append_ #[T, tx] ty #[v, x]).run P w = .ok v' w' ∧ Ows w' base E size v' (n + m) (xs ++ ys) ∧ w.grownBy w' v.ownBlock ∧ ∀ k, v'.ownBlock = some k → v.ownBlock = some k ∨ w.heap.size ≤ k := by
 obtain ⟨i, z, hi, hz, h2, h3, h4⟩ := hT.ex
 subst h2
 subst h3
 have hsrc := hx.src w
 have hlen : (xs ++ ys).length = (n + m) * i.size := by rw [List.length_append, hown.1, hsrc.newsLen, Nat.add_mul]
 have hbig : n + m ≤ (n + m) * i.bytes := Nat.le_mul_of_pos_right _ hT.bpos
 have hml : n + m ≤ maxLen := by unfold maxLen; omega
 have grown : ∀ (old : Nat) (sa : Option Addr), old < n + m → (Builtin.firstCells i.size n (.slice sa n old)).run P w.drew = .ok xs.toArray w.drew →
   ∃ v' w', (Builtin.append_ #[T, tx] ty #[.slice sa n old, x]).run P w = .ok v' w' ∧ Ows w' base E i.size v' (n + m) (xs ++ ys) ∧ (∀ row, w.grownBy w' row) ∧ ∀ k, v'.ownBlock = some k → w.heap.size ≤ k := by
  intro old sa ho hold
  have hr := run_append_grow_src (P := P) w T tx ty E i z hT.ht hi hz sa n old xs hold x m ys hsrc ho (by unfold maxLen at hml; omega) (growslice_fits (by omega) hsz)
  refine ⟨_, _, hr, ⟨hlen, .inr ⟨w.heap.size, 0, _, _, rfl, hbase, heap_alloc_new w.drew _, grownCap_ge w _ _ _, grownCap_le_maxLen w _ _ _ hml, ?_, ?_⟩⟩, fun row => ⟨rfl, rfl, rfl, by simp, fun k hk _ => heap_alloc_old w.drew _ k hk⟩, fun k hk => by cases hk; exact Nat.le_refl _⟩
  ·simp only [Array.size_append, List.size_toArray, size_zeroCells, h4, hlen, Nat.zero_add]
   have hge := grownCap_ge w (n + m) old E
   rw [← Nat.add_mul]
   exact Nat.mul_le_mul_right _ (by omega)
  ·simp only [Array.toList_append, List.drop_zero]
   rw [← hlen]
   exact List.take_left
 rcases hown with ⟨hl, ⟨rfl, rfl⟩ | ⟨g, o, cap, cur, rfl, hbg, hg, hnc, hcm, hcs, htake⟩⟩
 ·have hxs : xs = [] := List.eq_nil_of_length_eq_zero (by omega)
  subst hxs
  by_cases hm : m = 0
  ·subst hm
   have hy : ys = [] := List.eq_nil_of_length_eq_zero (by have := hsrc.newsLen; omega)
   subst hy
   refine ⟨.slice none 0 0, w, ?_, Ows.nil w base E i.size, ⟨rfl, rfl, rfl, Nat.le_refl _, fun _ _ _ => rfl⟩, fun k hk => by cases hk⟩
   rcases hsrc.kind with ⟨e', hk⟩ | hk <;> simp [Builtin.append_, run_underlying hT.ht, run_underlying hk, sizeOf, typeInfo, hi, hsrc.len, hsrc.cells]
  ·obtain ⟨v', w', e1, e2, e3, e4⟩ := grown 0 none (by omega) (run_firstCells_none w.drew i.size 0 0 0)
   exact ⟨v', w', e1, e2, e3 _, fun k hk => .inr (e4 k hk)⟩
 ·by_cases hroom : n + m ≤ cap
  ·have hfit : o + n * i.size + ys.length ≤ cur.size := by
    have : n * i.size + m * i.size ≤ cap * i.size := by rw [← Nat.add_mul]; exact Nat.mul_le_mul_right _ hroom
    rw [hsrc.newsLen]; omega
   have hr := run_append_room_src (P := P) w T tx ty E i hT.ht hi g o n cap x m ys hsrc hroom (fun j hj => by
     simp only [World.cell?, hg, Option.isSome_none, Bool.false_eq_true, if_false]
     rw [Array.getElem?_eq_getElem (by omega)]; rfl) (fun j hj => by simp [World.frozen?, hg])
   obtain ⟨cur', q1, q2, q3⟩ := setCells_heap_eq g ys (o + n * i.size) w cur E (0, 0) hg hfit
   obtain ⟨f1, f2, f3, f4⟩ := setCells_frame g ys (o + n * i.size) w
   refine ⟨_, _, hr, ⟨hlen, .inr ⟨g, o, cap, cur', rfl, hbg, q1, hroom, hcm, by rw [q2]; exact hcs, ?_⟩⟩, ⟨f1, f2, f3, by rw [f4]; exact Nat.le_refl _, fun k _ hk => setCells_other g ys _ w k (fun e => hk (by rw [e]; rfl))⟩, fun k hk => .inl hk⟩
   refine List.ext_getElem? fun j => ?_
   rw [List.getElem?_take]
   have hxl := hl
   by_cases hj : j < (n + m) * i.size
   ·rw [if_pos hj, List.getElem?_drop, q3]
    rw [Nat.add_mul] at hj
    by_cases hjn : j < n * i.size
    ·rw [if_neg (by omega), List.getElem?_append_left (by omega), ← htake, List.getElem?_take, if_pos hjn, List.getElem?_drop]
    ·rw [if_pos (by rw [hsrc.newsLen]; omega), List.getElem?_append_right (by omega)]
     congr 1; omega
   ·rw [if_neg hj, List.getElem?_eq_none (by omega)]
  ·have holds : (Builtin.firstCells i.size n (.slice (some ⟨g, o, none⟩) n cap)).run P w.drew = .ok xs.toArray w.drew := by
    refine run_firstCells_some w.drew i.size n ⟨g, o, none⟩ n cap xs hl (fun j u hj => ?_)
    have hlt := (List.getElem?_eq_some_iff.1 hj).1
    rw [Addr.add_mid, ← hj, ← htake, List.getElem?_take, if_pos (by omega), List.getElem?_drop]
    show w.cell? _ = _
    simp [World.cell?, hg]
   obtain ⟨v', w', e1, e2, e3, e4⟩ := grown cap _ (by omega) holds
   exact ⟨v', w', e1, e2, e3 _, fun k hk => .inr (e4 k hk)⟩
end
section
variable {P : Program}
theorem wp_append_run {o : Oper} {a : Act} {w w' : World} {K : Act → World → Prop} {Q : Exit → Act → World → Prop} (T tx : TypeId) (s x : Operand)
  (ho : o.op = .call { callee := .builtin .append, args := #[s, x], argTypes := #[T, tx] }) (v xv v' : Value) (hs : a.eval s = v) (hx : a.eval x = xv) (hr : ∀ ty, (Builtin.append_ #[T, tx] ty #[v, xv]).run P w = .ok v' w') (h : K (a.put o.dst v') w') : o.wp P a w K Q := by
 unfold Oper.wp execOp
 simp only [ho, resolve, invoke, builtin, Sem.run_bind, Sem.run_pure, Result.andThen_ok, List.map_toArray, List.map_cons, List.map_nil, hs, hx, hr]
 exact h
theorem wp_aps {T E : TypeId} {size bytes : Nat} (hT : SlTy P T E size bytes) {o : Oper} {a : Act} {w : World} {K : Act → World → Prop} {Q : Exit → Act → World → Prop} (tx : TypeId) (s x : Operand)
  (ho : o.op = .call { callee := .builtin .append, args := #[s, x], argTypes := #[T, tx] }) (base : Nat) (v : Value) (n : Nat) (xs : List Value) (hs : a.eval s = v) (hown : Ows w base E size v n xs) (xv : Value) (hx : a.eval x = xv) (m : Nat) (ys : List Value) (ha : App P w T size tx xv m ys)
  (hsz : (n + m) * bytes ≤ 140737488355328) (hbase : base ≤ w.heap.size)
  (h : ∀ v' w', Ows w' base E size v' (n + m) (xs ++ ys) → w.grownBy w' v.ownBlock → (∀ k, v'.ownBlock = some k → v.ownBlock = some k ∨ w.heap.size ≤ k) → K (a.put o.dst v') w') : o.wp P a w K Q := by
 have key : ∀ ty, ∃ v' w', (Builtin.append_ #[T, tx] ty #[v, xv]).run P w = .ok v' w' ∧ Ows w' base E size v' (n + m) (xs ++ ys) ∧ w.grownBy w' v.ownBlock ∧ ∀ k, v'.ownBlock = some k → v.ownBlock = some k ∨ w.heap.size ≤ k := fun ty => run_append_ows w hT tx ty base v n xs hown xv m ys ha hsz hbase
 obtain ⟨v', w', h1, h2, h3, h4⟩ := key 0
 exact wp_append_run T tx s x ho v xv v' hs hx (fun ty => by rw [← h1]; rfl) (h v' w' h2 h3 h4)
theorem Ows.grown {w w' : World} {B base : Nat} (hB : B ≤ w.heap.size) (hb : B ≤ base) {E : TypeId} {size : Nat} {v : Value} {n : Nat} {xs : List Value} (h : Ows w base E size v n xs) (hg : w.grownBy w' v.ownBlock) : Below B w w' :=
 (Below.refl B w).grown hg hB fun k hk => Nat.le_trans hb (h.lt k hk).1
end
end Go.Proofs.YtafhnlnhflehhaaGreatDoor

namespace Go.Proofs.YtafhnlnhflehhaaGreatDoor
def rol (x n : Nat) : Nat := (x <<< n) % 4294967296 ||| (x >>> (32 - n))
def numB (l : List Nat) : Nat := l.foldl (fun x c => x * 256 + c) 0
def wnext (bl W : List Nat) (t : Nat) : Nat := if t < 16 then numB ((bl.drop (4 * t)).take 4) else rol (W.getD (t - 3) 0 ^^^ W.getD (t - 8) 0 ^^^ W.getD (t - 14) 0 ^^^ W.getD (t - 16) 0) 1
def wl (bl : List Nat) : Nat → List Nat
 | 0 => []
 | t + 1 => (fun W => W ++ [wnext bl W t]) (wl bl t)
def fmix (t b c d : Nat) : Nat := if t < 20 then (b &&& c) ||| ((4294967295 - b) &&& d) else if t < 40 then b ^^^ c ^^^ d else if t < 60 then (b &&& c) ||| (b &&& d) ||| (c &&& d) else b ^^^ c ^^^ d
def kmix (t : Nat) : Nat := if t < 20 then 1518500249 else if t < 40 then 1859775393 else if t < 60 then 2400959708 else 3395469782
def vstep (x t : Nat) (v : List Nat) : List Nat :=
 [(rol (v.getD 0 0) 5 + fmix t (v.getD 1 0) (v.getD 2 0) (v.getD 3 0) + v.getD 4 0 + kmix t + x) % 4294967296, v.getD 0 0, rol (v.getD 1 0) 30, v.getD 2 0, v.getD 3 0]
def vt (W H : List Nat) : Nat → List Nat
 | 0 => H
 | t + 1 => vstep (W.getD t 0) t (vt W H t)
end Go.Proofs.YtafhnlnhflehhaaGreatDoor

namespace Go.Proofs.YtafhnlnhflehhaaGreatDoor
open Go.RowKit
def bvs (l : List Nat) : List Value := l.map fun n => Value.int .u8 (n : Nat)
theorem bvs_len (l : List Nat) : (bvs l).length = l.length := by simp [bvs]
theorem bvs_get (l : List Nat) (i : Nat) (h : i < l.length) : (bvs l)[i]? = some (.int .u8 (l.getD i 0 : Nat)) := by simp [bvs, List.getElem?_eq_getElem h]
def ByL (l : List Nat) : Prop := ∀ x ∈ l, x < 256
theorem ByL.get {l : List Nat} (h : ByL l) (i : Nat) : l.getD i 0 < 256 := by
 rw [List.getD_eq_getElem?_getD]
 rcases Nat.lt_or_ge i l.length with hi | hi
 ·rw [List.getElem?_eq_getElem hi]; exact h _ (List.getElem_mem hi)
 ·rw [List.getElem?_eq_none hi]; decide
theorem ByL.append {a b : List Nat} (ha : ByL a) (hb : ByL b) : ByL (a ++ b) := fun x hx => (List.mem_append.1 hx).elim (ha x) (hb x)
theorem ByL.take {a : List Nat} (ha : ByL a) (n : Nat) : ByL (a.take n) := fun x hx => ha x (List.mem_of_mem_take hx)
theorem ByL.drop {a : List Nat} (ha : ByL a) (n : Nat) : ByL (a.drop n) := fun x hx => ha x (List.mem_of_mem_drop hx)
def SB (w : World) (v : Value) (n : Nat) (l : List Nat) : Prop := l.length = n ∧ ByL l ∧ Sls w 1 v n (bvs l)
def OB (w : World) (base : Nat) (E : TypeId) (v : Value) (n : Nat) (l : List Nat) : Prop := l.length = n ∧ ByL l ∧ Ows w base E 1 v n (bvs l)
theorem OB.sb {w : World} {base : Nat} {E : TypeId} {v : Value} {n : Nat} {l : List Nat} (h : OB w base E v n l) : SB w v n l := ⟨h.1, h.2.1, h.2.2.sls⟩
theorem OB.below {w w' : World} {base B : Nat} {E : TypeId} {v : Value} {n : Nat} {l : List Nat} (h : OB w base E v n l) (hb : Below B w w') (hB : w.heap.size ≤ B) : OB w' base E v n l := ⟨h.1, h.2.1, h.2.2.below hb hB⟩
theorem OB.still {w w' : World} {base : Nat} {E : TypeId} {v : Value} {n : Nat} {l : List Nat} {S : List Nat} (h : OB w base E v n l) (hs : Still S w w') (hS : ∀ g, v.ownBlock = some g → g ∉ S) : OB w' base E v n l := ⟨h.1, h.2.1, h.2.2.still hs hS⟩
theorem OB.up {w : World} {base base' : Nat} {E : TypeId} {v : Value} {n : Nat} {l : List Nat} (h : OB w base E v n l) (hb : base' ≤ base) : OB w base' E v n l := ⟨h.1, h.2.1, h.2.2.up hb⟩
theorem OB.alloc {w : World} {base : Nat} {E : TypeId} {v : Value} {n : Nat} {l : List Nat} (h : OB w base E v n l) (o : Obj) : OB (w.alloc o) base E v n l := ⟨h.1, h.2.1, h.2.2.alloc o⟩
theorem OB.nil (w : World) (base : Nat) (E : TypeId) : OB w base E (.slice none 0 0) 0 [] := ⟨rfl, by simp [ByL], Ows.nil _ _ _ _⟩
theorem OB.len {w : World} {base : Nat} {E : TypeId} {v : Value} {n : Nat} {l : List Nat} (h : OB w base E v n l) : ∃ sa cap, v = .slice sa n cap ∧ n ≤ cap ∧ cap ≤ maxLen := h.2.2.len
theorem OB.form {w : World} {base : Nat} {E : TypeId} {v : Value} {n : Nat} {l : List Nat} (h : OB w base E v n l) (h0 : 0 < n) :
  ∃ g o cap, v = .slice (some ⟨g, o, none⟩) n cap ∧ base ≤ g ∧ g < w.heap.size ∧ n ≤ cap ∧ cap ≤ maxLen ∧ (∀ j, j < n → w.cell? ⟨g, o + j, none⟩ = some (.int .u8 (l.getD j 0 : Nat))) ∧ ∀ j, w.frozen? ⟨g, j, none⟩ = false := by
 obtain ⟨g, o, cap, hv, h1, h2, h3, h4, h5, h6⟩ := h.2.2.form h0
 refine ⟨g, o, cap, hv, h1, h2, h3, h4, fun j hj => ?_, h6⟩
 rw [h5 j (by omega), bvs_get _ _ (by rw [h.1]; exact hj)]
theorem OB.set {w : World} {base : Nat} {E : TypeId} {g o n cap : Nat} {l : List Nat} (h : OB w base E (.slice (some ⟨g, o, none⟩) n cap) n l) (j : Nat) (hj : j < n) (x : Nat) (hx : x < 256) : OB (w.setCell ⟨g, o + j, none⟩ (.int .u8 (x : Nat))) base E (.slice (some ⟨g, o, none⟩) n cap) n (l.set j x) := by
 refine ⟨by rw [List.length_set]; exact h.1, fun y hy => ?_, ?_⟩
 ·rcases List.mem_or_eq_of_mem_set hy with h1 | h1
  ·exact h.2.1 y h1
  ·rw [h1]; exact hx
 ·have := h.2.2.set j (by omega) (.int .u8 (x : Nat))
  have e : (bvs l).set j (.int .u8 (x : Nat)) = bvs (l.set j x) := by simp [bvs, List.map_set]
  rw [← e]; exact this
theorem SB.below {w w' : World} {v : Value} {n : Nat} {l : List Nat} (h : SB w v n l) {B : Nat} (hb : Below B w w') (hB : w.heap.size ≤ B) : SB w' v n l := ⟨h.1, h.2.1, h.2.2.below hb hB⟩
theorem SB.still {w w' : World} {v : Value} {n : Nat} {l : List Nat} {S : List Nat} (h : SB w v n l) (hs : Still S w w') (hS : ∀ g, v.ownBlock = some g → g ∉ S) : SB w' v n l := ⟨h.1, h.2.1, h.2.2.still hs hS⟩
theorem SB.alloc {w : World} {v : Value} {n : Nat} {l : List Nat} (h : SB w v n l) (o : Obj) : SB (w.alloc o) v n l := ⟨h.1, h.2.1, h.2.2.alloc o⟩
theorem SB.len {w : World} {v : Value} {n : Nat} {l : List Nat} (h : SB w v n l) : ∃ sa cap, v = .slice sa n cap ∧ n ≤ cap ∧ cap ≤ maxLen := h.2.2.len
theorem SB.form {w : World} {v : Value} {n : Nat} {l : List Nat} (h : SB w v n l) (h0 : 0 < n) :
  ∃ b o cap, v = .slice (some ⟨b, o, none⟩) n cap ∧ n ≤ cap ∧ cap ≤ maxLen ∧ b < w.heap.size ∧ ∀ j, j < n → w.cell? ⟨b, o + j, none⟩ = some (.int .u8 (l.getD j 0 : Nat)) := by
 obtain ⟨b, o, cap, hv, h1, h2, h3, h4⟩ := h.2.2.form h0
 refine ⟨b, o, cap, hv, h1, h2, h3, fun j hj => ?_⟩
 rw [h4 j (by omega), bvs_get _ _ (by rw [h.1]; exact hj)]
theorem SB.mk' {w : World} {b o n cap : Nat} {l : List Nat} (hl : l.length = n) (hb : ByL l) (hn : n ≤ cap) (hc : cap ≤ maxLen) (hw : b < w.heap.size) (h : ∀ j, j < n → w.cell? ⟨b, o + j, none⟩ = some (.int .u8 (l.getD j 0 : Nat))) : SB w (.slice (some ⟨b, o, none⟩) n cap) n l := by
 refine ⟨hl, hb, by rw [bvs_len]; omega, by omega, .inr ⟨b, o, cap, rfl, hn, hc, hw, fun j hj => ?_⟩⟩
 rw [h j (by omega), bvs_get _ _ (by omega)]
theorem SB.piece {w : World} {b o n cap : Nat} {l : List Nat} (h : SB w (.slice (some ⟨b, o, none⟩) n cap) n l) (lo len cap' : Nat) (h0 : 0 < n) (hlo : lo + len ≤ n) (hc : len ≤ cap') (hm : cap' ≤ maxLen) : SB w (.slice (some ⟨b, o + lo, none⟩) len cap') len ((l.drop lo).take len) := by
 obtain ⟨b', o', c', hv, _, _, hb, hcell⟩ := h.form h0
 cases hv
 refine SB.mk' (by rw [List.length_take, List.length_drop, h.1]; omega) ((h.2.1.drop lo).take len) hc hm hb fun j hj => ?_
 rw [Nat.add_assoc, hcell (lo + j) (by omega)]
 simp only [List.getD_eq_getElem?_getD, List.getElem?_take, if_pos hj, List.getElem?_drop]
theorem SB.new1 (w : World) (E : TypeId) (x : Nat) (hx : x < 256) : SB (w.alloc (.cells #[.int .u8 (x : Nat)] E)) (.slice (some ⟨w.heap.size, 0, none⟩) 1 1) 1 [x] :=
 SB.mk' rfl (by intro y hy; simp at hy; omega) (Nat.le_refl _) (by decide) (by simp) fun j hj => by
  obtain rfl : j = 0 := by omega
  simp [go_sem]
end Go.Proofs.YtafhnlnhflehhaaGreatDoor

namespace Go.Proofs.YtafhnlnhflehhaaGreatDoor
open Go.RowKit
def BW (a b : World) : Prop := Below a.heap.size a b
theorem BW.refl (a : World) : BW a a := Below.refl _ _
theorem BW.of {a b : World} (h : Below a.heap.size a b) : BW a b := h
theorem BW.bel {a b : World} (h : BW a b) : Below a.heap.size a b := h
theorem BW.size {a b : World} (h : BW a b) : a.heap.size ≤ b.heap.size := Below.size h
theorem BW.trans {a b c : World} (h : BW a b) (k : BW b c) : BW a c := Below.trans h (Below.mono k h.size)
theorem BW.trans' {a b c : World} (h : BW a b) {B : Nat} (k : Below B b c) (hB : a.heap.size ≤ B) : BW a c := Below.trans h (Below.mono k hB)
theorem BW.call {a b c : World} (h : BW a b) (k : Below b.heap.size b c) : BW a c := h.trans k
theorem BW.alloc {a b : World} (h : BW a b) {o : Obj} : BW a (b.alloc o) := Below.alloc h h.size o
theorem BW.drewN {a b : World} (h : BW a b) {k : Nat} : BW a (b.drewN k) := ⟨h.os, h.tape, h.output, @BW.size a b h, h.block⟩
theorem BW.drew {a b : World} (h : BW a b) : BW a b.drew := ⟨h.os, h.tape, h.output, @BW.size a b h, h.block⟩
theorem BW.still {a b : World} (h : BW a b) (S : List Nat) : Still S a b := Still.of_below h
theorem BW.set {a b : World} (h : BW a b) {g o : Nat} (hg : a.heap.size ≤ g) {v : Value} : BW a (b.setCell ⟨g, o, none⟩ v) := Below.setCell (p := ⟨g, o, none⟩) h hg v
theorem BW.row {a b : World} (h : BW a b) {g : Nat} (hg : a.heap.size ≤ g) (cs : Array Value) : BW a (b.setRow g cs) := by
 refine h.trans' ⟨rfl, rfl, rfl, by simp [World.setRow], fun k hk => ?_⟩ (Nat.le_refl _)
 simp only [World.setRow, Array.getElem?_modify]
 rw [if_neg (by omega)]
theorem BW.up {a b : World} (h : BW a b) {B : Nat} (hB : B ≤ a.heap.size) : Below B a b := Below.mono h hB
theorem BW.step {a b c : World} (h : BW a b) {B : Nat} (k : Below B b c) (hB : a.heap.size ≤ B) : BW a c := Below.trans h (Below.mono k hB)
theorem BW.cell {a b : World} (h : BW a b) {p : Addr} {v : Value} (hc : a.cell? p = some v) : b.cell? p = some v := by rw [Below.cell h (World.block_lt_of_cell? _ _ hc)]; exact hc
theorem BW.heap {a b : World} (h : BW a b) {k : Nat} {o : Obj} (hc : a.heap[k]? = some o) : b.heap[k]? = some o := by rw [h.block k (Array.getElem?_eq_some_iff.1 hc).1]; exact hc
theorem BW.lt {a b : World} (h : BW a b) {k : Nat} (hk : k < a.heap.size) : k < b.heap.size := Nat.lt_of_lt_of_le hk h.size
theorem Sls.bw {a b : World} {size : Nat} {v : Value} {n : Nat} {xs : List Value} (h : Sls a size v n xs) (hb : BW a b) : Sls b size v n xs := h.below hb (Nat.le_refl _)
theorem Ows.bw {a b : World} {base : Nat} {E : TypeId} {size : Nat} {v : Value} {n : Nat} {xs : List Value} (h : Ows a base E size v n xs) (hb : BW a b) : Ows b base E size v n xs := h.below hb (Nat.le_refl _)
theorem SB.bw {a b : World} {v : Value} {n : Nat} {l : List Nat} (h : SB a v n l) (hb : BW a b) : SB b v n l := h.below hb (Nat.le_refl _)
theorem OB.bw {a b : World} {base : Nat} {E : TypeId} {v : Value} {n : Nat} {l : List Nat} (h : OB a base E v n l) (hb : BW a b) : OB b base E v n l := h.below hb (Nat.le_refl _)
def HpB (w : World) (k : Nat) (o : Obj) : Prop := w.heap[k]? = some o
theorem HpB.bw {a b : World} {k : Nat} {o : Obj} (h : HpB a k o) (hb : BW a b) : HpB b k o := hb.heap h
theorem HpB.new (w : World) (o : Obj) : HpB (w.alloc o) w.heap.size o := heap_alloc_new w o
theorem HpB.lt {w : World} {k : Nat} {o : Obj} (h : HpB w k o) : k < w.heap.size := (Array.getElem?_eq_some_iff.1 h).1
theorem OB.base {a b : World} {E : TypeId} {v : Value} {n : Nat} {l : List Nat} (h : OB b a.heap.size E v n l) {base : Nat} (hb : base ≤ a.heap.size) : OB b base E v n l := h.up hb
theorem BW.ofStill {a b : World} (h : Still [] a b) : BW a b := h.below (Nat.le_refl _) (by simp)
theorem LaterS.bw {a : World} (x : LaterS [] a) : BW a x.now := BW.ofStill x.ok
theorem Ows.takeN {w : World} {base : Nat} {E : TypeId} {size : Nat} {sa : Option Addr} {n cap : Nat} {xs : List Value} (h : Ows w base E size (.slice sa n cap) n xs) (k : Nat) (hk : k ≤ n) : Ows w base E size (.slice sa k cap) k (xs.take (k * size)) := by
 have hm : k * size ≤ n * size := Nat.mul_le_mul_right _ hk
 obtain ⟨h1, ⟨h2, h3⟩ | ⟨g, o, cap', cur, he, hg, hh, hn, hc, hs, ht⟩⟩ := h
 ·cases h2
  obtain rfl : k = 0 := by omega
  exact ⟨by simp, .inl ⟨rfl, rfl⟩⟩
 ·cases he
  exact ⟨by rw [List.length_take]; omega, .inr ⟨g, o, cap, cur, rfl, hg, hh, by omega, hc, hs, by rw [← ht, List.take_take, Nat.min_eq_left hm]⟩⟩
theorem OB.takeN {w : World} {base : Nat} {E : TypeId} {sa : Option Addr} {n cap : Nat} {l : List Nat} (h : OB w base E (.slice sa n cap) n l) (k : Nat) (hk : k ≤ n) : OB w base E (.slice sa k cap) k (l.take k) := by
 refine ⟨by rw [List.length_take, h.1]; omega, h.2.1.take k, ?_⟩
 have := h.2.2.takeN k hk
 rw [Nat.mul_one] at this
 have e : (bvs l).take k = bvs (l.take k) := by simp [bvs, List.map_take]
 rw [← e]; exact this
def Apt (a b : Value) : Prop := ∀ j, a.ownBlock = some j → b.ownBlock = some j → False
theorem Apt.nil (b : Value) : Apt (.slice none 0 0) b := fun j h => by cases h
theorem Apt.symm {a b : Value} (h : Apt a b) : Apt b a := fun j h1 h2 => h j h2 h1
theorem Apt.grow {a a' b : Value} (h : Apt a b) {n : Nat} (hG : ∀ j, a'.ownBlock = some j → a.ownBlock = some j ∨ n ≤ j) (hb : ∀ j, b.ownBlock = some j → j < n) : Apt a' b := fun j h1 h2 => by
 rcases hG j h1 with h3 | h3
 ·exact h j h3 h2
 ·have := hb j h2; omega
theorem OB.lt' {w : World} {base : Nat} {E : TypeId} {v : Value} {n : Nat} {l : List Nat} (h : OB w base E v n l) : ∀ j, v.ownBlock = some j → j < w.heap.size := fun j hj => (h.2.2.lt j hj).2
theorem OB.ge' {w : World} {base : Nat} {E : TypeId} {v : Value} {n : Nat} {l : List Nat} (h : OB w base E v n l) : ∀ j, v.ownBlock = some j → base ≤ j := fun j hj => (h.2.2.lt j hj).1
theorem Still.cellN {S : List Nat} {w w' : World} (h : Still S w w') {a : Addr} {v : Value} (hc : w.cell? a = some v) (hs : a.block ∉ S) : w'.cell? a = some v := (LaterS.mk (S := S) w' h).cell hc hs
theorem HpB.st {w w' : World} {k : Nat} {o : Obj} {S : List Nat} (h : HpB w k o) (hs : Still S w w') (hk : k ∉ S) : HpB w' k o := (hs.block k h.lt hk).trans h
theorem Still.own3 {S0 S : List Nat} {a b c : World} (T : Still S0 a b) (h : Still S b c) (hS : ∀ k ∈ S, k ∈ S0 ∨ a.heap.size ≤ k) : Still S0 a c := by
 refine ⟨h.os.trans T.os, h.tape.trans T.tape, h.output.trans T.output, Nat.le_trans T.size h.size, fun k hk hs => ?_⟩
 rw [h.block k (Nat.lt_of_lt_of_le hk T.size) (fun hm => (hS k hm).elim hs (fun hl => Nat.lt_irrefl _ (Nat.lt_of_lt_of_le hk hl))), T.block k hk hs]
theorem BW.stP {a b c : World} (h : BW a b) {S : List Nat} (t : Still S b c) (hS : ∀ k ∈ S, a.heap.size ≤ k) : BW a c := h.step (t.below (B := a.heap.size) h.size hS) (Nat.le_refl _)
end Go.Proofs.YtafhnlnhflehhaaGreatDoor

namespace Go.Proofs.YtafhnlnhflehhaaGreatDoor
open Go.RowKit
def cutA (a : Option Addr) (lo cap size : Nat) : Option Addr := if cap = lo then a else a.map (·.add (lo * size))
theorem cutA_none {a : Option Addr} {lo cap size : Nat} (h : cutA a lo cap size = none) : a = none := by
 unfold cutA at h
 split at h
 ·exact h
 ·simpa using h
theorem cutA_zero (a : Option Addr) (cap size : Nat) : cutA a 0 cap size = a := by
 unfold cutA
 split
 ·rfl
 ·cases a with
  | none => rfl
  | some x => simp [Addr.add]
theorem Sls.cut {w : World} {size : Nat} {a : Option Addr} {n cap : Nat} {xs : List Value} (h : Sls w size (.slice a n cap) n xs) (lo hi cap' : Nat) (h1 : lo ≤ hi) (h2 : hi ≤ n) (h3 : hi ≤ cap') (h4 : cap' ≤ cap) :
  Sls w size (.slice (cutA a lo cap' size) (hi - lo) (cap' - lo)) (hi - lo) ((xs.drop (lo * size)).take ((hi - lo) * size)) := by
 have hm1 : hi * size = (hi - lo) * size + lo * size := by rw [← Nat.add_mul]; congr 1; omega
 have hm2 : hi * size ≤ n * size := Nat.mul_le_mul_right _ h2
 obtain ⟨k1, k2, k3⟩ := h
 refine ⟨by rw [List.length_take, List.length_drop]; omega, by omega, ?_⟩
 by_cases h0 : hi - lo = 0
 ·rw [h0]
  have hcap : cap ≤ maxLen ∧ (a = none → cap = 0) := by
   rcases k3 with ⟨_, sa, cp, he, hc, hm⟩ | ⟨b, o, cp, he, hn, hc, _⟩
   ·cases he; exact ⟨hm, hc⟩
   ·cases he; exact ⟨hc, fun h => by cases h⟩
  exact .inl ⟨rfl, _, _, rfl, fun hn => by have := hcap.2 (cutA_none hn); omega, by omega⟩
 ·rcases k3 with ⟨hn, _⟩ | ⟨b, o, cp, he, hn, hc, hlt, hcell⟩
  ·omega
  ·cases he
   have hne : ¬ cap' = lo := by omega
   refine .inr ⟨b, o + lo * size, cap' - lo, ?_, by omega, by omega, hlt, fun j hj => ?_⟩
   ·simp [cutA, if_neg hne, Addr.add]
   ·rw [List.getElem?_take, if_pos hj, List.getElem?_drop, Nat.add_assoc]
    exact hcell _ (by omega)
theorem Ows.cut {w : World} {base : Nat} {E : TypeId} {size : Nat} {a : Option Addr} {n cap : Nat} {xs : List Value} (h : Ows w base E size (.slice a n cap) n xs) (lo hi cap' : Nat) (h1 : lo ≤ hi) (h2 : hi ≤ n) (h3 : hi ≤ cap') (h4 : cap' ≤ cap) :
  Ows w base E size (.slice (cutA a lo cap' size) (hi - lo) (cap' - lo)) (hi - lo) ((xs.drop (lo * size)).take ((hi - lo) * size)) := by
 have hm1 : hi * size = (hi - lo) * size + lo * size := by rw [← Nat.add_mul]; congr 1; omega
 have hm2 : hi * size ≤ n * size := Nat.mul_le_mul_right _ h2
 have hm3 : cap' * size = (cap' - lo) * size + lo * size := by rw [← Nat.add_mul]; congr 1; omega
 have hm4 : cap' * size ≤ cap * size := Nat.mul_le_mul_right _ h4
 obtain ⟨k1, ⟨he, hn⟩ | ⟨g, o, cp, cur, he, hg, hh, hn, hc, hs, ht⟩⟩ := h
 ·cases he
  obtain rfl : hi = 0 := by omega
  obtain rfl : lo = 0 := by omega
  obtain rfl : cap' = 0 := by omega
  exact ⟨by simp, .inl ⟨by rw [cutA_zero], rfl⟩⟩
 ·cases he
  refine ⟨by rw [List.length_take, List.length_drop]; omega, .inr ?_⟩
  by_cases hne : cap' = lo
  ·refine ⟨g, o, cap' - lo, cur, by simp only [cutA, if_pos hne], hg, hh, by omega, by omega, ?_, ?_⟩
   ·rw [hne, Nat.sub_self, Nat.zero_mul]; omega
   ·rw [show hi - lo = 0 by omega]; simp
  ·refine ⟨g, o + lo * size, cap' - lo, cur, ?_, hg, hh, by omega, by omega, by omega, ?_⟩
   ·simp [cutA, if_neg hne, Addr.add]
   ·rw [← ht, List.drop_take, List.drop_drop, List.take_take]
    congr 1; omega
theorem SB.cut {w : World} {a : Option Addr} {n cap : Nat} {l : List Nat} (h : SB w (.slice a n cap) n l) (lo hi cap' : Nat) (h1 : lo ≤ hi) (h2 : hi ≤ n) (h3 : hi ≤ cap') (h4 : cap' ≤ cap) :
  SB w (.slice (cutA a lo cap' 1) (hi - lo) (cap' - lo)) (hi - lo) ((l.drop lo).take (hi - lo)) := by
 refine ⟨by rw [List.length_take, List.length_drop, h.1]; omega, (h.2.1.drop lo).take _, ?_⟩
 have := h.2.2.cut lo hi cap' h1 h2 h3 h4
 rw [Nat.mul_one, Nat.mul_one] at this
 have e : ((bvs l).drop lo).take (hi - lo) = bvs ((l.drop lo).take (hi - lo)) := by simp [bvs, List.map_take, List.map_drop]
 rw [← e]; exact this
theorem OB.cut {w : World} {base : Nat} {E : TypeId} {a : Option Addr} {n cap : Nat} {l : List Nat} (h : OB w base E (.slice a n cap) n l) (lo hi cap' : Nat) (h1 : lo ≤ hi) (h2 : hi ≤ n) (h3 : hi ≤ cap') (h4 : cap' ≤ cap) :
  OB w base E (.slice (cutA a lo cap' 1) (hi - lo) (cap' - lo)) (hi - lo) ((l.drop lo).take (hi - lo)) := by
 refine ⟨by rw [List.length_take, List.length_drop, h.1]; omega, (h.2.1.drop lo).take _, ?_⟩
 have := h.2.2.cut lo hi cap' h1 h2 h3 h4
 rw [Nat.mul_one, Nat.mul_one] at this
 have e : ((bvs l).drop lo).take (hi - lo) = bvs ((l.drop lo).take (hi - lo)) := by simp [bvs, List.map_take, List.map_drop]
 rw [← e]; exact this
section
variable {P : Program} {T E : TypeId} {size : Nat}
theorem run_cut_l (ht : P.underlying T = some (.slice E)) (hs : (P.info? E).map (·.size) = some size) (a : Option Addr) (len cap lo : Nat) (x : Int) (hx : x = (lo : Nat)) (k1 : IntKind) (h1 : lo ≤ len) (w : World) :
  (Instr.slice T (.slice a len cap) (some (.int k1 x)) none none).run P w = .ok (.slice (cutA a lo cap size) (len - lo) (cap - lo)) w := by
 subst hx
 have ht' : P.underlying T = some (.slice (P.elem T)) := by rw [ht]; simp [Program.elem, ht]
 have hE : P.elem T = E := by simp [Program.elem, ht]
 have hsz : (sizeOf E).run P w = .ok size w := by
  cases hq : P.info? E with
  | none => simp [hq] at hs
  | some i => simp [hq] at hs; simp [sizeOf, typeInfo, hq, hs]
 rw [run_slice_l w T a len cap ht' k1 lo (by omega) (by omega), hE, hsz]
 simp [Result.andThen, sliced, cutA]
end
end Go.Proofs.YtafhnlnhflehhaaGreatDoor
