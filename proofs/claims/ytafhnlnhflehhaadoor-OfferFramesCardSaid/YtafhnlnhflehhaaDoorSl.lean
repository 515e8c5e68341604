/- Slices: of the call's own (from any place of a block), and such as are read; append onto them, whatever is appended; pieces of them. Nothing of the program; no condition but the sizes' bound. -/
import Derived.Test.YtafhnlnhflehhaaDoorRg
import Derived.Deep.AppendSrc
import Derived.Deep.MidRow
import Derived.Laws.OwnMore
namespace Go.Proofs.YtafhnlnhflehhaaDoor
open Go.RowKit
structure SlTy (P : Program) (T E : TypeId) (size bytes : Nat) : Prop where
 ht : P.underlying T = some (.slice E)
 ex : ∃ i z, P.info? E = some i ∧ i.zero = some z ∧ i.size = size ∧ i.bytes = bytes ∧ z.cells.size = size
 pos : 0 < size
 bpos : 1 ≤ bytes
theorem SlTy.mk' {P : Program} {T E : TypeId} {size bytes : Nat} (ht : P.underlying T = some (.slice E)) (hi : (P.info? E).map (fun i => (i.zero.map (·.cells.size), i.size, i.bytes)) = some (some size, size, bytes)) (hp : (0 < size) ∧ 1 ≤ bytes) : SlTy P T E size bytes := by
 refine ⟨ht, ?_, hp.1, hp.2⟩
 cases h : P.info? E with
 | none => simp [h] at hi
 | some i =>
  simp only [h, Option.map_some, Option.some.injEq, Prod.mk.injEq] at hi
  obtain ⟨h1, h2, h3⟩ := hi
  cases hz : i.zero with
  | none => simp [hz] at h1
  | some z => simp [hz] at h1; exact ⟨i, z, rfl, hz, h2, h3, h1⟩
def Sls (w : World) (size : Nat) (v : Value) (n : Nat) (xs : List Value) : Prop :=
 xs.length = n * size ∧ n ≤ maxLen ∧ ((n = 0 ∧ ∃ sa cp, v = .slice sa 0 cp ∧ (sa = none → cp = 0) ∧ cp ≤ maxLen) ∨
  ∃ b o cap, v = .slice (some ⟨b, o, none⟩) n cap ∧ n ≤ cap ∧ cap ≤ maxLen ∧ b < w.heap.size ∧ ∀ j, j < n * size → w.cell? ⟨b, o + j, none⟩ = xs[j]?)
def Ows (w : World) (base : Nat) (E : TypeId) (size : Nat) (v : Value) (n : Nat) (xs : List Value) : Prop :=
 xs.length = n * size ∧ ((v = .slice none 0 0 ∧ n = 0) ∨
  ∃ g o cap cur, v = .slice (some ⟨g, o, none⟩) n cap ∧ base ≤ g ∧ w.heap[g]? = some (.cells cur E (0, 0)) ∧ n ≤ cap ∧ cap ≤ maxLen ∧ o + cap * size ≤ cur.size ∧ (cur.toList.drop o).take (n * size) = xs)
theorem Ows.nil (w : World) (base : Nat) (E : TypeId) (size : Nat) : Ows w base E size (.slice none 0 0) 0 [] := ⟨by simp, .inl ⟨rfl, rfl⟩⟩
theorem Ows.row {w : World} {base : Nat} {E : TypeId} {size : Nat} {v : Value} {n : Nat} {xs : List Value} (h : w.ownsRow base E size v n xs) : Ows w base E size v n xs := by
 obtain ⟨h1, h2 | ⟨g, cap, cur, rfl, hb, hh, hn, hc, hs, ht⟩⟩ := h
 ·exact ⟨h1, .inl h2⟩
 ·exact ⟨h1, .inr ⟨g, 0, cap, cur, rfl, hb, hh, hn, hc, by omega, by simpa using ht⟩⟩
theorem Ows.new (w : World) (base : Nat) (E : TypeId) (size : Nat) (c : Array Value) (xs : List Value) (n : Nat) (hb : base ≤ w.heap.size) (hn : xs.length = n * size) (hm : n ≤ maxLen) (hc : c.toList = xs) :
  Ows (w.alloc (.cells c E)) base E size (.slice (some ⟨w.heap.size, 0, none⟩) n n) n xs := by
 have hsz : c.size = xs.length := by rw [← Array.length_toList, hc]
 refine ⟨hn, .inr ⟨w.heap.size, 0, n, c, rfl, hb, ?_, Nat.le_refl _, hm, by omega, ?_⟩⟩
 ·show (w.heap.push _)[w.heap.size]? = _; simp
 ·rw [List.drop_zero, hc, List.take_of_length_le (by omega)]
theorem Ows.lt {w : World} {base : Nat} {E : TypeId} {size : Nat} {v : Value} {n : Nat} {xs : List Value} (h : Ows w base E size v n xs) : ∀ k, v.ownBlock = some k → base ≤ k ∧ k < w.heap.size := by
 obtain ⟨h1, ⟨rfl, _⟩ | ⟨g, o, cap, cur, rfl, hb, hh, r⟩⟩ := h
 ·intro k hk; cases hk
 ·intro k hk; cases hk; exact ⟨hb, (Array.getElem?_eq_some_iff.1 hh).1⟩
theorem Ows.still {w w' : World} {base : Nat} {E : TypeId} {size : Nat} {v : Value} {n : Nat} {xs : List Value} {S : List Nat} (h : Ows w base E size v n xs) (hs : Still S w w') (hS : ∀ g, v.ownBlock = some g → g ∉ S) : Ows w' base E size v n xs := by
 obtain ⟨h1, h2 | ⟨g, o, cap, cur, rfl, hg, hh, r⟩⟩ := h
 ·exact ⟨h1, .inl h2⟩
 ·exact ⟨h1, .inr ⟨g, o, cap, cur, rfl, hg, by rw [hs.block g (Array.getElem?_eq_some_iff.1 hh).1 (hS g rfl), hh], r⟩⟩
theorem Ows.below {w w' : World} {base B : Nat} {E : TypeId} {size : Nat} {v : Value} {n : Nat} {xs : List Value} (h : Ows w base E size v n xs) (hb : Below B w w') (hB : w.heap.size ≤ B) : Ows w' base E size v n xs :=
 h.still (Still.of_below (S := []) (hb.mono hB)) (by simp)
theorem Ows.up {w : World} {base base' : Nat} {E : TypeId} {size : Nat} {v : Value} {n : Nat} {xs : List Value} (h : Ows w base E size v n xs) (hb : base' ≤ base) : Ows w base' E size v n xs := by
 obtain ⟨h1, h2 | ⟨g, o, cap, cur, rfl, hg, r⟩⟩ := h
 ·exact ⟨h1, .inl h2⟩
 ·exact ⟨h1, .inr ⟨g, o, cap, cur, rfl, Nat.le_trans hb hg, r⟩⟩
theorem Ows.alloc {w : World} {base : Nat} {E : TypeId} {size : Nat} {v : Value} {n : Nat} {xs : List Value} (h : Ows w base E size v n xs) (ob : Obj) : Ows (w.alloc ob) base E size v n xs :=
 h.still (S := []) (Still.of_below ((Below.refl _ _).alloc (Nat.le_refl _) _)) (by simp)
theorem Ows.ne {w : World} {base : Nat} {E : TypeId} {size : Nat} {v : Value} {n : Nat} {xs : List Value} (h : Ows w base E size v n xs) {b : Nat} {cs : Array Value} {t : TypeId} {fr : Nat × Nat} (hb : w.heap[b]? = some (.cells cs t fr)) (ht : t ≠ E) : ∀ g, v.ownBlock = some g → g ≠ b := by
 obtain ⟨h1, ⟨rfl, _⟩ | ⟨g, o, cap, cur, rfl, hg, hh, r⟩⟩ := h
 ·intro g hg; cases hg
 ·intro g' hg' e
  cases hg'
  subst e
  rw [hb] at hh
  cases hh
  exact ht rfl
theorem Ows.form {w : World} {base : Nat} {E : TypeId} {size : Nat} {v : Value} {n : Nat} {xs : List Value} (h : Ows w base E size v n xs) (h0 : 0 < n) :
  ∃ g o cap, v = .slice (some ⟨g, o, none⟩) n cap ∧ base ≤ g ∧ g < w.heap.size ∧ n ≤ cap ∧ cap ≤ maxLen ∧ (∀ j, j < n * size → w.cell? ⟨g, o + j, none⟩ = xs[j]?) ∧ ∀ j, w.frozen? ⟨g, j, none⟩ = false := by
 obtain ⟨h1, ⟨_, h2⟩ | ⟨g, o, cap, cur, rfl, hb, hh, hn, hc, hs, ht⟩⟩ := h
 ·omega
 ·refine ⟨g, o, cap, rfl, hb, (Array.getElem?_eq_some_iff.1 hh).1, hn, hc, fun j hj => ?_, fun i => by simp [World.frozen?, hh]⟩
  rw [← ht, List.getElem?_take, if_pos hj, List.getElem?_drop]
  simp [World.cell?, hh]
theorem Ows.len {w : World} {base : Nat} {E : TypeId} {size : Nat} {v : Value} {n : Nat} {xs : List Value} (h : Ows w base E size v n xs) : ∃ sa cap, v = .slice sa n cap ∧ n ≤ cap ∧ cap ≤ maxLen := by
 obtain ⟨h1, ⟨rfl, rfl⟩ | ⟨g, o, cap, cur, rfl, hb, hh, hn, hc, r⟩⟩ := h
 ·exact ⟨none, 0, rfl, Nat.le_refl _, by decide⟩
 ·exact ⟨_, cap, rfl, hn, hc⟩
theorem Ows.sls {w : World} {base : Nat} {E : TypeId} {size : Nat} {v : Value} {n : Nat} {xs : List Value} (h : Ows w base E size v n xs) : Sls w size v n xs := by
 have hl := h.1
 rcases Nat.eq_zero_or_pos n with h0 | h0
 ·subst h0
  obtain ⟨h1, ⟨rfl, _⟩ | ⟨g, o, cap, cur, rfl, _, _, _, hc, _⟩⟩ := h
  ·exact ⟨hl, by decide, .inl ⟨rfl, none, 0, rfl, fun _ => rfl, by decide⟩⟩
  ·exact ⟨hl, by decide, .inl ⟨rfl, _, cap, rfl, by simp, hc⟩⟩
 ·obtain ⟨g, o, cap, rfl, _, hlt, hn, hc, hcell, _⟩ := h.form h0
  exact ⟨hl, Nat.le_trans hn hc, .inr ⟨g, o, cap, rfl, hn, hc, hlt, hcell⟩⟩
theorem Ows.set {w : World} {base : Nat} {E : TypeId} {size : Nat} {g o n cap : Nat} {xs : List Value} (h : Ows w base E size (.slice (some ⟨g, o, none⟩) n cap) n xs) (j : Nat) (hj : j < n * size) (u : Value) : Ows (w.setCell ⟨g, o + j, none⟩ u) base E size (.slice (some ⟨g, o, none⟩) n cap) n (xs.set j u) := by
 obtain ⟨h1, ⟨h2, _⟩ | ⟨g', o', cap', cur, he, hg, hh, hn, hc, hs, ht⟩⟩ := h
 ·cases h2
 ·cases he
  refine ⟨by simpa using h1, .inr ⟨g, o, cap, cur.setIfInBounds (o + j) u, rfl, hg, ?_, hn, hc, by simpa using hs, ?_⟩⟩
  ·simp [World.setCell, Array.getElem?_modify, hh]
  ·rw [Array.toList_setIfInBounds, List.drop_set, if_neg (by omega), show o + j - o = j by omega, List.take_set, ht]
theorem Ows.drop {w : World} {base : Nat} {E : TypeId} {size : Nat} {g o n cap : Nat} {xs : List Value} (h : Ows w base E size (.slice (some ⟨g, o, none⟩) n cap) n xs) (d : Nat) (hd : d ≤ n) (o' : Nat) (ho : o' = o + d * size ∨ (cap = d ∧ o' = o)) : Ows w base E size (.slice (some ⟨g, o', none⟩) (n - d) (cap - d)) (n - d) (xs.drop (d * size)) := by
 obtain ⟨h1, ⟨h2, _⟩ | ⟨g', o1, cap', cur, he, hg, hh, hn, hc, hs, ht⟩⟩ := h
 ·cases h2
 ·cases he
  have hm1 : n * size = (n - d) * size + d * size := by rw [← Nat.add_mul]; congr 1; omega
  have hm2 : cap * size = (cap - d) * size + d * size := by rw [← Nat.add_mul]; congr 1; omega
  refine ⟨by rw [List.length_drop]; omega, .inr ⟨g, o', cap - d, cur, rfl, hg, hh, by omega, by omega, ?_, ?_⟩⟩
  ·rcases ho with ho | ⟨ho, ho'⟩ <;> omega
  ·rcases ho with ho | ⟨hc', ho'⟩
   ·rw [ho, ← ht, List.drop_take, List.drop_drop]
    congr 1; omega
   ·have hz : n - d = 0 := by omega
    have hz' : (n - d) * size = 0 := by rw [hz, Nat.zero_mul]
    rw [hz', List.take_zero, List.drop_of_length_le (by omega)]
theorem Sls.len {w : World} {size : Nat} {v : Value} {n : Nat} {xs : List Value} (h : Sls w size v n xs) : ∃ sa cap, v = .slice sa n cap ∧ n ≤ cap ∧ cap ≤ maxLen := by
 obtain ⟨h1, h2, ⟨rfl, sa, cp, rfl, hc, hm⟩ | ⟨b, o, cap, rfl, hn, hc, r⟩⟩ := h
 ·exact ⟨sa, cp, rfl, Nat.zero_le _, hm⟩
 ·exact ⟨_, cap, rfl, hn, hc⟩
theorem Sls.form {w : World} {size : Nat} {v : Value} {n : Nat} {xs : List Value} (h : Sls w size v n xs) (h0 : 0 < n) :
  ∃ b o cap, v = .slice (some ⟨b, o, none⟩) n cap ∧ n ≤ cap ∧ cap ≤ maxLen ∧ b < w.heap.size ∧ ∀ j, j < n * size → w.cell? ⟨b, o + j, none⟩ = xs[j]? := by
 obtain ⟨h1, h2, ⟨rfl, _⟩ | h⟩ := h
 ·omega
 ·exact h
theorem Sls.still {w w' : World} {size : Nat} {v : Value} {n : Nat} {xs : List Value} {S : List Nat} (h : Sls w size v n xs) (hs : Still S w w') (hS : ∀ g, v.ownBlock = some g → g ∉ S) : Sls w' size v n xs := by
 obtain ⟨h1, h2, h3 | ⟨b, o, cap, rfl, hn, hc, hb, hcell⟩⟩ := h
 ·exact ⟨h1, h2, .inl h3⟩
 ·refine ⟨h1, h2, .inr ⟨b, o, cap, rfl, hn, hc, Nat.lt_of_lt_of_le hb hs.size, fun j hj => ?_⟩⟩
  rw [← hcell j hj]
  exact World.cell?_of_block (hs.block b hb (hS b rfl))
theorem Sls.below {w w' : World} {size : Nat} {v : Value} {n : Nat} {xs : List Value} (h : Sls w size v n xs) {B : Nat} (hb : Below B w w') (hB : w.heap.size ≤ B) : Sls w' size v n xs :=
 h.still (Still.of_below (S := []) (hb.mono hB)) (by simp)
theorem Sls.alloc {w : World} {size : Nat} {v : Value} {n : Nat} {xs : List Value} (h : Sls w size v n xs) (o : Obj) : Sls (w.alloc o) size v n xs :=
 h.below ((Below.refl _ _).alloc (Nat.le_refl _) o) (Nat.le_refl _)
section
variable {P : Program} (w : World)
inductive App (P : Program) (w : World) (T : TypeId) (size : Nat) : (tx : TypeId) → (x : Value) → (m : Nat) → (ys : List Value) → Prop
 | sl (e' : TypeId) (tx : TypeId) (x : Value) (m : Nat) (ys : List Value) (hk : P.underlying tx = some (.slice e')) (h : Sls w size x m ys) (h1 : ∀ u ∈ ys, u.oneCell' = true) : App P w T size tx x m ys
 | str (tx : TypeId) (s : ByteArray) (hk : P.underlying tx = some .string) (hs : size = 1) : App P w T size tx (.string s) s.size (byteCells s)
theorem App.src {T : TypeId} {size : Nat} {tx : TypeId} {x : Value} {m : Nat} {ys : List Value} (h : App P w T size tx x m ys) : Src P size tx x m ys w := by
 cases h with
 | sl e' _ _ _ _ hk h h1 =>
  obtain ⟨hl, _, ⟨rfl, sa, cp, rfl, hc, _⟩ | ⟨b, o, cap, rfl, _, _, hb, hcell⟩⟩ := h
  ·have hy : ys = [] := List.eq_nil_of_length_eq_zero (by omega)
   subst hy
   cases sa with
   | none => exact Src.ofNil w hk cp
   | some a => exact Src.ofSlice w hk a 0 cp [] (by simp) (by simp) (by simp)
  ·refine Src.ofSlice w hk ⟨b, o, none⟩ m cap ys hl (fun j u hj => ?_) h1
   have hlt := (List.getElem?_eq_some_iff.1 hj).1
   rw [Addr.add_mid, hcell j (by omega), hj]
 | str _ s hk hs => subst hs; exact Src.ofString w hk s
theorem App.len {T : TypeId} {size : Nat} {tx : TypeId} {x : Value} {m : Nat} {ys : List Value} (h : App P w T size tx x m ys) : ys.length = m * size := (h.src w).newsLen
theorem setCells_heap_eq (b : Nat) : ∀ (vs : List Value) (o : Nat) (w : World) (cur : Array Value) (t : TypeId) (fr : Nat × Nat), w.heap[b]? = some (.cells cur t fr) → o + vs.length ≤ cur.size →
  ∃ cur' : Array Value, (w.setCells b o vs).heap[b]? = some (.cells cur' t fr) ∧ cur'.size = cur.size ∧ ∀ j, cur'.toList[j]? = if o ≤ j ∧ j < o + vs.length then vs[j - o]? else cur.toList[j]?
 | [], o, w, cur, t, fr, h, _ => ⟨cur, h, rfl, fun j => by rw [if_neg (by simp)]⟩
 | v :: vs, o, w, cur, t, fr, h, hs => by
  have h1 : (w.setCell ⟨b, o, none⟩ v).heap[b]? = some (.cells (cur.setIfInBounds o v) t fr) := by simp [World.setCell, Array.getElem?_modify, h]
  simp only [List.length_cons] at hs
  obtain ⟨cur', h2, h3, h4⟩ := setCells_heap_eq b vs (o + 1) _ _ _ _ h1 (by simp; omega)
  refine ⟨cur', h2, by simpa using h3, fun j => ?_⟩
  rw [h4 j]
  simp only [List.length_cons, Array.toList_setIfInBounds]
  by_cases hj : o + 1 ≤ j ∧ j < o + 1 + vs.length
  ·rw [if_pos hj, if_pos (by omega), show j - o = (j - (o + 1)) + 1 by omega, List.getElem?_cons_succ]
  ·rw [if_neg hj]
   by_cases hjo : j = o
   ·subst hjo
    rw [if_pos (by omega), List.getElem?_set_self (by simp; omega)]
    simp
   ·rw [if_neg (by omega), List.getElem?_set_ne (by omega)]
theorem setCells_other (b : Nat) : ∀ (vs : List Value) (o : Nat) (w : World) (k : Nat), k ≠ b → (w.setCells b o vs).heap[k]? = w.heap[k]?
 | [], _, _, _, _ => rfl
 | v :: vs, o, w, k, h => by
  show ((w.setCell ⟨b, o, none⟩ v).setCells b (o + 1) vs).heap[k]? = _
  rw [setCells_other b vs _ _ k h, Below.heap_setCell _ _ _ _ h]
theorem setCells_frame (b : Nat) : ∀ (vs : List Value) (o : Nat) (w : World), (w.setCells b o vs).os = w.os ∧ (w.setCells b o vs).tape = w.tape ∧ (w.setCells b o vs).output = w.output ∧ (w.setCells b o vs).heap.size = w.heap.size
 | [], _, _ => ⟨rfl, rfl, rfl, rfl⟩
 | v :: vs, o, w => by
  obtain ⟨h1, h2, h3, h4⟩ := setCells_frame b vs (o + 1) (w.setCell ⟨b, o, none⟩ v)
  exact ⟨h1, h2, h3, by show ((w.setCell ⟨b, o, none⟩ v).setCells b (o + 1) vs).heap.size = _; rw [h4]; simp [World.setCell]⟩
theorem run_append_ows {T E : TypeId} {size bytes : Nat} (hT : SlTy P T E size bytes) (tx ty : TypeId) (base : Nat) (v : Value) (n : Nat) (xs : List Value) (hown : Ows w base E size v n xs) (x : Value) (m : Nat) (ys : List Value) (hx : App P w T size tx x m ys)
  (hsz : (n + m) * bytes ≤ 140737488355328) (hbase : base ≤ w.heap.size) :
  ∃ v' w', (Builtin.append_ #[T, tx] ty #[v, x]).run P w = .ok v' w' ∧ Ows w' base E size v' (n + m) (xs ++ ys) ∧ w.grownBy w' v.ownBlock ∧ ∀ k, v'.ownBlock = some k → v.ownBlock = some k ∨ w.heap.size ≤ k := by
 obtain ⟨i, z, hi, hz, h2, h3, h4⟩ := hT.ex
 subst h2
 subst h3
 have hsrc := hx.src w
 have hlen : (xs ++ ys).length = (n + m) * i.size := by rw [List.length_append, hown.1, hsrc.newsLen, Nat.add_mul]
 have hbig : n + m ≤ (n + m) * i.bytes := Nat.le_mul_of_pos_right _ hT.bpos
 have hml : n + m ≤ maxLen := by unfold maxLen; omega
 have grown : ∀ (old : Nat) (sa : Option Addr), old < n + m → (Builtin.firstCells i.size n (.slice sa n old)).run P w.drew = .ok xs.toArray w.drew →
   ∃ v' w', (Builtin.append_ #[T, tx] ty #[.slice sa n old, x]).run P w = .ok v' w' ∧ Ows w' base E i.size v' (n + m) (xs ++ ys) ∧ (∀ row, w.grownBy w' row) ∧ ∀ k, v'.ownBlock = some k → w.heap.size ≤ k := by
  intro old sa ho hold
  have hr := run_append_grow_src (P := P) w T tx ty E i z hT.ht hi hz sa n old xs hold x m ys hsrc ho (by unfold maxLen at hml; omega) (growslice_fits (by omega) hsz)
  refine ⟨_, _, hr, ⟨hlen, .inr ⟨w.heap.size, 0, _, _, rfl, hbase, heap_alloc_new w.drew _, grownCap_ge w _ _ _, grownCap_le_maxLen w _ _ _ hml, ?_, ?_⟩⟩, fun row => ⟨rfl, rfl, rfl, by simp, fun k hk _ => heap_alloc_old w.drew _ k hk⟩, fun k hk => by cases hk; exact Nat.le_refl _⟩
  ·simp only [Array.size_append, List.size_toArray, size_zeroCells, h4, hlen, Nat.zero_add]
   have hge := grownCap_ge w (n + m) old E
   rw [← Nat.add_mul]
   exact Nat.mul_le_mul_right _ (by omega)
  ·simp only [Array.toList_append, List.drop_zero]
   rw [← hlen]
   exact List.take_left
 rcases hown with ⟨hl, ⟨rfl, rfl⟩ | ⟨g, o, cap, cur, rfl, hbg, hg, hnc, hcm, hcs, htake⟩⟩
 ·have hxs : xs = [] := List.eq_nil_of_length_eq_zero (by omega)
  subst hxs
  by_cases hm : m = 0
  ·subst hm
   have hy : ys = [] := List.eq_nil_of_length_eq_zero (by have := hsrc.newsLen; omega)
   subst hy
   refine ⟨.slice none 0 0, w, ?_, Ows.nil w base E i.size, ⟨rfl, rfl, rfl, Nat.le_refl _, fun _ _ _ => rfl⟩, fun k hk => by cases hk⟩
   rcases hsrc.kind with ⟨e', hk⟩ | hk <;> simp [Builtin.append_, run_underlying hT.ht, run_underlying hk, sizeOf, typeInfo, hi, hsrc.len, hsrc.cells]
  ·obtain ⟨v', w', e1, e2, e3, e4⟩ := grown 0 none (by omega) (run_firstCells_none w.drew i.size 0 0 0)
   exact ⟨v', w', e1, e2, e3 _, fun k hk => .inr (e4 k hk)⟩
 ·by_cases hroom : n + m ≤ cap
  ·have hfit : o + n * i.size + ys.length ≤ cur.size := by
    have : n * i.size + m * i.size ≤ cap * i.size := by rw [← Nat.add_mul]; exact Nat.mul_le_mul_right _ hroom
    rw [hsrc.newsLen]; omega
   have hr := run_append_room_src (P := P) w T tx ty E i hT.ht hi g o n cap x m ys hsrc hroom (fun j hj => by
     simp only [World.cell?, hg, Option.isSome_none, Bool.false_eq_true, if_false]
     rw [Array.getElem?_eq_getElem (by omega)]; rfl) (fun j hj => by simp [World.frozen?, hg])
   obtain ⟨cur', q1, q2, q3⟩ := setCells_heap_eq g ys (o + n * i.size) w cur E (0, 0) hg hfit
   obtain ⟨f1, f2, f3, f4⟩ := setCells_frame g ys (o + n * i.size) w
   refine ⟨_, _, hr, ⟨hlen, .inr ⟨g, o, cap, cur', rfl, hbg, q1, hroom, hcm, by rw [q2]; exact hcs, ?_⟩⟩, ⟨f1, f2, f3, by rw [f4]; exact Nat.le_refl _, fun k _ hk => setCells_other g ys _ w k (fun e => hk (by rw [e]; rfl))⟩, fun k hk => .inl hk⟩
   refine List.ext_getElem? fun j => ?_
   rw [List.getElem?_take]
   have hxl := hl
   by_cases hj : j < (n + m) * i.size
   ·rw [if_pos hj, List.getElem?_drop, q3]
    rw [Nat.add_mul] at hj
    by_cases hjn : j < n * i.size
    ·rw [if_neg (by omega), List.getElem?_append_left (by omega), ← htake, List.getElem?_take, if_pos hjn, List.getElem?_drop]
    ·rw [if_pos (by rw [hsrc.newsLen]; omega), List.getElem?_append_right (by omega)]
     congr 1; omega
   ·rw [if_neg hj, List.getElem?_eq_none (by omega)]
  ·have holds : (Builtin.firstCells i.size n (.slice (some ⟨g, o, none⟩) n cap)).run P w.drew = .ok xs.toArray w.drew := by
    refine run_firstCells_some w.drew i.size n ⟨g, o, none⟩ n cap xs hl (fun j u hj => ?_)
    have hlt := (List.getElem?_eq_some_iff.1 hj).1
    rw [Addr.add_mid, ← hj, ← htake, List.getElem?_take, if_pos (by omega), List.getElem?_drop]
    show w.cell? _ = _
    simp [World.cell?, hg]
   obtain ⟨v', w', e1, e2, e3, e4⟩ := grown cap _ (by omega) holds
   exact ⟨v', w', e1, e2, e3 _, fun k hk => .inr (e4 k hk)⟩
end
section
variable {P : Program}
theorem wp_append_run {o : Oper} {a : Act} {w w' : World} {K : Act → World → Prop} {Q : Exit → Act → World → Prop} (T tx : TypeId) (s x : Operand)
  (ho : o.op = .call { callee := .builtin .append, args := #[s, x], argTypes := #[T, tx] }) (v xv v' : Value) (hs : a.eval s = v) (hx : a.eval x = xv) (hr : ∀ ty, (Builtin.append_ #[T, tx] ty #[v, xv]).run P w = .ok v' w') (h : K (a.put o.dst v') w') : o.wp P a w K Q := by
 unfold Oper.wp execOp
 simp only [ho, resolve, invoke, builtin, Sem.run_bind, Sem.run_pure, Result.andThen_ok, List.map_toArray, List.map_cons, List.map_nil, hs, hx, hr]
 exact h
theorem wp_aps {T E : TypeId} {size bytes : Nat} (hT : SlTy P T E size bytes) {o : Oper} {a : Act} {w : World} {K : Act → World → Prop} {Q : Exit → Act → World → Prop} (tx : TypeId) (s x : Operand)
  (ho : o.op = .call { callee := .builtin .append, args := #[s, x], argTypes := #[T, tx] }) (base : Nat) (v : Value) (n : Nat) (xs : List Value) (hs : a.eval s = v) (hown : Ows w base E size v n xs) (xv : Value) (hx : a.eval x = xv) (m : Nat) (ys : List Value) (ha : App P w T size tx xv m ys)
  (hsz : (n + m) * bytes ≤ 140737488355328) (hbase : base ≤ w.heap.size)
  (h : ∀ v' w', Ows w' base E size v' (n + m) (xs ++ ys) → w.grownBy w' v.ownBlock → (∀ k, v'.ownBlock = some k → v.ownBlock = some k ∨ w.heap.size ≤ k) → K (a.put o.dst v') w') : o.wp P a w K Q := by
 have key : ∀ ty, ∃ v' w', (Builtin.append_ #[T, tx] ty #[v, xv]).run P w = .ok v' w' ∧ Ows w' base E size v' (n + m) (xs ++ ys) ∧ w.grownBy w' v.ownBlock ∧ ∀ k, v'.ownBlock = some k → v.ownBlock = some k ∨ w.heap.size ≤ k := fun ty => run_append_ows w hT tx ty base v n xs hown xv m ys ha hsz hbase
 obtain ⟨v', w', h1, h2, h3, h4⟩ := key 0
 exact wp_append_run T tx s x ho v xv v' hs hx (fun ty => by rw [← h1]; rfl) (h v' w' h2 h3 h4)
theorem Ows.grown {w w' : World} {B base : Nat} (hB : B ≤ w.heap.size) (hb : B ≤ base) {E : TypeId} {size : Nat} {v : Value} {n : Nat} {xs : List Value} (h : Ows w base E size v n xs) (hg : w.grownBy w' v.ownBlock) : Below B w w' :=
 (Below.refl B w).grown hg hB fun k hk => Nat.le_trans hb (h.lt k hk).1
end
end Go.Proofs.YtafhnlnhflehhaaDoor
