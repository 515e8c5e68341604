/- append onto an empty slice that has no room: nothing that was there is turned. Nothing of the program; no condition but the sizes' bound. Slices of the call's own whose elements are any of one kind (several cells each, that may lead to bytes of the call's own): read, cut, appended to, inserted into. Nothing of the program; no condition but the sizes' bound. Stores into slices of the call's own whose elements are of one kind: one element of one cell; cells behind the end (the built-in clear). Nothing of the program; no condition. -/
import Derived.Test.YtafhnlnhflehhaaGreatDoorGKi
import Derived.Test.YtafhnlnhflehhaaGreatDoorGHi
import Derived.Lib.SliceRun
namespace Go.Proofs.YtafhnlnhflehhaaGreatDoor
open Go.RowKit
section
variable {P : Program} {w : World}
end
section
variable {P : Program}
end
end Go.Proofs.YtafhnlnhflehhaaGreatDoor

namespace Go.Proofs.YtafhnlnhflehhaaGreatDoor
open Go.RowKit
structure Elt (α : Type) where
 size : Nat
 R : World → Nat → α → List Value → Prop
 Ok : World → Nat → Prop
 pos : 0 < size
 len : ∀ {w b a c}, R w b a c → c.length = size
 one : ∀ {w b a c}, R w b a c → ∀ u ∈ c, u.oneCell' = true
 bw : ∀ {w w' b a c}, R w b a c → BW w w' → R w' b a c
 up : ∀ {w b b' a c}, R w b a c → b' ≤ b → R w b' a c
 still : ∀ {w w' b a c S}, R w b a c → Still S w w' → (∀ k ∈ S, Ok w k) → R w' b a c
 old : ∀ {w w' b a c S}, R w b a c → Still S w w' → (∀ k ∈ S, k < b) → R w' b a c
variable {α : Type}
def EL (E : Elt α) (w : World) (base : Nat) : List α → List Value → Prop
 | [], xs => xs = []
 | a :: l, xs => ∃ c xs', xs = c ++ xs' ∧ E.R w base a c ∧ EL E w base l xs'
theorem EL.len {E : Elt α} {w : World} {base : Nat} : ∀ {l : List α} {xs : List Value}, EL E w base l xs → xs.length = l.length * E.size
 | [], _, h => by rw [show _ = [] from h]; simp
 | a :: l, _, ⟨c, xs', e, h1, h2⟩ => by rw [e, List.length_append, E.len h1, h2.len, List.length_cons, Nat.add_mul]; omega
theorem EL.mono {E : Elt α} {w w' : World} {base base' : Nat} (hR : ∀ a c, E.R w base a c → E.R w' base' a c) : ∀ {l : List α} {xs : List Value}, EL E w base l xs → EL E w' base' l xs
 | [], _, h => h
 | _ :: _, _, ⟨c, xs', e, h1, h2⟩ => ⟨c, xs', e, hR _ _ h1, h2.mono hR⟩
theorem EL.append {E : Elt α} {w : World} {base : Nat} : ∀ {l1 l2 : List α} {xs1 xs2 : List Value}, EL E w base l1 xs1 → EL E w base l2 xs2 → EL E w base (l1 ++ l2) (xs1 ++ xs2)
 | [], _, _, _, h1, h2 => by rw [show _ = [] from h1]; exact h2
 | _ :: _, _, _, _, ⟨c, xs', e, h1, h2⟩, h3 => ⟨c, xs' ++ _, by rw [e, List.append_assoc], h1, h2.append h3⟩
theorem EL.single {E : Elt α} {w : World} {base : Nat} {a : α} {c : List Value} (h : E.R w base a c) : EL E w base [a] c := ⟨c, [], by simp, h, rfl⟩
theorem EL.take {E : Elt α} {w : World} {base : Nat} : ∀ {l : List α} {xs : List Value} (k : Nat), EL E w base l xs → EL E w base (l.take k) (xs.take (k * E.size))
 | _, _, 0, _ => by simp [EL]
 | [], _, k + 1, h => by rw [show _ = [] from h]; simp [EL]
 | _ :: _, _, k + 1, ⟨c, xs', e, h1, h2⟩ => by
  refine ⟨c, xs'.take (k * E.size), ?_, h1, h2.take k⟩
  rw [e, Nat.succ_mul, Nat.add_comm, ← E.len h1, List.take_length_add_append]
theorem EL.drop {E : Elt α} {w : World} {base : Nat} : ∀ {l : List α} {xs : List Value} (k : Nat), EL E w base l xs → EL E w base (l.drop k) (xs.drop (k * E.size))
 | _, _, 0, h => by simpa using h
 | [], _, k + 1, h => by rw [show _ = [] from h]; simp [EL]
 | _ :: _, _, k + 1, ⟨c, xs', e, h1, h2⟩ => by
  have e2 : (k + 1) * E.size = c.length + k * E.size := by rw [E.len h1, Nat.succ_mul]; omega
  rw [e, e2, List.drop_length_add_append, List.drop_succ_cons]
  exact h2.drop k
theorem EL.one {E : Elt α} {w : World} {base : Nat} : ∀ {l : List α} {xs : List Value}, EL E w base l xs → ∀ u ∈ xs, u.oneCell' = true
 | [], _, h, u, hu => by rw [show _ = [] from h] at hu; cases hu
 | _ :: _, _, ⟨c, xs', e, h1, h2⟩, u, hu => by
  rw [e] at hu
  rcases List.mem_append.1 hu with hu | hu
  ·exact E.one h1 u hu
  ·exact h2.one u hu
theorem EL.get {E : Elt α} {w : World} {base : Nat} : ∀ {l : List α} {xs : List Value} (i : Nat) (h : i < l.length), EL E w base l xs → ∃ c, E.R w base l[i] c ∧ ∀ j, j < E.size → xs[i * E.size + j]? = c[j]?
 | a :: l, _, 0, _, ⟨c, xs', e, h1, h2⟩ => ⟨c, h1, fun j hj => by
  rw [e, Nat.zero_mul, Nat.zero_add, List.getElem?_append_left (by rw [E.len h1]; exact hj)]⟩
 | a :: l, _, i + 1, hi, ⟨c, xs', e, h1, h2⟩ => by
  obtain ⟨c2, k1, k2⟩ := h2.get i (by simpa using hi)
  refine ⟨c2, k1, fun j hj => ?_⟩
  rw [e, Nat.succ_mul, List.getElem?_append_right (by rw [E.len h1]; omega), E.len h1, ← k2 j hj]
  congr 1; omega
def EQ (E : Elt α) (T : TypeId) (w : World) (base : Nat) (v : Value) (n : Nat) (l : List α) : Prop := l.length = n ∧ ∃ xs, Ows w base T E.size v n xs ∧ EL E w base l xs
theorem EQ.nil (E : Elt α) (T : TypeId) (w : World) (base : Nat) : EQ E T w base (.slice none 0 0) 0 [] := ⟨rfl, [], Ows.nil _ _ _ _, rfl⟩
theorem EQ.len {E : Elt α} {T : TypeId} {w : World} {base : Nat} {v : Value} {n : Nat} {l : List α} (h : EQ E T w base v n l) : ∃ sa cap, v = .slice sa n cap ∧ n ≤ cap ∧ cap ≤ maxLen := by
 obtain ⟨_, xs, h1, _⟩ := h
 exact h1.len
theorem EQ.bw {E : Elt α} {T : TypeId} {a b : World} {base : Nat} {v : Value} {n : Nat} {l : List α} (h : EQ E T a base v n l) (hb : BW a b) : EQ E T b base v n l := by
 obtain ⟨h0, xs, h1, h2⟩ := h
 exact ⟨h0, xs, h1.bw hb, h2.mono fun _ _ h => E.bw h hb⟩
theorem EQ.up {E : Elt α} {T : TypeId} {w : World} {base base' : Nat} {v : Value} {n : Nat} {l : List α} (h : EQ E T w base v n l) (hb : base' ≤ base) : EQ E T w base' v n l := by
 obtain ⟨h0, xs, h1, h2⟩ := h
 exact ⟨h0, xs, h1.up hb, h2.mono fun _ _ h => E.up h hb⟩
theorem EQ.still {E : Elt α} {T : TypeId} {w w' : World} {base : Nat} {v : Value} {n : Nat} {l : List α} (h : EQ E T w base v n l) {S : List Nat} (hs : Still S w w') (hS : ∀ k ∈ S, E.Ok w k) (hv : ∀ g, v.ownBlock = some g → g ∉ S) : EQ E T w' base v n l := by
 obtain ⟨h0, xs, h1, h2⟩ := h
 exact ⟨h0, xs, h1.still hs hv, h2.mono fun _ _ h => E.still h hs hS⟩
theorem EQ.old {E : Elt α} {T : TypeId} {w w' : World} {base : Nat} {v : Value} {n : Nat} {l : List α} (h : EQ E T w base v n l) {S : List Nat} (hs : Still S w w') (hS : ∀ k ∈ S, k < base) : EQ E T w' base v n l := by
 obtain ⟨h0, xs, h1, h2⟩ := h
 exact ⟨h0, xs, h1.still hs (fun k hk hm => by have := (h1.lt k hk).1; have := hS k hm; omega), h2.mono fun _ _ h => E.old h hs hS⟩
theorem EQ.ge' {E : Elt α} {T : TypeId} {w : World} {base : Nat} {v : Value} {n : Nat} {l : List α} (h : EQ E T w base v n l) : ∀ j, v.ownBlock = some j → base ≤ j := fun j hj => by
 obtain ⟨_, xs, h1, _⟩ := h
 exact (h1.lt j hj).1
theorem EQ.lt' {E : Elt α} {T : TypeId} {w : World} {base : Nat} {v : Value} {n : Nat} {l : List α} (h : EQ E T w base v n l) : ∀ j, v.ownBlock = some j → j < w.heap.size := fun j hj => by
 obtain ⟨_, xs, h1, _⟩ := h
 exact (h1.lt j hj).2
theorem EQ.ne {E : Elt α} {T : TypeId} {w : World} {base : Nat} {v : Value} {n : Nat} {l : List α} (h : EQ E T w base v n l) {b : Nat} {cs : Array Value} {t : TypeId} {fr : Nat × Nat} (hb : w.heap[b]? = some (.cells cs t fr)) (ht : t ≠ T) : ∀ g, v.ownBlock = some g → g ≠ b := by
 obtain ⟨_, xs, h1, _⟩ := h
 exact h1.ne hb ht
theorem EQ.row {E : Elt α} {T : TypeId} {w : World} {base : Nat} {v : Value} {n : Nat} {l : List α} (h : EQ E T w base v n l) : ∀ k, v.ownBlock = some k → ∃ cs, w.heap[k]? = some (.cells cs T (0, 0)) := by
 obtain ⟨_, xs, ⟨_, ⟨rfl, _⟩ | ⟨g, o, cap, cur, rfl, _, hh, _⟩⟩, _⟩ := h
 ·intro k hk; simp [Value.ownBlock] at hk
 ·intro k hk
  simp [Value.ownBlock] at hk
  subst hk
  exact ⟨_, hh⟩
theorem EQ.form {E : Elt α} {T : TypeId} {w : World} {base : Nat} {v : Value} {n : Nat} {l : List α} (h : EQ E T w base v n l) (h0 : 0 < n) :
  ∃ g o cap, v = .slice (some ⟨g, o, Option.none⟩) n cap ∧ base ≤ g ∧ g < w.heap.size ∧ n ≤ cap ∧ cap ≤ maxLen ∧ ∀ i (hi : i < l.length), ∃ c, E.R w base l[i] c ∧ ∀ j, j < E.size → w.cell? ⟨g, o + (i * E.size + j), Option.none⟩ = c[j]? := by
 obtain ⟨hl, xs, h1, h2⟩ := h
 obtain ⟨g, o, cap, hv, a1, a2, a3, a4, a5, _⟩ := h1.form h0
 refine ⟨g, o, cap, hv, a1, a2, a3, a4, fun i hi => ?_⟩
 obtain ⟨c, k1, k2⟩ := h2.get i hi
 refine ⟨c, k1, fun j hj => ?_⟩
 rw [← k2 j hj]
 refine a5 _ ?_
 have : (i + 1) * E.size ≤ n * E.size := Nat.mul_le_mul_right _ (by omega)
 rw [Nat.succ_mul] at this
 omega
theorem EQ.takeN {E : Elt α} {T : TypeId} {w : World} {base : Nat} {sa : Option Addr} {n cap : Nat} {l : List α} (h : EQ E T w base (.slice sa n cap) n l) (k : Nat) (hk : k ≤ n) : EQ E T w base (.slice sa k cap) k (l.take k) := by
 obtain ⟨hl, xs, h1, h2⟩ := h
 exact ⟨by rw [List.length_take]; omega, _, h1.takeN k hk, h2.take k⟩
theorem Sls.new1 {E : Elt α} (w : World) (T : TypeId) (c : List Value) (hc : c.length = E.size) : Sls (w.alloc (.cells c.toArray T)) E.size (.slice (some ⟨w.heap.size, 0, Option.none⟩) 1 1) 1 c :=
 ⟨by rw [hc]; omega, by decide, .inr ⟨w.heap.size, 0, 1, rfl, Nat.le_refl _, by decide, by simp, fun j hj => by
  rw [Nat.zero_add, hp_cell (hp_new w _ _ rfl) j, List.getElem?_toArray]⟩⟩
section
variable {P : Program} {ops : Array Oper} {rest : List Oper} {o : Oper} {a : Act} {w : World} {Q : Exit → Act → World → Prop}
theorem wp_apEQ {E : Elt α} {T : TypeId} {bytes ST : Nat} {K : Act → World → Prop} (hT : SlTy P ST T E.size bytes) (s x : Operand) (ho : o.op = .call { callee := .builtin .append, args := #[s, x], argTypes := #[ST, ST] }) (base : Nat) (v : Value) (n : Nat) (l : List α) (hs : a.eval s = v) (hown : EQ E T w base v n l)
  (xv : Value) (hx : a.eval x = xv) (m : Nat) (k : List α) (ys : List Value) (hk : Sls w E.size xv m ys) (hy : EL E w base k ys) (hkl : k.length = m) (hsz : (n + m) * bytes ≤ 140737488355328) (hbase : base ≤ w.heap.size) (hOk : ∀ j ∈ v.ownBlock.toList, E.Ok w j)
  (h : ∀ sa cap w', n + m ≤ cap → cap ≤ maxLen → EQ E T w' base (.slice sa (n + m) cap) (n + m) (l ++ k) → Still v.ownBlock.toList w w' → Below base w w' → (∀ j, (Value.slice sa (n + m) cap).ownBlock = some j → v.ownBlock = some j ∨ w.heap.size ≤ j) → K (a.put o.dst (.slice sa (n + m) cap)) w') : o.wp P a w K Q := by
 obtain ⟨hl, xs, h1, h2⟩ := hown
 refine wp_aps hT ST s x ho base v n xs hs h1 xv hx m ys (.sl _ _ _ _ _ hT.ht hk hy.one) hsz hbase fun v' w' k1 k2 k3 => ?_
 obtain ⟨sa, cap, rfl, hc, hm⟩ := k1.len
 have hst := Still.of_row k2
 exact h sa cap w' hc hm ⟨by rw [List.length_append, hl, hkl], _, k1, (h2.append hy).mono fun _ _ h => E.still h hst hOk⟩ hst (Ows.grown hbase (Nat.le_refl _) h1 k2) k3
theorem wpList_apEQ {E : Elt α} {T : TypeId} {bytes ST : Nat} (hT : SlTy P ST T E.size bytes) (hgd : o.guard = none) (s x : Operand) (ho : o.op = .call { callee := .builtin .append, args := #[s, x], argTypes := #[ST, ST] }) (base : Nat) (v : Value) (n : Nat) (l : List α) (hs : a.eval s = v) (hown : EQ E T w base v n l)
  (xv : Value) (hx : a.eval x = xv) (m : Nat) (k : List α) (ys : List Value) (hk : Sls w E.size xv m ys) (hy : EL E w base k ys) (hkl : k.length = m) (hsz : (n + m) * bytes ≤ 140737488355328) (hbase : base ≤ w.heap.size) (hOk : ∀ j ∈ v.ownBlock.toList, E.Ok w j)
  (h : ∀ sa cap w', n + m ≤ cap → cap ≤ maxLen → EQ E T w' base (.slice sa (n + m) cap) (n + m) (l ++ k) → Still v.ownBlock.toList w w' → Below base w w' → (∀ j, (Value.slice sa (n + m) cap).ownBlock = some j → v.ownBlock = some j ∨ w.heap.size ≤ j) → wpList P ops Q rest (a.put o.dst (.slice sa (n + m) cap)) w') : wpList P ops Q (o :: rest) a w :=
 wpList_plain hgd fun _ hK => wp_apEQ hT s x ho base v n l hs hown xv hx m k ys hk hy hkl hsz hbase hOk fun sa cap w' k1 k2 k3 k4 k5 k6 => hK _ _ (h sa cap w' k1 k2 k3 k4 k5 k6)
end
end Go.Proofs.YtafhnlnhflehhaaGreatDoor

namespace Go.Proofs.YtafhnlnhflehhaaGreatDoor
open Go.RowKit
variable {α : Type}
theorem still_sc (w : World) (g o : Nat) (v : Value) : Still [g] w (w.setCell ⟨g, o, none⟩ v) := by
 refine ⟨rfl, rfl, rfl, by simp [World.setCell], fun k _ hk => ?_⟩
 exact hp_oth (by simpa using hk)
theorem EL.set1 {E : Elt α} {w : World} {base : Nat} (hs : E.size = 1) {a : α} {u : Value} (hu : E.R w base a [u]) : ∀ {l : List α} {xs : List Value} (i : Nat), EL E w base l xs → EL E w base (l.set i a) (xs.set i u)
 | [], xs, i, h => by rw [show xs = [] from h]; exact rfl
 | b :: l, _, 0, ⟨c, xs', e, h1, h2⟩ => by
  have hc := E.len h1
  rw [hs] at hc
  match c, hc with
  | [x], _ => subst e; exact ⟨[u], xs', rfl, hu, h2⟩
 | b :: l, _, i + 1, ⟨c, xs', e, h1, h2⟩ => by
  have hc := E.len h1
  rw [hs] at hc
  match c, hc with
  | [x], _ => subst e; exact ⟨[x], xs'.set i u, rfl, h1, h2.set1 hs hu i⟩
theorem EQ.set1 {E : Elt α} {T : TypeId} {w : World} {base : Nat} {g o n cap : Nat} {l : List α} (h : EQ E T w base (.slice (some ⟨g, o, none⟩) n cap) n l) (hs : E.size = 1) (hOk : E.Ok w g) {a : α} {u : Value} (hu : E.R w base a [u]) (i : Nat) (hi : i < n) : EQ E T (w.setCell ⟨g, o + i, none⟩ u) base (.slice (some ⟨g, o, none⟩) n cap) n (l.set i a) := by
 obtain ⟨h0, xs, h1, h2⟩ := h
 have hst : Still [g] w (w.setCell ⟨g, o + i, none⟩ u) := still_sc w g (o + i) u
 refine ⟨by rw [List.length_set]; exact h0, xs.set i u, h1.set i (by rw [hs, Nat.mul_one]; exact hi) u, ?_⟩
 exact (h2.set1 hs hu i).mono fun _ _ h => E.still h hst (by simpa using hOk)
theorem Ows.behind {base : Nat} {E : TypeId} {size g o n cap : Nat} {xs : List Value} : ∀ (vs : List Value) (p : Nat) {w : World}, Ows w base E size (.slice (some ⟨g, o, none⟩) n cap) n xs → o + n * size ≤ p → Ows (w.setCells g p vs) base E size (.slice (some ⟨g, o, none⟩) n cap) n xs
 | [], _, _, h, _ => h
 | v :: vs, p, w, h, hp => by
  refine Ows.behind vs (p + 1) ?_ (by omega)
  obtain ⟨h1, ⟨h2, _⟩ | ⟨g', o', cap', cur, he, hg, hh, hn, hc, hs, ht⟩⟩ := h
  ·cases h2
  ·cases he
   refine ⟨h1, .inr ⟨g, o, cap, cur.setIfInBounds p v, rfl, hg, ?_, hn, hc, by simpa using hs, ?_⟩⟩
   ·simp [World.setCell, Array.getElem?_modify, hh]
   ·rw [Array.toList_setIfInBounds, List.drop_set, if_neg (by omega), List.take_set_of_le (by omega), ht]
theorem still_stCells (g : Nat) : ∀ (vs : List Value) (p : Nat) (w : World), Still [g] w (w.setCells g p vs)
 | [], _, w => Still.of_below (Below.refl _ _)
 | v :: vs, p, w => (still_sc w g p v).trans (still_stCells g vs (p + 1) _)
theorem EQ.behind {E : Elt α} {T : TypeId} {w : World} {base : Nat} {g o n cap : Nat} {l : List α} (h : EQ E T w base (.slice (some ⟨g, o, none⟩) n cap) n l) (hOk : E.Ok w g) (vs : List Value) (p : Nat) (hp : o + n * E.size ≤ p) : EQ E T (w.setCells g p vs) base (.slice (some ⟨g, o, none⟩) n cap) n l := by
 obtain ⟨h0, xs, h1, h2⟩ := h
 exact ⟨h0, xs, h1.behind vs p hp, h2.mono fun _ _ h => E.still h (still_stCells g vs p w) (by simpa using hOk)⟩
theorem EQ.new1 {E : Elt α} (w : World) (T : TypeId) (base : Nat) (a : α) (c : List Value) (hr : E.R (w.alloc (.cells c.toArray T)) base a c) (hb : base ≤ w.heap.size) : EQ E T (w.alloc (.cells c.toArray T)) base (.slice (some ⟨w.heap.size, 0, Option.none⟩) 1 1) 1 [a] := by
 have hl := E.len hr
 refine ⟨rfl, c, ⟨by rw [hl]; omega, .inr ⟨w.heap.size, 0, 1, c.toArray, rfl, hb, heap_alloc_new w _, Nat.le_refl _, by decide, by simp; omega, ?_⟩⟩, EL.single hr⟩
 rw [List.drop_zero, List.take_of_length_le (by simp; omega)]
theorem EQ.frz {E : Elt α} {T : TypeId} {w : World} {base : Nat} {g o n cap : Nat} {l : List α} (h : EQ E T w base (.slice (some ⟨g, o, none⟩) n cap) n l) (h0 : 0 < n) (j : Nat) : w.frozen? ⟨g, j, none⟩ = false := by
 obtain ⟨_, xs, h1, _⟩ := h
 obtain ⟨g', o', cap', he, _, _, _, _, _, hf⟩ := h1.form h0
 cases he
 exact hf j
end Go.Proofs.YtafhnlnhflehhaaGreatDoor
