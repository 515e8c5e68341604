/- append onto an empty slice that has no room: nothing that was there is turned. Nothing of the program; no condition but the sizes' bound. Slices of the call's own whose elements are any of one kind (several cells each, that may lead to bytes of the call's own): read, cut, appended to, inserted into. Nothing of the program; no condition but the sizes' bound. Stores into slices of the call's own whose elements are of one kind: one element of one cell; cells behind the end (the built-in clear). Nothing of the program; no condition. One element inserted into a slice of the call's own, at the level of cells: what the library's text does to them. Nothing of the program; no condition but the sizes' bound. -/
import Derived.Test.YtojedpahaifjgaaGKi
import Derived.Test.YtojedpahaifjgaaPre
import Derived.Lib.SliceRun
import Derived.Lib.AppendZerosOnto
import Derived.Lib.Overlaps
import Derived.Laws.IdiomCopy
namespace Go.Proofs.Ytojedpahaifjgaa
open Go.RowKit
section
variable {P : Program} {w : World}
theorem run_append_0 {T E : TypeId} {size bytes : Nat} (hT : SlTy P T E size bytes) (tx ty : TypeId) (base g o : Nat) (cur : Array Value) (hb : base ≤ g) (hg : w.heap[g]? = some (.cells cur E (0, 0))) (ho : o ≤ cur.size) (x : Value) (m : Nat) (ys : List Value) (hx : App P w T size tx x m ys)
  (hsz : m * bytes ≤ 140737488355328) (hbase : base ≤ w.heap.size) :
  ∃ v' w', (Builtin.append_ #[T, tx] ty #[.slice (some ⟨g, o, none⟩) 0 0, x]).run P w = .ok v' w' ∧ Ows w' base E size v' m ys ∧ w.grownBy w' none ∧ ∀ k, v'.ownBlock = some k → k = g ∨ w.heap.size ≤ k := by
 by_cases hm : m = 0
 ·subst hm
  obtain ⟨i, z, hi, hz, h2, h3, h4⟩ := hT.ex
  subst h2
  subst h3
  have hsrc := hx.src w
  have hy : ys = [] := List.eq_nil_of_length_eq_zero (by have := hsrc.newsLen; omega)
  subst hy
  have hr := run_append_room_src (P := P) w T tx ty E i hT.ht hi g o 0 0 x 0 [] hsrc (by omega) (fun j hj => by simp at hj) (fun j hj => by simp at hj)
  exact ⟨_, _, hr, ⟨by simp, .inr ⟨g, o, 0, cur, rfl, hb, hg, Nat.le_refl _, by unfold maxLen; omega, by omega, by simp⟩⟩, ⟨rfl, rfl, rfl, Nat.le_refl _, fun _ _ _ => rfl⟩, fun k hk => .inl (by simpa [Value.ownBlock] using hk.symm)⟩
 ·obtain ⟨v', w', h1, h2, h3⟩ := run_append_full w hT tx ty base (some ⟨g, o, none⟩) 0 [] ⟨by simp, by unfold maxLen; omega, .inl ⟨rfl, _, 0, rfl, (fun h => by cases h), by unfold maxLen; omega⟩⟩ x m ys hx (by omega) (by rw [Nat.zero_add]; exact hsz) hbase
  rw [Nat.zero_add, List.nil_append] at h2
  have hown : Ows w base E size (.slice (some ⟨g, o, none⟩) 0 0) 0 [] := ⟨by simp, .inr ⟨g, o, 0, cur, rfl, hb, hg, Nat.le_refl _, by unfold maxLen; omega, by omega, by simp⟩⟩
  obtain ⟨v2, w2, k1, _, _, k4⟩ := run_append_ows w hT tx ty base _ 0 [] hown x m ys hx (by rw [Nat.zero_add]; exact hsz) hbase
  rw [h1] at k1
  simp only [Result.ok.injEq] at k1
  obtain ⟨rfl, rfl⟩ := k1
  refine ⟨v', w', h1, h2, h3, fun k hk => ?_⟩
  rcases k4 k hk with h | h
  ·exact .inl (by simpa [Value.ownBlock] using h.symm)
  ·exact .inr h
end
section
variable {P : Program}
theorem wp_ap0 {T E : TypeId} {size bytes : Nat} (hT : SlTy P T E size bytes) {o : Oper} {a : Act} {w : World} {K : Act → World → Prop} {Q : Exit → Act → World → Prop} (tx : TypeId) (s x : Operand)
  (ho : o.op = .call { callee := .builtin .append, args := #[s, x], argTypes := #[T, tx] }) (base g ofs : Nat) (cur : Array Value) (hs : a.eval s = .slice (some ⟨g, ofs, none⟩) 0 0) (hb : base ≤ g) (hg : w.heap[g]? = some (.cells cur E (0, 0))) (hofs : ofs ≤ cur.size) (xv : Value) (hx : a.eval x = xv) (m : Nat) (ys : List Value) (ha : App P w T size tx xv m ys)
  (hsz : m * bytes ≤ 140737488355328) (hbase : base ≤ w.heap.size)
  (h : ∀ v' w', Ows w' base E size v' m ys → w.grownBy w' none → (∀ k, v'.ownBlock = some k → k = g ∨ w.heap.size ≤ k) → K (a.put o.dst v') w') : o.wp P a w K Q := by
 obtain ⟨v', w', h1, h2, h3, h4⟩ := run_append_0 hT tx 0 base g ofs cur hb hg hofs xv m ys ha hsz hbase
 exact wp_append_run T tx s x ho _ xv v' hs hx (fun ty => by rw [← h1]; rfl) (h v' w' h2 h3 h4)
end
end Go.Proofs.Ytojedpahaifjgaa

namespace Go.Proofs.Ytojedpahaifjgaa
open Go.RowKit
structure Elt (α : Type) where
 size : Nat
 R : World → Nat → α → List Value → Prop
 Ok : World → Nat → Prop
 pos : 0 < size
 len : ∀ {w b a c}, R w b a c → c.length = size
 one : ∀ {w b a c}, R w b a c → ∀ u ∈ c, u.oneCell' = true
 bw : ∀ {w w' b a c}, R w b a c → BW w w' → R w' b a c
 up : ∀ {w b b' a c}, R w b a c → b' ≤ b → R w b' a c
 still : ∀ {w w' b a c S}, R w b a c → Still S w w' → (∀ k ∈ S, Ok w k) → R w' b a c
 old : ∀ {w w' b a c S}, R w b a c → Still S w w' → (∀ k ∈ S, k < b) → R w' b a c
variable {α : Type}
def EL (E : Elt α) (w : World) (base : Nat) : List α → List Value → Prop
 | [], xs => xs = []
 | a :: l, xs => ∃ c xs', xs = c ++ xs' ∧ E.R w base a c ∧ EL E w base l xs'
theorem EL.len {E : Elt α} {w : World} {base : Nat} : ∀ {l : List α} {xs : List Value}, EL E w base l xs → xs.length = l.length * E.size
 | [], _, h => by rw [show _ = [] from h]; simp
 | a :: l, _, ⟨c, xs', e, h1, h2⟩ => by rw [e, List.length_append, E.len h1, h2.len, List.length_cons, Nat.add_mul]; omega
theorem EL.mono {E : Elt α} {w w' : World} {base base' : Nat} (hR : ∀ a c, E.R w base a c → E.R w' base' a c) : ∀ {l : List α} {xs : List Value}, EL E w base l xs → EL E w' base' l xs
 | [], _, h => h
 | _ :: _, _, ⟨c, xs', e, h1, h2⟩ => ⟨c, xs', e, hR _ _ h1, h2.mono hR⟩
theorem EL.append {E : Elt α} {w : World} {base : Nat} : ∀ {l1 l2 : List α} {xs1 xs2 : List Value}, EL E w base l1 xs1 → EL E w base l2 xs2 → EL E w base (l1 ++ l2) (xs1 ++ xs2)
 | [], _, _, _, h1, h2 => by rw [show _ = [] from h1]; exact h2
 | _ :: _, _, _, _, ⟨c, xs', e, h1, h2⟩, h3 => ⟨c, xs' ++ _, by rw [e, List.append_assoc], h1, h2.append h3⟩
theorem EL.single {E : Elt α} {w : World} {base : Nat} {a : α} {c : List Value} (h : E.R w base a c) : EL E w base [a] c := ⟨c, [], by simp, h, rfl⟩
theorem EL.take {E : Elt α} {w : World} {base : Nat} : ∀ {l : List α} {xs : List Value} (k : Nat), EL E w base l xs → EL E w base (l.take k) (xs.take (k * E.size))
 | _, _, 0, _ => by simp [EL]
 | [], _, k + 1, h => by rw [show _ = [] from h]; simp [EL]
 | _ :: _, _, k + 1, ⟨c, xs', e, h1, h2⟩ => by
  refine ⟨c, xs'.take (k * E.size), ?_, h1, h2.take k⟩
  rw [e, Nat.succ_mul, Nat.add_comm, ← E.len h1, List.take_length_add_append]
theorem EL.drop {E : Elt α} {w : World} {base : Nat} : ∀ {l : List α} {xs : List Value} (k : Nat), EL E w base l xs → EL E w base (l.drop k) (xs.drop (k * E.size))
 | _, _, 0, h => by simpa using h
 | [], _, k + 1, h => by rw [show _ = [] from h]; simp [EL]
 | _ :: _, _, k + 1, ⟨c, xs', e, h1, h2⟩ => by
  have e2 : (k + 1) * E.size = c.length + k * E.size := by rw [E.len h1, Nat.succ_mul]; omega
  rw [e, e2, List.drop_length_add_append, List.drop_succ_cons]
  exact h2.drop k
theorem EL.one {E : Elt α} {w : World} {base : Nat} : ∀ {l : List α} {xs : List Value}, EL E w base l xs → ∀ u ∈ xs, u.oneCell' = true
 | [], _, h, u, hu => by rw [show _ = [] from h] at hu; cases hu
 | _ :: _, _, ⟨c, xs', e, h1, h2⟩, u, hu => by
  rw [e] at hu
  rcases List.mem_append.1 hu with hu | hu
  ·exact E.one h1 u hu
  ·exact h2.one u hu
theorem EL.get {E : Elt α} {w : World} {base : Nat} : ∀ {l : List α} {xs : List Value} (i : Nat) (h : i < l.length), EL E w base l xs → ∃ c, E.R w base l[i] c ∧ ∀ j, j < E.size → xs[i * E.size + j]? = c[j]?
 | a :: l, _, 0, _, ⟨c, xs', e, h1, h2⟩ => ⟨c, h1, fun j hj => by
  rw [e, Nat.zero_mul, Nat.zero_add, List.getElem?_append_left (by rw [E.len h1]; exact hj)]⟩
 | a :: l, _, i + 1, hi, ⟨c, xs', e, h1, h2⟩ => by
  obtain ⟨c2, k1, k2⟩ := h2.get i (by simpa using hi)
  refine ⟨c2, k1, fun j hj => ?_⟩
  rw [e, Nat.succ_mul, List.getElem?_append_right (by rw [E.len h1]; omega), E.len h1, ← k2 j hj]
  congr 1; omega
def EQ (E : Elt α) (T : TypeId) (w : World) (base : Nat) (v : Value) (n : Nat) (l : List α) : Prop := l.length = n ∧ ∃ xs, Ows w base T E.size v n xs ∧ EL E w base l xs
theorem EQ.nil (E : Elt α) (T : TypeId) (w : World) (base : Nat) : EQ E T w base (.slice none 0 0) 0 [] := ⟨rfl, [], Ows.nil _ _ _ _, rfl⟩
theorem EQ.len {E : Elt α} {T : TypeId} {w : World} {base : Nat} {v : Value} {n : Nat} {l : List α} (h : EQ E T w base v n l) : ∃ sa cap, v = .slice sa n cap ∧ n ≤ cap ∧ cap ≤ maxLen := by
 obtain ⟨_, xs, h1, _⟩ := h
 exact h1.len
theorem EQ.full {E : Elt α} {T : TypeId} {w : World} {base : Nat} {v : Value} {n : Nat} {l : List α} (h : EQ E T w base v n l) : EQ E T w base v l.length l := by rw [h.1]; exact h
theorem EQ.bw {E : Elt α} {T : TypeId} {a b : World} {base : Nat} {v : Value} {n : Nat} {l : List α} (h : EQ E T a base v n l) (hb : BW a b) : EQ E T b base v n l := by
 obtain ⟨h0, xs, h1, h2⟩ := h
 exact ⟨h0, xs, h1.bw hb, h2.mono fun _ _ h => E.bw h hb⟩
theorem EQ.up {E : Elt α} {T : TypeId} {w : World} {base base' : Nat} {v : Value} {n : Nat} {l : List α} (h : EQ E T w base v n l) (hb : base' ≤ base) : EQ E T w base' v n l := by
 obtain ⟨h0, xs, h1, h2⟩ := h
 exact ⟨h0, xs, h1.up hb, h2.mono fun _ _ h => E.up h hb⟩
theorem EQ.still {E : Elt α} {T : TypeId} {w w' : World} {base : Nat} {v : Value} {n : Nat} {l : List α} (h : EQ E T w base v n l) {S : List Nat} (hs : Still S w w') (hS : ∀ k ∈ S, E.Ok w k) (hv : ∀ g, v.ownBlock = some g → g ∉ S) : EQ E T w' base v n l := by
 obtain ⟨h0, xs, h1, h2⟩ := h
 exact ⟨h0, xs, h1.still hs hv, h2.mono fun _ _ h => E.still h hs hS⟩
theorem EQ.old {E : Elt α} {T : TypeId} {w w' : World} {base : Nat} {v : Value} {n : Nat} {l : List α} (h : EQ E T w base v n l) {S : List Nat} (hs : Still S w w') (hS : ∀ k ∈ S, k < base) : EQ E T w' base v n l := by
 obtain ⟨h0, xs, h1, h2⟩ := h
 exact ⟨h0, xs, h1.still hs (fun k hk hm => by have := (h1.lt k hk).1; have := hS k hm; omega), h2.mono fun _ _ h => E.old h hs hS⟩
theorem EQ.ge' {E : Elt α} {T : TypeId} {w : World} {base : Nat} {v : Value} {n : Nat} {l : List α} (h : EQ E T w base v n l) : ∀ j, v.ownBlock = some j → base ≤ j := fun j hj => by
 obtain ⟨_, xs, h1, _⟩ := h
 exact (h1.lt j hj).1
theorem EQ.lt' {E : Elt α} {T : TypeId} {w : World} {base : Nat} {v : Value} {n : Nat} {l : List α} (h : EQ E T w base v n l) : ∀ j, v.ownBlock = some j → j < w.heap.size := fun j hj => by
 obtain ⟨_, xs, h1, _⟩ := h
 exact (h1.lt j hj).2
theorem EQ.ne {E : Elt α} {T : TypeId} {w : World} {base : Nat} {v : Value} {n : Nat} {l : List α} (h : EQ E T w base v n l) {b : Nat} {cs : Array Value} {t : TypeId} {fr : Nat × Nat} (hb : w.heap[b]? = some (.cells cs t fr)) (ht : t ≠ T) : ∀ g, v.ownBlock = some g → g ≠ b := by
 obtain ⟨_, xs, h1, _⟩ := h
 exact h1.ne hb ht
theorem EQ.row {E : Elt α} {T : TypeId} {w : World} {base : Nat} {v : Value} {n : Nat} {l : List α} (h : EQ E T w base v n l) : ∀ k, v.ownBlock = some k → ∃ cs, w.heap[k]? = some (.cells cs T (0, 0)) := by
 obtain ⟨_, xs, ⟨_, ⟨rfl, _⟩ | ⟨g, o, cap, cur, rfl, _, hh, _⟩⟩, _⟩ := h
 ·intro k hk; simp [Value.ownBlock] at hk
 ·intro k hk
  simp [Value.ownBlock] at hk
  subst hk
  exact ⟨_, hh⟩
theorem EQ.form {E : Elt α} {T : TypeId} {w : World} {base : Nat} {v : Value} {n : Nat} {l : List α} (h : EQ E T w base v n l) (h0 : 0 < n) :
  ∃ g o cap, v = .slice (some ⟨g, o, Option.none⟩) n cap ∧ base ≤ g ∧ g < w.heap.size ∧ n ≤ cap ∧ cap ≤ maxLen ∧ ∀ i (hi : i < l.length), ∃ c, E.R w base l[i] c ∧ ∀ j, j < E.size → w.cell? ⟨g, o + (i * E.size + j), Option.none⟩ = c[j]? := by
 obtain ⟨hl, xs, h1, h2⟩ := h
 obtain ⟨g, o, cap, hv, a1, a2, a3, a4, a5, _⟩ := h1.form h0
 refine ⟨g, o, cap, hv, a1, a2, a3, a4, fun i hi => ?_⟩
 obtain ⟨c, k1, k2⟩ := h2.get i hi
 refine ⟨c, k1, fun j hj => ?_⟩
 rw [← k2 j hj]
 refine a5 _ ?_
 have : (i + 1) * E.size ≤ n * E.size := Nat.mul_le_mul_right _ (by omega)
 rw [Nat.succ_mul] at this
 omega
theorem EQ.dropN {E : Elt α} {T : TypeId} {w : World} {base : Nat} {sa : Option Addr} {n cap : Nat} {l : List α} (h : EQ E T w base (.slice sa n cap) n l) (k : Nat) (hk : k ≤ n) : EQ E T w base (.slice (cutA sa k cap E.size) (n - k) (cap - k)) (n - k) (l.drop k) := by
 obtain ⟨hl, xs, h1, h2⟩ := h
 obtain ⟨_, _, he, hn, _⟩ := h1.len
 cases he
 have := h1.cut k n cap hk (Nat.le_refl _) hn (Nat.le_refl _)
 refine ⟨by rw [List.length_drop]; omega, _, this, ?_⟩
 have h3 := h2.drop k
 rw [List.take_of_length_le (by rw [List.length_drop, h2.len, hl, Nat.sub_mul]; omega)]
 exact h3
theorem EQ.takeN {E : Elt α} {T : TypeId} {w : World} {base : Nat} {sa : Option Addr} {n cap : Nat} {l : List α} (h : EQ E T w base (.slice sa n cap) n l) (k : Nat) (hk : k ≤ n) : EQ E T w base (.slice sa k cap) k (l.take k) := by
 obtain ⟨hl, xs, h1, h2⟩ := h
 exact ⟨by rw [List.length_take]; omega, _, h1.takeN k hk, h2.take k⟩
theorem Sls.new1 {E : Elt α} (w : World) (T : TypeId) (c : List Value) (hc : c.length = E.size) : Sls (w.alloc (.cells c.toArray T)) E.size (.slice (some ⟨w.heap.size, 0, Option.none⟩) 1 1) 1 c :=
 ⟨by rw [hc]; omega, by decide, .inr ⟨w.heap.size, 0, 1, rfl, Nat.le_refl _, by decide, by simp, fun j hj => by
  rw [Nat.zero_add, hp_cell (hp_new w _ _ rfl) j, List.getElem?_toArray]⟩⟩
section
variable {P : Program} {ops : Array Oper} {rest : List Oper} {o : Oper} {a : Act} {w : World} {Q : Exit → Act → World → Prop}
theorem wp_apEQ {E : Elt α} {T : TypeId} {bytes ST : Nat} {K : Act → World → Prop} (hT : SlTy P ST T E.size bytes) (s x : Operand) (ho : o.op = .call { callee := .builtin .append, args := #[s, x], argTypes := #[ST, ST] }) (base : Nat) (v : Value) (n : Nat) (l : List α) (hs : a.eval s = v) (hown : EQ E T w base v n l)
  (xv : Value) (hx : a.eval x = xv) (m : Nat) (k : List α) (ys : List Value) (hk : Sls w E.size xv m ys) (hy : EL E w base k ys) (hkl : k.length = m) (hsz : (n + m) * bytes ≤ 140737488355328) (hbase : base ≤ w.heap.size) (hOk : ∀ j ∈ v.ownBlock.toList, E.Ok w j)
  (h : ∀ sa cap w', n + m ≤ cap → cap ≤ maxLen → EQ E T w' base (.slice sa (n + m) cap) (n + m) (l ++ k) → Still v.ownBlock.toList w w' → Below base w w' → (∀ j, (Value.slice sa (n + m) cap).ownBlock = some j → v.ownBlock = some j ∨ w.heap.size ≤ j) → K (a.put o.dst (.slice sa (n + m) cap)) w') : o.wp P a w K Q := by
 obtain ⟨hl, xs, h1, h2⟩ := hown
 refine wp_aps hT ST s x ho base v n xs hs h1 xv hx m ys (.sl _ _ _ _ _ hT.ht hk hy.one) hsz hbase fun v' w' k1 k2 k3 => ?_
 obtain ⟨sa, cap, rfl, hc, hm⟩ := k1.len
 have hst := Still.of_row k2
 exact h sa cap w' hc hm ⟨by rw [List.length_append, hl, hkl], _, k1, (h2.append hy).mono fun _ _ h => E.still h hst hOk⟩ hst (Ows.grown hbase (Nat.le_refl _) h1 k2) k3
theorem wpList_apEQ {E : Elt α} {T : TypeId} {bytes ST : Nat} (hT : SlTy P ST T E.size bytes) (hgd : o.guard = none) (s x : Operand) (ho : o.op = .call { callee := .builtin .append, args := #[s, x], argTypes := #[ST, ST] }) (base : Nat) (v : Value) (n : Nat) (l : List α) (hs : a.eval s = v) (hown : EQ E T w base v n l)
  (xv : Value) (hx : a.eval x = xv) (m : Nat) (k : List α) (ys : List Value) (hk : Sls w E.size xv m ys) (hy : EL E w base k ys) (hkl : k.length = m) (hsz : (n + m) * bytes ≤ 140737488355328) (hbase : base ≤ w.heap.size) (hOk : ∀ j ∈ v.ownBlock.toList, E.Ok w j)
  (h : ∀ sa cap w', n + m ≤ cap → cap ≤ maxLen → EQ E T w' base (.slice sa (n + m) cap) (n + m) (l ++ k) → Still v.ownBlock.toList w w' → Below base w w' → (∀ j, (Value.slice sa (n + m) cap).ownBlock = some j → v.ownBlock = some j ∨ w.heap.size ≤ j) → wpList P ops Q rest (a.put o.dst (.slice sa (n + m) cap)) w') : wpList P ops Q (o :: rest) a w :=
 wpList_plain hgd fun _ hK => wp_apEQ hT s x ho base v n l hs hown xv hx m k ys hk hy hkl hsz hbase hOk fun sa cap w' k1 k2 k3 k4 k5 k6 => hK _ _ (h sa cap w' k1 k2 k3 k4 k5 k6)
theorem wp_apEQ0 {E : Elt α} {T : TypeId} {bytes ST : Nat} {K : Act → World → Prop} (hT : SlTy P ST T E.size bytes) (s x : Operand) (ho : o.op = .call { callee := .builtin .append, args := #[s, x], argTypes := #[ST, ST] }) (base g : Nat) (hs : a.eval s = .slice (some ⟨g, 0, none⟩) 0 0) (hb : base ≤ g) (hg : w.heap[g]? = some (.cells #[] T (0, 0)))
  (xv : Value) (hx : a.eval x = xv) (m : Nat) (l : List α) (ys : List Value) (hk : Sls w E.size xv m ys) (hy : EL E w base l ys) (hkl : l.length = m) (hsz : m * bytes ≤ 140737488355328) (hbase : base ≤ w.heap.size)
  (h : ∀ sa cap w', m ≤ cap → cap ≤ maxLen → EQ E T w' base (.slice sa m cap) m l → BW w w' → (∀ j, (Value.slice sa m cap).ownBlock = some j → j = g ∨ w.heap.size ≤ j) → K (a.put o.dst (.slice sa m cap)) w') : o.wp P a w K Q := by
 refine wp_ap0 hT ST s x ho base g 0 #[] hs hb hg (by simp) xv hx m ys (.sl _ _ _ _ _ hT.ht hk hy.one) hsz hbase fun v' w' k1 k2 k3 => ?_
 obtain ⟨sa, cap, rfl, hc, hmm⟩ := k1.len
 have hst : BW w w' := BW.ofStill (Still.of_grown_none k2)
 exact h sa cap w' hc hmm ⟨hkl, _, k1, hy.mono fun _ _ h => E.bw h hst⟩ hst k3
end
end Go.Proofs.Ytojedpahaifjgaa

namespace Go.Proofs.Ytojedpahaifjgaa
open Go.RowKit
variable {α : Type}
theorem still_sc (w : World) (g o : Nat) (v : Value) : Still [g] w (w.setCell ⟨g, o, none⟩ v) := by
 refine ⟨rfl, rfl, rfl, by simp [World.setCell], fun k _ hk => ?_⟩
 exact hp_oth (by simpa using hk)
theorem Ows.behind {base : Nat} {E : TypeId} {size g o n cap : Nat} {xs : List Value} : ∀ (vs : List Value) (p : Nat) {w : World}, Ows w base E size (.slice (some ⟨g, o, none⟩) n cap) n xs → o + n * size ≤ p → Ows (w.setCells g p vs) base E size (.slice (some ⟨g, o, none⟩) n cap) n xs
 | [], _, _, h, _ => h
 | v :: vs, p, w, h, hp => by
  refine Ows.behind vs (p + 1) ?_ (by omega)
  obtain ⟨h1, ⟨h2, _⟩ | ⟨g', o', cap', cur, he, hg, hh, hn, hc, hs, ht⟩⟩ := h
  ·cases h2
  ·cases he
   refine ⟨h1, .inr ⟨g, o, cap, cur.setIfInBounds p v, rfl, hg, ?_, hn, hc, by simpa using hs, ?_⟩⟩
   ·simp [World.setCell, Array.getElem?_modify, hh]
   ·rw [Array.toList_setIfInBounds, List.drop_set, if_neg (by omega), List.take_set_of_le (by omega), ht]
theorem still_stCells (g : Nat) : ∀ (vs : List Value) (p : Nat) (w : World), Still [g] w (w.setCells g p vs)
 | [], _, w => Still.of_below (Below.refl _ _)
 | v :: vs, p, w => (still_sc w g p v).trans (still_stCells g vs (p + 1) _)
theorem EQ.behind {E : Elt α} {T : TypeId} {w : World} {base : Nat} {g o n cap : Nat} {l : List α} (h : EQ E T w base (.slice (some ⟨g, o, none⟩) n cap) n l) (hOk : E.Ok w g) (vs : List Value) (p : Nat) (hp : o + n * E.size ≤ p) : EQ E T (w.setCells g p vs) base (.slice (some ⟨g, o, none⟩) n cap) n l := by
 obtain ⟨h0, xs, h1, h2⟩ := h
 exact ⟨h0, xs, h1.behind vs p hp, h2.mono fun _ _ h => E.still h (still_stCells g vs p w) (by simpa using hOk)⟩
theorem EQ.new1 {E : Elt α} (w : World) (T : TypeId) (base : Nat) (a : α) (c : List Value) (hr : E.R (w.alloc (.cells c.toArray T)) base a c) (hb : base ≤ w.heap.size) : EQ E T (w.alloc (.cells c.toArray T)) base (.slice (some ⟨w.heap.size, 0, Option.none⟩) 1 1) 1 [a] := by
 have hl := E.len hr
 refine ⟨rfl, c, ⟨by rw [hl]; omega, .inr ⟨w.heap.size, 0, 1, c.toArray, rfl, hb, heap_alloc_new w _, Nat.le_refl _, by decide, by simp; omega, ?_⟩⟩, EL.single hr⟩
 rw [List.drop_zero, List.take_of_length_le (by simp; omega)]
theorem EQ.frz {E : Elt α} {T : TypeId} {w : World} {base : Nat} {g o n cap : Nat} {l : List α} (h : EQ E T w base (.slice (some ⟨g, o, none⟩) n cap) n l) (h0 : 0 < n) (j : Nat) : w.frozen? ⟨g, j, none⟩ = false := by
 obtain ⟨_, xs, h1, _⟩ := h
 obtain ⟨g', o', cap', he, _, _, _, _, _, hf⟩ := h1.form h0
 cases he
 exact hf j
end Go.Proofs.Ytojedpahaifjgaa

namespace Go.Proofs.Ytojedpahaifjgaa
open Go.RowKit
section
variable {P : Program} {T E : TypeId} {size : Nat}
theorem run_cut_h (ht : P.underlying T = some (.slice E)) (hs : (P.info? E).map (·.size) = some size) (a : Option Addr) (len cap hi : Nat) (y : Int) (hy : y = (hi : Nat)) (k2 : IntKind) (h2 : hi ≤ cap) (w : World) :
  (Instr.slice T (.slice a len cap) none (some (.int k2 y)) none).run P w = .ok (.slice a hi cap) w := by
 subst hy
 have ht' : P.underlying T = some (.slice (P.elem T)) := by rw [ht]; simp [Program.elem, ht]
 have hE : P.elem T = E := by simp [Program.elem, ht]
 have hsz : (sizeOf E).run P w = .ok size w := by
  cases hq : P.info? E with
  | none => simp [hq] at hs
  | some i => simp [hq] at hs; simp [sizeOf, typeInfo, hq, hs]
 have hz := cutA_zero a cap size
 unfold cutA at hz
 rw [Nat.zero_mul] at hz
 rw [run_slice_h w T a len cap ht' k2 hi (by omega) (by omega), hE, hsz]
 simp [Result.andThen, sliced, hz]
theorem run_copy_n (w : World) (dT sT ty elem : TypeId) (hpos : 0 < size) (b o dLen dCap : Nat) (a : Addr) (sLen sCap : Nat) (cs : List Value)
  (hu : P.underlying dT = some (.slice elem)) (hs : (P.info? elem).map (·.size) = some size) (hn : cs.length = Nat.min sLen dLen * size)
  (hsrc : ∀ j v, cs[j]? = some v → w.cell? (a.add j) = some v) (hc : ∀ j, j < cs.length → (w.cell? ⟨b, o + j, none⟩).isSome = true) (hf : ∀ j, j < cs.length → w.frozen? ⟨b, o + j, none⟩ = false) (h1 : ∀ v ∈ cs, v.oneCell' = true) :
  (Builtin.copy_ #[dT, sT] ty #[.slice (some ⟨b, o, none⟩) dLen dCap, .slice (some a) sLen sCap]).run P w = .ok (goInt (Nat.min sLen dLen)) (w.setCells b o cs) := by
 have hl := run_loadCells_list (P := P) w a cs hsrc
 have hst := run_storeCells_cells (P := P) b o cs 0 w (by simpa using hc) (by simpa using hf) h1
 cases hq : P.info? elem with
 | none => simp [hq] at hs
 | some i =>
  have hi : i.size = size := by simpa [hq] using hs
  rw [hn] at hl
  simp only [Nat.add_zero] at hst
  simp [Builtin.copy_, run_underlying hu, Builtin.lenOf, Builtin.firstCells, sizeOf, typeInfo, hq, hi, hl, hst]
theorem copy_row (w : World) (dT sT ty elem : TypeId) (hpos : 0 < size) (g o dLen dCap : Nat) (a : Addr) (sLen sCap : Nat) (cs : List Value) (cur : Array Value) (hg : w.heap[g]? = some (.cells cur elem (0, 0)))
  (hu : P.underlying dT = some (.slice elem)) (hs : (P.info? elem).map (·.size) = some size) (hn : cs.length = Nat.min sLen dLen * size)
  (hsrc : ∀ j v, cs[j]? = some v → w.cell? (a.add j) = some v) (h1 : ∀ v ∈ cs, v.oneCell' = true) (hfit : o + cs.length ≤ cur.size) :
  ∃ w' cur', (Builtin.copy_ #[dT, sT] ty #[.slice (some ⟨g, o, none⟩) dLen dCap, .slice (some a) sLen sCap]).run P w = .ok (goInt (Nat.min sLen dLen)) w' ∧ w'.heap[g]? = some (.cells cur' elem (0, 0)) ∧ cur'.size = cur.size ∧ (∀ j, cur'.toList[j]? = if o ≤ j ∧ j < o + cs.length then cs[j - o]? else cur.toList[j]?) ∧ Still [g] w w' := by
 obtain ⟨cur', q1, q2, q3⟩ := setCells_heap_eq g cs o w cur elem (0, 0) hg hfit
 obtain ⟨f1, f2, f3, f4⟩ := setCells_frame g cs o w
 refine ⟨_, cur', run_copy_n w dT sT ty elem hpos g o dLen dCap a sLen sCap cs hu hs hn hsrc (fun j hj => ?_) (fun j hj => hp_frz hg _) h1, q1, q2, q3, ⟨f1, f2, f3, by rw [f4]; exact Nat.le_refl _, fun k _ hk => setCells_other g cs _ w k (fun e => hk (by rw [e]; simp))⟩⟩
 rw [hp_cell hg, Array.getElem?_eq_getElem (by omega)]; rfl
end
section
variable {P : Program}
theorem wp_copy_run {o : Oper} {a : Act} {w w' : World} {K : Act → World → Prop} {Q : Exit → Act → World → Prop} (T tx : TypeId) (s x : Operand)
  (ho : o.op = .call { callee := .builtin .copy, args := #[s, x], argTypes := #[T, tx] }) (v xv v' : Value) (hs : a.eval s = v) (hx : a.eval x = xv) (hr : ∀ ty, (Builtin.copy_ #[T, tx] ty #[v, xv]).run P w = .ok v' w') (h : K (a.put o.dst v') w') : o.wp P a w K Q := by
 unfold Oper.wp execOp
 simp only [ho, resolve, invoke, builtin, Sem.run_bind, Sem.run_pure, Result.andThen_ok, List.map_toArray, List.map_cons, List.map_nil, hs, hx, hr]
 exact h
theorem wpList_copy_run {ops : Array Oper} {rest : List Oper} {o : Oper} {a : Act} {w w' : World} {Q : Exit → Act → World → Prop} (hgd : o.guard = none) (T tx : TypeId) (s x : Operand)
  (ho : o.op = .call { callee := .builtin .copy, args := #[s, x], argTypes := #[T, tx] }) (v xv v' : Value) (hs : a.eval s = v) (hx : a.eval x = xv) (hr : ∀ ty, (Builtin.copy_ #[T, tx] ty #[v, xv]).run P w = .ok v' w') (h : wpList P ops Q rest (a.put o.dst v') w') : wpList P ops Q (o :: rest) a w :=
 wpList_plain hgd fun _ hK => wp_copy_run T tx s x ho v xv v' hs hx hr (hK _ _ h)
theorem wpList_append_run {ops : Array Oper} {rest : List Oper} {o : Oper} {a : Act} {w w' : World} {Q : Exit → Act → World → Prop} (hgd : o.guard = none) (T tx : TypeId) (s x : Operand)
  (ho : o.op = .call { callee := .builtin .append, args := #[s, x], argTypes := #[T, tx] }) (v xv v' : Value) (hs : a.eval s = v) (hx : a.eval x = xv) (hr : ∀ ty, (Builtin.append_ #[T, tx] ty #[v, xv]).run P w = .ok v' w') (h : wpList P ops Q rest (a.put o.dst v') w') : wpList P ops Q (o :: rest) a w :=
 wpList_plain hgd fun _ hK => wp_append_run T tx s x ho v xv v' hs hx hr (hK _ _ h)
theorem grow_zeros (w : World) {ST T tn : TypeId} {size bytes : Nat} (hT : SlTy P ST T size bytes) (htn : P.underlying tn = some (.int .i64)) (ad : Addr) (i cap k : Nat) (olds : List Value) (hold : olds.length = i * size) (hsrc : ∀ j v, olds[j]? = some v → w.drew.cell? (ad.add j) = some v)
  (hk : 0 < k) (hg : cap < i + k) (hsz : (i + k) * bytes ≤ 140737488355328) :
  ∃ w' cap2 cur, (∀ ty, (Builtin.append_ #[ST, tn] ty #[.slice (some ad) i cap, .int .i64 (k : Nat)]).run P w = .ok (.slice (some ⟨w.heap.size, 0, none⟩) (i + k) cap2) w') ∧ i + k ≤ cap2 ∧ cap2 ≤ maxLen ∧ w'.heap[w.heap.size]? = some (.cells cur T (0, 0)) ∧ cur.size = cap2 * size ∧ (∀ j, j < i * size → cur.toList[j]? = olds[j]?) ∧ BW w w' := by
 obtain ⟨ti, z, hi, hz, h2, h3, h4⟩ := hT.ex
 subst h2
 subst h3
 have hbig : i + k ≤ (i + k) * ti.bytes := Nat.le_mul_of_pos_right _ hT.bpos
 have hml : i + k ≤ maxLen := by unfold maxLen; omega
 have hkb : k * ti.bytes ≤ (i + k) * ti.bytes := Nat.mul_le_mul_right _ (by omega)
 have ho : (Builtin.firstCells ti.size i (.slice (some ad) i cap)).run P w.drew = .ok olds.toArray w.drew := run_firstCells_some w.drew ti.size i ad i cap olds hold hsrc
 have hr := fun ty => Lib.run_append_grow_zeros (P := P) w ST tn ty T ti z .i64 .i64 hT.ht htn hi hz (some ad) i cap olds ho k hk hT.pos hg (by unfold maxLen at hml; omega) (by omega) (growslice_fits hg hsz)
 have hge := grownCap_ge w (i + k) cap T
 refine ⟨_, _, _, hr, hge, grownCap_le_maxLen w _ _ _ hml, heap_alloc_new w.drew _, ?_, fun j hj => ?_, ((BW.refl w).drew).alloc⟩
 ·simp only [Array.size_append, List.size_toArray, size_zeroCells, h4, hold]
  rw [← Nat.add_mul, ← Nat.add_mul]
  congr 1; omega
 ·rw [Array.toList_append, Array.toList_append, List.append_assoc, List.getElem?_append_left (by show j < olds.length; omega)]
end
theorem ins_eq (L : List Value) (o p N sz : Nat) (xs c : List Value) (hx : xs.length = N) (hc : c.length = sz) (hp : p ≤ N) (hL : o + N + sz ≤ L.length) (h1 : ∀ k, k < p → L[o + k]? = xs[k]?) (h2 : ∀ k, k < sz → L[o + p + k]? = c[k]?) (h3 : ∀ k, p ≤ k → k < N → L[o + k + sz]? = xs[k]?) :
  (L.drop o).take (N + sz) = xs.take p ++ c ++ xs.drop p := by
 have ht : (xs.take p).length = p := by rw [List.length_take]; omega
 refine List.ext_getElem? fun k => ?_
 rw [List.getElem?_take]
 by_cases hk : k < N + sz
 ·rw [if_pos hk, List.getElem?_drop]
  by_cases k1 : k < p
  ·rw [h1 k k1, List.append_assoc, List.getElem?_append_left (by omega), List.getElem?_take, if_pos k1]
  ·by_cases k2 : k < p + sz
   ·rw [show o + k = o + p + (k - p) by omega, h2 _ (by omega), List.append_assoc, List.getElem?_append_right (by omega), ht, List.getElem?_append_left (by omega)]
   ·rw [show o + k = o + (k - sz) + sz by omega, h3 _ (by omega) (by omega), List.getElem?_append_right (by rw [List.length_append]; omega), List.length_append, ht, hc, List.getElem?_drop]
    congr 1; omega
 ·rw [if_neg hk, List.getElem?_eq_none (by rw [List.length_append, List.length_append, ht, List.length_drop]; omega)]
theorem ins_ows {w : World} {base : Nat} {T : TypeId} {size g o n cap i : Nat} {cur : Array Value} {xs c : List Value} (hb : base ≤ g) (hg : w.heap[g]? = some (.cells cur T (0, 0))) (hn : n + 1 ≤ cap) (hcm : cap ≤ maxLen) (hcs : o + cap * size ≤ cur.size) (hx : xs.length = n * size) (hc : c.length = size) (hi : i ≤ n)
  (h1 : ∀ k, k < i * size → cur.toList[o + k]? = xs[k]?) (h2 : ∀ k, k < size → cur.toList[o + i * size + k]? = c[k]?) (h3 : ∀ k, i * size ≤ k → k < n * size → cur.toList[o + k + size]? = xs[k]?) :
  Ows w base T size (.slice (some ⟨g, o, none⟩) (n + 1) cap) (n + 1) (xs.take (i * size) ++ c ++ xs.drop (i * size)) := by
 have hp : i * size ≤ n * size := Nat.mul_le_mul_right _ hi
 have hcap : n * size + size ≤ cap * size := by rw [← Nat.succ_mul]; exact Nat.mul_le_mul_right _ hn
 have hlen : (xs.take (i * size) ++ c ++ xs.drop (i * size)).length = (n + 1) * size := by
  rw [List.length_append, List.length_append, List.length_take, List.length_drop, Nat.succ_mul]; omega
 refine ⟨hlen, .inr ⟨g, o, cap, cur, rfl, hb, hg, hn, hcm, hcs, ?_⟩⟩
 rw [Nat.succ_mul]
 exact ins_eq cur.toList o (i * size) (n * size) size xs c hx hc hp (by rw [Array.length_toList]; omega) h1 h2 h3
end Go.Proofs.Ytojedpahaifjgaa
