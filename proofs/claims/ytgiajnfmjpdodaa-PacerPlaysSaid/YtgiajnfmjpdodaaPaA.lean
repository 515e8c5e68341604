/- Slices of paces: a class and bytes each. No condition. -/
import Derived.Test.YtgiajnfmjpdodaaPre
import Derived.Test.YtgiajnfmjpdodaaBw
import Derived.Test.YtgiajnfmjpdodaaCut
import Derived.Test.YtgiajnfmjpdodaaApO
namespace Go.Proofs.Ytgiajnfmjpdodaa
open Go.RowKit

theorem slPc : SlTy Try.prog 44 43 2 32 := SlTy.mk' Try.underlying44 (by kernel_rfl) (by decide)
theorem info_pc : (Try.prog.info? 43).map (·.size) = some 2 := by kernel_rfl
/-- The cells of paces: of each its class and a slice of its bytes, of the call's own. -/
def PcL (w : World) (base : Nat) : List (Int × List Nat) → List Value → Prop
  | [], xs => xs = []
  | p :: l, xs => ∃ v xs', xs = .int .i64 p.1 :: v :: xs' ∧ OB w base 5 v p.2.length p.2 ∧ PcL w base l xs'
theorem PcL.len {w : World} {base : Nat} : ∀ {l : List (Int × List Nat)} {xs : List Value}, PcL w base l xs → xs.length = l.length * 2
  | [], _, h => by rw [show _ = [] from h]; rfl
  | _ :: l, _, ⟨v, xs', e, _, h⟩ => by rw [e, List.length_cons, List.length_cons, h.len, List.length_cons]; omega
theorem PcL.mono {w w' : World} {base base' : Nat} (hO : ∀ v n b, OB w base 5 v n b → OB w' base' 5 v n b) : ∀ {l : List (Int × List Nat)} {xs : List Value}, PcL w base l xs → PcL w' base' l xs
  | [], _, h => h
  | _ :: _, _, ⟨v, xs', e, hv, h⟩ => ⟨v, xs', e, hO _ _ _ hv, h.mono hO⟩
theorem PcL.append {w : World} {base : Nat} : ∀ {l1 l2 : List (Int × List Nat)} {xs1 xs2 : List Value}, PcL w base l1 xs1 → PcL w base l2 xs2 → PcL w base (l1 ++ l2) (xs1 ++ xs2)
  | [], _, _, _, h1, h2 => by rw [show _ = [] from h1]; exact h2
  | _ :: _, _, _, _, ⟨v, xs', e, hv, h⟩, h2 => ⟨v, xs' ++ _, by rw [e]; rfl, hv, h.append h2⟩
theorem PcL.take {w : World} {base : Nat} : ∀ {l : List (Int × List Nat)} {xs : List Value} (k : Nat), PcL w base l xs → PcL w base (l.take k) (xs.take (k * 2))
  | _, _, 0, _ => by simp [PcL]
  | [], _, k + 1, h => by rw [show _ = [] from h]; simp [PcL]
  | _ :: _, _, k + 1, ⟨v, xs', e, hv, h⟩ => by
    rw [e, show (k + 1) * 2 = k * 2 + 1 + 1 by omega, List.take_succ_cons, List.take_succ_cons, List.take_succ_cons]
    exact ⟨v, _, rfl, hv, h.take k⟩
theorem PcL.tail {w : World} {base : Nat} {p : Int × List Nat} {l : List (Int × List Nat)} {xs : List Value} (h : PcL w base (p :: l) xs) : PcL w base l (xs.drop (1 * 2)) := by
  obtain ⟨v, xs', rfl, _, h⟩ := h
  exact h
theorem PcL.one_cell {w : World} {base : Nat} : ∀ {l : List (Int × List Nat)} {xs : List Value}, PcL w base l xs → ∀ u ∈ xs, u.oneCell' = true
  | [], _, h, u, hu => by rw [show _ = [] from h] at hu; cases hu
  | _ :: _, _, ⟨v, xs', e, hv, h⟩, u, hu => by
    rw [e] at hu
    obtain ⟨s, c, rfl, _, _⟩ := hv.len
    rcases List.mem_cons.1 hu with rfl | hu
    · rfl
    rcases List.mem_cons.1 hu with rfl | hu
    · rfl
    exact h.one_cell u hu
theorem PcL.get {w : World} {base : Nat} : ∀ {l : List (Int × List Nat)} {xs : List Value} (i : Nat) (h : i < l.length), PcL w base l xs → ∃ v, xs[i * 2]? = some (.int .i64 l[i].1) ∧ xs[i * 2 + 1]? = some v ∧ OB w base 5 v l[i].2.length l[i].2
  | p :: l, _, 0, _, ⟨v, xs', e, hv, h⟩ => ⟨v, by rw [e]; rfl, by rw [e]; rfl, hv⟩
  | p :: l, _, i + 1, hi, ⟨v, xs', e, hv, h⟩ => by
    have hi' : i < l.length := by simpa using hi
    obtain ⟨u, h1, h2, h3⟩ := h.get i hi'
    refine ⟨u, ?_, ?_, h3⟩
    · rw [e, show (i + 1) * 2 = i * 2 + 1 + 1 by omega, List.getElem?_cons_succ, List.getElem?_cons_succ]; exact h1
    · rw [e, show (i + 1) * 2 + 1 = i * 2 + 1 + 1 + 1 by omega, List.getElem?_cons_succ, List.getElem?_cons_succ]; exact h2

/-- v is nil or a slice of paces of the call's own. -/
def PQ (w : World) (base : Nat) (v : Value) (n : Nat) (l : List (Int × List Nat)) : Prop := l.length = n ∧ ∃ xs, Ows w base 43 2 v n xs ∧ PcL w base l xs
theorem PQ.nil (w : World) (base : Nat) : PQ w base (.slice none 0 0) 0 [] := ⟨rfl, [], Ows.nil _ _ _ _, rfl⟩
theorem PQ.len {w : World} {base : Nat} {v : Value} {n : Nat} {l : List (Int × List Nat)} (h : PQ w base v n l) : ∃ sa cap, v = .slice sa n cap ∧ n ≤ cap ∧ cap ≤ maxLen := by
  obtain ⟨_, xs, h1, _⟩ := h
  exact h1.len
theorem PQ.bw {a b : World} {base : Nat} {v : Value} {n : Nat} {l : List (Int × List Nat)} (h : PQ a base v n l) (hb : BW a b) : PQ b base v n l := by
  obtain ⟨h0, xs, h1, h2⟩ := h
  exact ⟨h0, xs, h1.bw hb, h2.mono fun _ _ _ h => h.bw hb⟩
theorem PQ.up {w : World} {base base' : Nat} {v : Value} {n : Nat} {l : List (Int × List Nat)} (h : PQ w base v n l) (hb : base' ≤ base) : PQ w base' v n l := by
  obtain ⟨h0, xs, h1, h2⟩ := h
  exact ⟨h0, xs, h1.up hb, h2.mono fun _ _ _ h => h.up hb⟩
/-- Block k is new, or no row of bytes. -/
def NoB (w : World) (k : Nat) : Prop := w.heap.size ≤ k ∨ ∃ cs t f, w.heap[k]? = some (.cells cs t f) ∧ t ≠ 5
theorem NoB.ob {w : World} {base : Nat} {v : Value} {n : Nat} {b : List Nat} (h : OB w base 5 v n b) {S : List Nat} (hS : ∀ k ∈ S, NoB w k) : ∀ g, v.ownBlock = some g → g ∉ S := fun g hg hm => by
  rcases hS g hm with h1 | ⟨cs, t, f, h1, h2⟩
  · have := h.lt' g hg; omega
  · exact h.2.2.ne h1 h2 g hg rfl
theorem PcL.still {w w' : World} {base : Nat} {l : List (Int × List Nat)} {xs : List Value} (h : PcL w base l xs) {S : List Nat} (hs : Still S w w') (hS : ∀ k ∈ S, NoB w k) : PcL w' base l xs := h.mono fun _ _ _ h => h.still hs (NoB.ob h hS)
theorem PQ.still {w w' : World} {base : Nat} {v : Value} {n : Nat} {l : List (Int × List Nat)} (h : PQ w base v n l) {S : List Nat} (hs : Still S w w') (hS : ∀ k ∈ S, NoB w k) (hv : ∀ g, v.ownBlock = some g → g ∉ S) : PQ w' base v n l := by
  obtain ⟨h0, xs, h1, h2⟩ := h
  exact ⟨h0, xs, h1.still hs hv, h2.still hs hS⟩
theorem PQ.ge' {w : World} {base : Nat} {v : Value} {n : Nat} {l : List (Int × List Nat)} (h : PQ w base v n l) : ∀ j, v.ownBlock = some j → base ≤ j := fun j hj => by
  obtain ⟨_, xs, h1, _⟩ := h
  exact (h1.lt j hj).1
theorem PQ.lt' {w : World} {base : Nat} {v : Value} {n : Nat} {l : List (Int × List Nat)} (h : PQ w base v n l) : ∀ j, v.ownBlock = some j → j < w.heap.size := fun j hj => by
  obtain ⟨_, xs, h1, _⟩ := h
  exact (h1.lt j hj).2
theorem PQ.ne {w : World} {base : Nat} {v : Value} {n : Nat} {l : List (Int × List Nat)} (h : PQ w base v n l) {b : Nat} {cs : Array Value} {t : TypeId} {fr : Nat × Nat} (hb : w.heap[b]? = some (.cells cs t fr)) (ht : t ≠ 43) : ∀ g, v.ownBlock = some g → g ≠ b := by
  obtain ⟨_, xs, h1, _⟩ := h
  exact h1.ne hb ht
theorem PQ.noB {w : World} {base : Nat} {v : Value} {n : Nat} {l : List (Int × List Nat)} (h : PQ w base v n l) : ∀ k ∈ v.ownBlock.toList, NoB w k := by
  obtain ⟨_, xs, ⟨_, ⟨rfl, _⟩ | ⟨g, o, cap, cur, rfl, _, hh, _⟩⟩, _⟩ := h
  · intro k hk; simp [Value.ownBlock] at hk
  · intro k hk
    simp [Value.ownBlock] at hk
    subst hk
    exact .inr ⟨_, _, _, hh, by decide⟩
theorem PQ.form {w : World} {base : Nat} {v : Value} {n : Nat} {l : List (Int × List Nat)} (h : PQ w base v n l) (h0 : 0 < n) :
    ∃ g o cap, v = .slice (some ⟨g, o, Option.none⟩) n cap ∧ base ≤ g ∧ g < w.heap.size ∧ n ≤ cap ∧ cap ≤ maxLen ∧ ∀ i (hi : i < l.length), ∃ u, w.cell? ⟨g, o + i * 2, Option.none⟩ = some (.int .i64 l[i].1) ∧ w.cell? ⟨g, o + (i * 2 + 1), Option.none⟩ = some u ∧ OB w base 5 u l[i].2.length l[i].2 := by
  obtain ⟨hl, xs, h1, h2⟩ := h
  obtain ⟨g, o, cap, hv, a1, a2, a3, a4, a5, _⟩ := h1.form h0
  refine ⟨g, o, cap, hv, a1, a2, a3, a4, fun i hi => ?_⟩
  obtain ⟨u, k1, k2, k3⟩ := h2.get i hi
  exact ⟨u, by rw [a5 _ (by omega)]; exact k1, by rw [a5 _ (by omega)]; exact k2, k3⟩
/-- The first k, none behind them. -/
theorem PQ.cutN {w : World} {base : Nat} {sa : Option Addr} {n cap : Nat} {l : List (Int × List Nat)} (h : PQ w base (.slice sa n cap) n l) (k : Nat) (hk : k ≤ n) : PQ w base (.slice sa k k) k (l.take k) := by
  obtain ⟨hl, xs, h1, h2⟩ := h
  obtain ⟨_, _, he, hn, _⟩ := h1.len
  cases he
  have := h1.cut 0 k k (by omega) hk (Nat.le_refl _) (by omega)
  rw [cutA_zero] at this
  simp only [Nat.sub_zero, Nat.zero_mul, List.drop_zero] at this
  exact ⟨by rw [List.length_take]; omega, _, this, h2.take k⟩
theorem PQ.tail {w : World} {base : Nat} {sa : Option Addr} {n cap : Nat} {p : Int × List Nat} {l : List (Int × List Nat)} (h : PQ w base (.slice sa n cap) n (p :: l)) : PQ w base (.slice (cutA sa 1 cap 2) (n - 1) (cap - 1)) (n - 1) l := by
  obtain ⟨hl, xs, h1, h2⟩ := h
  obtain ⟨_, _, he, hn, _⟩ := h1.len
  cases he
  have hl' : l.length + 1 = n := by simpa using hl
  have := h1.cut 1 n cap (by omega) (Nat.le_refl _) hn (Nat.le_refl _)
  refine ⟨by omega, _, this, ?_⟩
  have h3 := h2.tail
  rw [List.take_of_length_le (by rw [List.length_drop, h2.len, List.length_cons]; omega)]
  exact h3
theorem cutA_own (sa : Option Addr) (lo cap size n c n' c' : Nat) : ∀ k, (Value.slice (cutA sa lo cap size) n c).ownBlock = some k → (Value.slice sa n' c').ownBlock = some k := fun k hk => by
  cases sa with
  | none => unfold cutA at hk; split at hk <;> simp [Value.ownBlock] at hk
  | some x =>
    unfold cutA at hk
    split at hk
    · exact hk
    · simp only [Option.map_some, Value.ownBlock, Addr.add, Option.some.injEq] at hk ⊢
      split at hk <;> exact hk
/-- One pace that was made just now. -/
theorem Sls.pace (w : World) (c : Int) (v : Value) : Sls (w.alloc (.cells #[.int .i64 c, v] 43)) 2 (.slice (some ⟨w.heap.size, 0, Option.none⟩) 1 1) 1 [.int .i64 c, v] :=
  ⟨rfl, by decide, .inr ⟨w.heap.size, 0, 1, rfl, Nat.le_refl _, by decide, by simp, fun j hj => by
    have : j < 2 := by omega
    match j, this with
    | 0, _ => simp [go_sem]
    | 1, _ => simp [go_sem]⟩⟩
section
variable {ops : Array Oper} {rest : List Oper} {o : Oper} {a : Act} {w : World} {Q : Exit → Act → World → Prop}
/-- append(s, x): one pace. -/
theorem wp_apPc {K : Act → World → Prop} (s x : Operand) (ho : o.op = .call { callee := .builtin .append, args := #[s, x], argTypes := #[44, 44] }) (base : Nat) (v : Value) (n : Nat) (l : List (Int × List Nat)) (hs : a.eval s = v) (hown : PQ w base v n l)
    (xv : Value) (hx : a.eval x = xv) (c : Int) (u : Value) (b : List Nat) (hk : Sls w 2 xv 1 [.int .i64 c, u]) (hu : OB w base 5 u b.length b) (hn : n ≤ 1000000000) (hbase : base ≤ w.heap.size)
    (h : ∀ sa cap w', n + 1 ≤ cap → cap ≤ maxLen → PQ w' base (.slice sa (n + 1) cap) (n + 1) (l ++ [(c, b)]) → Still v.ownBlock.toList w w' → Below base w w' → (∀ j, (Value.slice sa (n + 1) cap).ownBlock = some j → v.ownBlock = some j ∨ w.heap.size ≤ j) → K (a.put o.dst (.slice sa (n + 1) cap)) w') : o.wp Try.prog a w K Q := by
  have hnb := hown.noB
  obtain ⟨hl, xs, h1, h2⟩ := hown
  obtain ⟨su, cu, rfl, _, _⟩ := hu.len
  refine wp_aps slPc 44 s x ho base v n xs hs h1 xv hx 1 _ (.sl _ _ _ _ _ slPc.ht hk (by intro u hu; simp at hu; rcases hu with rfl | rfl <;> rfl)) (by omega) hbase fun v' w' k1 k2 k3 => ?_
  obtain ⟨sa, cap, rfl, hc, hm⟩ := k1.len
  have hst := Still.of_row k2
  have h3 : PcL w base (l ++ [(c, b)]) (xs ++ [.int .i64 c, .slice su b.length cu]) := h2.append ⟨_, [], rfl, hu, rfl⟩
  exact h sa cap w' hc hm ⟨by rw [List.length_append, hl]; rfl, _, k1, h3.still hst hnb⟩ hst (Ows.grown hbase (Nat.le_refl _) h1 k2) k3
theorem wpList_apPc (hgd : o.guard = none) (s x : Operand) (ho : o.op = .call { callee := .builtin .append, args := #[s, x], argTypes := #[44, 44] }) (base : Nat) (v : Value) (n : Nat) (l : List (Int × List Nat)) (hs : a.eval s = v) (hown : PQ w base v n l)
    (xv : Value) (hx : a.eval x = xv) (c : Int) (u : Value) (b : List Nat) (hk : Sls w 2 xv 1 [.int .i64 c, u]) (hu : OB w base 5 u b.length b) (hn : n ≤ 1000000000) (hbase : base ≤ w.heap.size)
    (h : ∀ sa cap w', n + 1 ≤ cap → cap ≤ maxLen → PQ w' base (.slice sa (n + 1) cap) (n + 1) (l ++ [(c, b)]) → Still v.ownBlock.toList w w' → Below base w w' → (∀ j, (Value.slice sa (n + 1) cap).ownBlock = some j → v.ownBlock = some j ∨ w.heap.size ≤ j) → wpList Try.prog ops Q rest (a.put o.dst (.slice sa (n + 1) cap)) w') : wpList Try.prog ops Q (o :: rest) a w :=
  wpList_plain hgd fun _ hK => wp_apPc s x ho base v n l hs hown xv hx c u b hk hu hn hbase fun sa cap w' k1 k2 k3 k4 k5 k6 => hK _ _ (h sa cap w' k1 k2 k3 k4 k5 k6)
end
end Go.Proofs.Ytgiajnfmjpdodaa
