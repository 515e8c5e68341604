/- Losses, in plain words: what losses tell, the losses of numbers; of rising numbers they tell just these. -/
import Derived.Below
namespace Go.Proofs.Ytcempndfbckcaaa

def nack1 (s b : Nat) : List Nat := s :: ((List.range 16).filter b.testBit).map fun q => (s + 1 + q) % 65536
def nackN (L : List (Nat × Nat)) : List Nat := L.flatMap fun p => nack1 p.1 p.2
def gapN (x s : Nat) : Nat := (x + (65536 - s)) % 65536
def lossStep (out : List (Nat × Nat)) (x : Nat) : List (Nat × Nat) :=
  match out.getLast? with
  | none => out ++ [(x, 0)]
  | some (s, b) => if 1 ≤ gapN x s ∧ gapN x s ≤ 16 then out.dropLast ++ [(s, b ||| 2 ^ (gapN x s - 1))] else out ++ [(x, 0)]
def lossN (l : List Nat) : List (Nat × Nat) := l.foldl lossStep []

theorem nackN_append (a b : List (Nat × Nat)) : nackN (a ++ b) = nackN a ++ nackN b := by simp [nackN]
theorem nack1_zero (x : Nat) : nack1 x 0 = [x] := by simp [nack1]

theorem filter_low (b j : Nat) (hj : j ≤ 16) (hb : b < 2 ^ j) : (List.range 16).filter b.testBit = (List.range j).filter b.testBit := by
  obtain ⟨k, hk⟩ : ∃ k, 16 = j + k := ⟨16 - j, by omega⟩
  rw [hk, List.range_add, List.filter_append]
  have : ((List.range k).map (j + ·)).filter b.testBit = [] := by
    rw [List.filter_eq_nil_iff]
    intro x hx
    obtain ⟨y, _, rfl⟩ := List.mem_map.1 hx
    have : b < 2 ^ (j + y) := Nat.lt_of_lt_of_le hb (Nat.pow_le_pow_right (by decide) (by omega))
    rw [Nat.testBit_lt_two_pow this]
    exact Bool.false_ne_true
  rw [this, List.append_nil]
theorem nack1_or (s b j : Nat) (hj : j < 16) (hb : b < 2 ^ j) : nack1 s (b ||| 2 ^ j) = nack1 s b ++ [(s + 1 + j) % 65536] := by
  have h1 : b ||| 2 ^ j < 2 ^ (j + 1) := Nat.or_lt_two_pow (Nat.lt_of_lt_of_le hb (Nat.pow_le_pow_right (by decide) (by omega))) (Nat.pow_lt_pow_right (by decide) (by omega))
  unfold nack1
  rw [filter_low _ (j + 1) (by omega) h1, filter_low b j (by omega) hb, List.range_succ, List.filter_append]
  have e1 : (List.range j).filter (b ||| 2 ^ j).testBit = (List.range j).filter b.testBit := by
    refine List.filter_congr fun x hx => ?_
    have hx' := List.mem_range.1 hx
    rw [Nat.testBit_or, Nat.testBit_two_pow_of_ne (by omega)]
    simp
  have e2 : [j].filter (b ||| 2 ^ j).testBit = [j] := by
    simp [Nat.testBit_or, Nat.testBit_two_pow_self]
  rw [e1, e2]
  simp

/-- The losses of a list that rises: what they tell; the last one's bits. -/
def Good (out : List (Nat × Nat)) (p : List Nat) : Prop :=
  nackN out = p ∧ ∀ s b, out.getLast? = some (s, b) → ∃ y, p.getLast? = some y ∧ s ≤ y ∧ y - s ≤ 16 ∧ b < 2 ^ (y - s)
theorem good_step {out : List (Nat × Nat)} {p : List Nat} (h : Good out p) (x : Nat) (hx : x < 65536) (hp : ∀ y, p.getLast? = some y → y < x) : Good (lossStep out x) (p ++ [x]) := by
  obtain ⟨h1, h2⟩ := h
  have fresh : Good (out ++ [(x, 0)]) (p ++ [x]) := by
    refine ⟨by rw [nackN_append, h1]; simp [nackN, nack1_zero], fun s b hl => ?_⟩
    rw [List.getLast?_concat] at hl
    simp only [Option.some.injEq, Prod.mk.injEq] at hl
    obtain ⟨rfl, rfl⟩ := hl
    exact ⟨x, List.getLast?_concat, Nat.le_refl _, by omega, Nat.two_pow_pos _⟩
  unfold lossStep
  split
  · exact fresh
  rename_i s b hl
  split
  case isFalse => exact fresh
  rename_i hk
  obtain ⟨y, hy, hsy, hy16, hb⟩ := h2 s b hl
  have hyx := hp y hy
  have hg : gapN x s = x - s := by
    unfold gapN
    omega
  rw [hg] at hk ⊢
  have hlast : out = out.dropLast ++ [(s, b)] := by
    have hne : out ≠ [] := fun e => by rw [e] at hl; simp at hl
    have h3 := List.dropLast_concat_getLast hne
    rw [List.getLast?_eq_some_getLast hne] at hl
    rw [Option.some.inj hl] at h3
    exact h3.symm
  have hbj : b < 2 ^ (x - s - 1) := Nat.lt_of_lt_of_le hb (Nat.pow_le_pow_right (by decide) (by omega))
  refine ⟨?_, fun s' b' hl' => ?_⟩
  · rw [nackN_append]
    have h4 : nackN out = nackN out.dropLast ++ nack1 s b := by
      conv => lhs; rw [hlast, nackN_append]
      simp [nackN]
    rw [h1] at h4
    rw [h4]
    have : nackN [(s, b ||| 2 ^ (x - s - 1))] = nack1 s b ++ [x] := by
      show nack1 s (b ||| 2 ^ (x - s - 1)) ++ [] = _
      rw [List.append_nil, nack1_or s b (x - s - 1) (by omega) hbj]
      congr 2
      omega
    rw [this, List.append_assoc]
  · rw [List.getLast?_concat] at hl'
    simp only [Option.some.injEq, Prod.mk.injEq] at hl'
    obtain ⟨rfl, rfl⟩ := hl'
    refine ⟨x, List.getLast?_concat, by omega, by omega, Nat.or_lt_two_pow (Nat.lt_of_lt_of_le hb (Nat.pow_le_pow_right (by decide) (by omega))) (Nat.pow_lt_pow_right (by decide) (by omega))⟩

theorem rises_back (l : List Nat) (hb : ∀ x ∈ l, x < 65536) (hr : ∀ i (h : i + 1 < l.length), l[i] < l[i + 1]) : nackN (lossN l) = l := by
  have key : ∀ k, k ≤ l.length → Good ((l.take k).foldl lossStep []) (l.take k) := by
    intro k
    induction k with
    | zero => intro _; exact ⟨by simp [nackN], fun s b h => by simp at h⟩
    | succ k ih =>
      intro hk
      have e : l.take (k + 1) = l.take k ++ [l[k]] := by rw [List.take_add_one, List.getElem?_eq_getElem (by omega)]; rfl
      rw [e, List.foldl_append]
      refine good_step (ih (by omega)) l[k] (hb _ (List.getElem_mem _)) fun y hy => ?_
      match k, hk, hy with
      | 0, _, hy => simp at hy
      | k + 1, hk, hy =>
        rw [List.take_add_one, List.getElem?_eq_getElem (by omega), Option.toList_some, List.getLast?_concat] at hy
        rw [← Option.some.inj hy]
        exact hr k (by omega)
  have := (key l.length (Nat.le_refl _)).1
  rwa [List.take_length] at this

/-- Losses have no bits above the sixteenth, and come of numbers of sixteen bits. -/
theorem lossN_lt (l : List Nat) (hb : ∀ x ∈ l, x < 65536) : ∀ p ∈ lossN l, p.1 < 65536 ∧ p.2 < 65536 := by
  have key : ∀ (l : List Nat) (out : List (Nat × Nat)), (∀ x ∈ l, x < 65536) → (∀ p ∈ out, p.1 < 65536 ∧ p.2 < 65536) → ∀ p ∈ l.foldl lossStep out, p.1 < 65536 ∧ p.2 < 65536 := by
    intro l
    induction l with
    | nil => exact fun out _ h => h
    | cons x l ih =>
      intro out hx ho
      refine ih _ (fun y hy => hx y (List.mem_cons_of_mem _ hy)) fun p hp => ?_
      have hx0 := hx x (List.mem_cons_self)
      unfold lossStep at hp
      have fresh : p ∈ out ++ [(x, 0)] → p.1 < 65536 ∧ p.2 < 65536 := fun hp => by
        rcases List.mem_append.1 hp with h | h
        · exact ho p h
        · simp only [List.mem_singleton] at h
          subst h
          exact ⟨hx0, (by decide : (0 : Nat) < 65536)⟩
      split at hp
      · exact fresh hp
      rename_i s b hl
      split at hp
      case isFalse => exact fresh hp
      rename_i hk
      rcases List.mem_append.1 hp with h | h
      · exact ho p (List.dropLast_subset _ h)
      · simp only [List.mem_singleton] at h
        subst h
        obtain ⟨h1, h2⟩ := ho _ (List.mem_of_getLast? hl)
        exact ⟨h1, Nat.or_lt_two_pow (n := 16) h2 (Nat.pow_lt_pow_right (by decide) (by omega))⟩
  exact key l [] hb (fun p hp => by cases hp)
theorem lossStep_length (out : List (Nat × Nat)) (x : Nat) : (lossStep out x).length ≤ out.length + 1 := by
  unfold lossStep
  split
  · simp
  split
  · simp only [List.length_append, List.length_dropLast, List.length_singleton]
    omega
  · simp
theorem lossN_length (l : List Nat) : (lossN l).length ≤ l.length := by
  have key : ∀ (l : List Nat) (out : List (Nat × Nat)), (l.foldl lossStep out).length ≤ out.length + l.length := by
    intro l
    induction l with
    | nil => exact fun _ => Nat.le_refl _
    | cons x l ih =>
      intro out
      have := ih (lossStep out x)
      have := lossStep_length out x
      simp only [List.foldl_cons, List.length_cons]
      omega
  have := key l []
  rw [List.length_nil, Nat.zero_add] at this
  exact this
theorem nack1_length (s b : Nat) : (nack1 s b).length ≤ 17 := by
  have := List.length_filter_le b.testBit (List.range 16)
  simp only [List.length_range] at this
  simp only [nack1, List.length_cons, List.length_map]
  omega
theorem nackN_length (L : List (Nat × Nat)) : (nackN L).length ≤ 17 * L.length := by
  induction L with
  | nil => simp [nackN]
  | cons p L ih =>
    have := nack1_length p.1 p.2
    simp only [nackN, List.flatMap_cons, List.length_append, List.length_cons] at ih ⊢
    omega
end Go.Proofs.Ytcempndfbckcaaa
