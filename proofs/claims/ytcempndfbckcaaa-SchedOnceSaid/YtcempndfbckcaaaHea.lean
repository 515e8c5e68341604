/- Heaps of numbers: one element rises, one sinks. Plain law. No condition. -/
import Derived.Lib.Hide
namespace Go.Proofs.Ytcempndfbckcaaa

def Hp (n : Nat) (f : Nat → Int) : Prop := ∀ k, k < n → 0 < k → f ((k - 1) / 2) ≤ f k
/-- A heap but for one place whose element may have to rise. -/
def HpU (n : Nat) (f : Nat → Int) (j : Nat) : Prop :=
  (∀ k, k < n → 0 < k → k ≠ j → f ((k - 1) / 2) ≤ f k) ∧ (∀ c, c < n → 0 < c → (c - 1) / 2 = j → 0 < j → f ((j - 1) / 2) ≤ f c)
/-- A heap but for one place whose element may have to sink, or, where it is the first, to rise. -/
def HpD (n : Nat) (f : Nat → Int) (i0 i : Nat) : Prop :=
  (∀ k, k < n → 0 < k → (k - 1) / 2 ≠ i → (k = i → i ≠ i0) → f ((k - 1) / 2) ≤ f k) ∧ (∀ c, c < n → 0 < c → (c - 1) / 2 = i → 0 < i → f ((i - 1) / 2) ≤ f c)
def swp (f : Nat → Int) (i j : Nat) (k : Nat) : Int := if k = i then f j else if k = j then f i else f k

theorem HpU.zero {n f} (h : HpU n f 0) : Hp n f := fun k h1 h2 => h.1 k h1 h2 (by omega)
theorem HpU.fin {n f j} (h : HpU n f j) (hl : f ((j - 1) / 2) ≤ f j) : Hp n f := fun k h1 h2 => by
  by_cases e : k = j
  · subst e; exact hl
  · exact h.1 k h1 h2 e
theorem HpU.step {n f j} (hj : j < n) (h0 : 0 < j) (h : HpU n f j) (hl : f j ≤ f ((j - 1) / 2)) : HpU n (swp f ((j - 1) / 2) j) ((j - 1) / 2) := by
  obtain ⟨h1, h2⟩ := h
  constructor
  · intro k k1 k2 k3
    by_cases e : k = j
    · subst e
      simp [swp, show k ≠ (k - 1) / 2 by omega]
      exact hl
    · by_cases ep : (k - 1) / 2 = j
      · simp only [swp, ep, e, k3, if_false, if_true, show j ≠ (j - 1) / 2 by omega]
        exact h2 k k1 k2 ep h0
      · by_cases eq : (k - 1) / 2 = (j - 1) / 2
        · have := h1 k k1 k2 e
          simp only [swp, eq, e, k3, if_false, if_true]
          rw [eq] at this
          omega
        · have := h1 k k1 k2 e
          simp only [swp, ep, eq, e, k3, if_false]
          exact this
  · intro c c1 c2 c3 c4
    have hp := h1 ((j - 1) / 2) (by omega) c4 (by omega)
    have q1 : (((j - 1) / 2) - 1) / 2 ≠ j := by omega
    have q2 : (((j - 1) / 2) - 1) / 2 ≠ (j - 1) / 2 := by omega
    have q3 : c ≠ (j - 1) / 2 := by omega
    by_cases e : c = j
    · subst e
      simp only [swp, q1, q2, q3, if_false, if_true]
      exact hp
    · have := h1 c c1 c2 e
      rw [c3] at this
      simp only [swp, q1, q2, q3, e, if_false]
      omega
theorem HpD.step {n f i0 i j} (hj : j < n) (h0 : 0 < j) (hp : (j - 1) / 2 = i) (hi : i0 ≤ i) (h : HpD n f i0 i) (hl : f j ≤ f i) (ho : ∀ c, c < n → 0 < c → (c - 1) / 2 = i → f j ≤ f c) : HpD n (swp f i j) i0 j := by
  obtain ⟨h1, h2⟩ := h
  subst hp
  constructor
  · intro k k1 k2 k3 k4
    by_cases e : k = j
    · subst e
      simp [swp, show k ≠ (k - 1) / 2 by omega]
      exact hl
    · by_cases ek : k = (j - 1) / 2
      · have := h2 j hj h0 rfl (by omega)
        subst ek
        simp only [swp, k3, e, if_false, if_true, show ((j - 1) / 2 - 1) / 2 ≠ (j - 1) / 2 by omega]
        exact this
      · by_cases eq : (k - 1) / 2 = (j - 1) / 2
        · simp only [swp, eq, e, ek, if_false, if_true]
          exact ho k k1 k2 eq
        · simp only [swp, k3, eq, e, ek, if_false]
          exact h1 k k1 k2 eq (fun x => absurd x ek)
  · intro c c1 c2 c3 c4
    have := h1 c c1 c2 (by omega) (by omega)
    rw [c3] at this
    simp only [swp, if_true, show c ≠ (j - 1) / 2 by omega, show c ≠ j by omega, if_false]
    exact this
theorem HpD.moved {n f i0 i} (hi : i0 < i) (h : HpD n f i0 i) (ho : ∀ c, c < n → 0 < c → (c - 1) / 2 = i → f i ≤ f c) : Hp n f := fun k h1 h2 => by
  by_cases e : (k - 1) / 2 = i
  · rw [e]; exact ho k h1 h2 e
  · exact h.1 k h1 h2 e (fun _ => by omega)
theorem HpD.stay {n f i} (h : HpD n f i i) (ho : ∀ c, c < n → 0 < c → (c - 1) / 2 = i → f i ≤ f c) : HpU n f i := by
  refine ⟨fun k h1 h2 h3 => ?_, h.2⟩
  by_cases e : (k - 1) / 2 = i
  · rw [e]; exact ho k h1 h2 e
  · exact h.1 k h1 h2 e (fun x => absurd x h3)
/-- The first of a heap is least. -/
theorem Hp.least {n f} (h : Hp n f) : ∀ k, k < n → f 0 ≤ f k := by
  intro k
  induction k using Nat.strongRecOn with
  | _ k ih =>
    intro hk
    by_cases e : k = 0
    · subst e; exact Int.le_refl _
    · have := h k hk (by omega)
      have := ih ((k - 1) / 2) (by omega) (by omega)
      omega
theorem Hp.less {n m f} (h : Hp n f) (hm : m ≤ n) : Hp m f := fun k h1 h2 => h k (by omega) h2
theorem Hp.congr {n f f'} (h : Hp n f) (e : ∀ k, k < n → f' k = f k) : Hp n f' := fun k h1 h2 => by
  rw [e k h1, e _ (by omega)]; exact h k h1 h2
theorem HpU.congr {n f f' j} (h : HpU n f j) (hj : j < n) (e : ∀ k, k < n → f' k = f k) : HpU n f' j :=
  ⟨fun k h1 h2 h3 => by rw [e k h1, e _ (by omega)]; exact h.1 k h1 h2 h3, fun c h1 h2 h3 h4 => by rw [e c h1, e _ (by omega)]; exact h.2 c h1 h2 h3 h4⟩
theorem HpD.congr {n f f' i0 j} (h : HpD n f i0 j) (hj : j < n) (e : ∀ k, k < n → f' k = f k) : HpD n f' i0 j :=
  ⟨fun k h1 h2 h3 h4 => by rw [e k h1, e _ (by omega)]; exact h.1 k h1 h2 h3 h4, fun c h1 h2 h3 h4 => by rw [e c h1, e _ (by omega)]; exact h.2 c h1 h2 h3 h4⟩
/-- A heap whose first has been put another in place of. -/
theorem Hp.sink {n f f'} (h : Hp n f) (e : ∀ k, k < n → 0 < k → f' k = f k) : HpD n f' 0 0 :=
  ⟨fun k h1 h2 h3 _ => by rw [e k h1 h2, e _ (by omega) (by omega)]; exact h k h1 h2, fun c _ _ _ h4 => absurd h4 (by omega)⟩
/-- A heap with one more behind it. -/
theorem Hp.rise {n f f'} (h : Hp n f) (e : ∀ k, k < n → f' k = f k) : HpU (n + 1) f' n :=
  ⟨fun k h1 h2 h3 => by rw [e k (by omega), e _ (by omega)]; exact h k (by omega) h2, fun c h1 h2 h3 _ => absurd h3 (by omega)⟩
/-- The numbers of a list. -/
def kf {α : Type} (key : α → Int) (d : α) (L : List α) (k : Nat) : Int := key (L.getD k d)
theorem kf_get {α : Type} {key : α → Int} {d : α} {L : List α} {k : Nat} (h : k < L.length) : kf key d L k = key L[k] := by
  simp [kf, List.getD_eq_getElem?_getD, h]
def swapL {α : Type} (L : List α) (i k : Nat) (hi : i < L.length) (hk : k < L.length) : List α := (L.set i L[k]).set k L[i]
theorem swapL_len {α : Type} {L : List α} {i k : Nat} (hi : i < L.length) (hk : k < L.length) : (swapL L i k hi hk).length = L.length := by simp [swapL]
theorem swapL_perm {α : Type} {L : List α} {i k : Nat} (hi : i < L.length) (hk : k < L.length) : L.Perm (swapL L i k hi hk) := (List.set_set_perm hi hk).symm
theorem swapL_drop {α : Type} {L : List α} {i k m : Nat} (hi : i < L.length) (hk : k < L.length) (h1 : i < m) (h2 : k < m) : (swapL L i k hi hk).drop m = L.drop m := by
  unfold swapL; rw [List.drop_set_of_lt h2, List.drop_set_of_lt h1]
theorem swapL_kf {α : Type} {key : α → Int} {d : α} {L : List α} {i k : Nat} (hi : i < L.length) (hk : k < L.length) (x : Nat) : kf key d (swapL L i k hi hk) x = swp (kf key d L) i k x := by
  unfold kf swapL swp
  simp only [List.getD_eq_getElem?_getD, List.getElem?_set, List.length_set]
  by_cases e1 : k = x
  · subst e1
    by_cases e2 : k = i
    · subst e2; simp [hk]
    · simp [hk, e2, hi]
  · by_cases e2 : i = x
    · subst e2
      simp [e1, hi, hk]
    · simp [e1, e2, Ne.symm e1, Ne.symm e2]
end Go.Proofs.Ytcempndfbckcaaa
