/- Packets put into order: the least one of a list as they came, and what is told by it. Plain law. -/
import Derived.Test.YtcempndfbckcaaaReA
import Derived.Test.YtcempndfbckcaaaHea
namespace Go.Proofs.Ytcempndfbckcaaa

def d0E : Ent := ⟨0, [], 0⟩
/-- The place of the first least one of the first k. -/
def leastTo (L : List Ent) : Nat → Nat
  | 0 => 0
  | k + 1 => let at_ := leastTo L k
    if (L.getD k d0E).i < (L.getD at_ d0E).i then k else at_
def leastI (L : List Ent) : Nat := leastTo L L.length
theorem leastTo_lt (L : List Ent) : ∀ k, 0 < k → leastTo L k < k
  | 0, h => by omega
  | 1, _ => by simp [leastTo]
  | k + 2, _ => by
    have := leastTo_lt L (k + 1) (by omega)
    rw [leastTo]
    split <;> omega
theorem leastTo_le (L : List Ent) : ∀ k j, j < k → (L.getD (leastTo L k) d0E).i ≤ (L.getD j d0E).i
  | 0, j, h => by omega
  | k + 1, j, h => by
    rw [leastTo]
    by_cases hj : j < k
    · have := leastTo_le L k j hj
      split <;> omega
    · obtain rfl : j = k := by omega
      split <;> omega
theorem leastI_lt {L : List Ent} (h : 0 < L.length) : leastI L < L.length := leastTo_lt L _ h
theorem leastI_le {L : List Ent} (x : Ent) (hx : x ∈ L) : (L.getD (leastI L) d0E).i ≤ x.i := by
  obtain ⟨j, hj, rfl⟩ := List.getElem_of_mem hx
  have := leastTo_le L L.length j hj
  rw [show L.getD j d0E = L[j] by simp [List.getD_eq_getElem?_getD, hj]] at this
  exact this
theorem perm_eraseIdx {L : List Ent} {k : Nat} (h : k < L.length) : L.Perm (L[k] :: L.eraseIdx k) := by
  induction L generalizing k with
  | nil => simp at h
  | cons a l ih =>
    cases k with
    | zero => exact .refl _
    | succ k =>
      have h' : k < l.length := by simpa using h
      exact ((ih h').cons a).trans (.swap _ _ _)
/-- Two least ones of lists that bear the same, each number once: the same, and the rest the same. -/
theorem least_same {L H H' : List Ent} {E : Ent} (h0 : 0 < L.length) (hp : L.Perm H) (hn : (L.map Ent.i).Nodup) (hH : H.Perm (E :: H')) (hE : ∀ x ∈ H, E.i ≤ x.i) :
    E = L.getD (leastI L) d0E ∧ (L.eraseIdx (leastI L)).Perm H' := by
  have hl := leastI_lt h0
  have hg : L.getD (leastI L) d0E = L[leastI L] := by simp [List.getD_eq_getElem?_getD, hl]
  have hEm : E ∈ L := hp.mem_iff.2 (hH.mem_iff.2 List.mem_cons_self)
  have h1 : (L.getD (leastI L) d0E).i ≤ E.i := leastI_le E hEm
  have h2 : E.i ≤ (L[leastI L]).i := hE _ (hp.mem_iff.1 (List.getElem_mem hl))
  obtain ⟨j, hj, rfl⟩ := List.getElem_of_mem hEm
  rw [hg] at h1 ⊢
  have he : (L[j]).i = (L[leastI L]).i := by omega
  have hjl : j = leastI L := by
    have hP := List.pairwise_iff_getElem.1 (show (L.map Ent.i).Pairwise (· ≠ ·) from hn)
    rcases Nat.lt_trichotomy j (leastI L) with h3 | h3 | h3
    · exact absurd (by rw [List.getElem_map, List.getElem_map]; exact he) (hP j (leastI L) (by simpa using hj) (by simpa using hl) h3)
    · exact h3
    · exact absurd (by rw [List.getElem_map, List.getElem_map]; exact he.symm) (hP (leastI L) j (by simpa using hl) (by simpa using hj) h3)
  subst hjl
  refine ⟨rfl, ?_⟩
  have h3 := (perm_eraseIdx hl).symm.trans (hp.trans hH)
  exact h3.cons_inv
end Go.Proofs.Ytcempndfbckcaaa
