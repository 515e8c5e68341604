/- What is pushed onto a pacer: plain laws. No condition. -/
import Derived.Test.YtgiajnfmjpdodaaPaD
namespace Go.Proofs.Ytgiajnfmjpdodaa
open Go.RowKit

def topC (qs : List (List (List Nat))) : Nat := if (qs.getD 3 []).length ≠ 0 then 3 else if (qs.getD 2 []).length ≠ 0 then 2 else if (qs.getD 1 []).length ≠ 0 then 1 else 0
def dropsN (n : Nat) : Nat → PcS → PcS
  | 0, S => S
  | k + 1, S => if roomB S 0 0 n = true then S else dropsN n k (dropS S (topC S.qs))
/-- An error's number, and the pacer behind it. -/
def pushN (S : PcS) (cls : Int) (b : List Nat) : Nat × PcS :=
  if cls < 0 ∨ 4 ≤ cls ∨ b.length = 0 then (1, S)
  else if S.burst < b.length then (8, S)
  else if roomB S (mny (S.qs.drop (cls.toNat + 1))) (siz (S.qs.drop (cls.toNat + 1))) b.length = false then (6, S)
  else let T := dropsN b.length (mny S.qs) S
    (0, { T with qs := T.qs.set cls.toNat (T.qs.getD cls.toNat [] ++ [b]) })

theorem qs4 {qs : List (List (List Nat))} (h : qs.length = 4) : qs = [qs.getD 0 [], qs.getD 1 [], qs.getD 2 [], qs.getD 3 []] := by
  match qs, h with
  | [_, _, _, _], _ => rfl
theorem mny4 {qs : List (List (List Nat))} (h : qs.length = 4) : mny qs = (qs.getD 0 []).length + ((qs.getD 1 []).length + ((qs.getD 2 []).length + (qs.getD 3 []).length)) := by
  match qs, h with
  | [_, _, _, _], _ => simp [mny]
theorem siz4 {qs : List (List (List Nat))} (h : qs.length = 4) : siz qs = lnS (qs.getD 0 []) + (lnS (qs.getD 1 []) + (lnS (qs.getD 2 []) + lnS (qs.getD 3 []))) := by
  match qs, h with
  | [_, _, _, _], _ => simp [siz]
theorem mny_split (qs : List (List (List Nat))) (k : Nat) : mny qs = mny (qs.take k) + mny (qs.drop k) := by
  unfold mny
  rw [List.map_take, List.map_drop, ← List.sum_append, List.take_append_drop]
theorem siz_split (qs : List (List (List Nat))) (k : Nat) : siz qs = siz (qs.take k) + siz (qs.drop k) := by
  unfold siz
  rw [List.map_take, List.map_drop, ← List.sum_append, List.take_append_drop]
theorem topC_spec {qs : List (List (List Nat))} (h : qs.length = 4) (hm : 0 < mny qs) : topC qs < 4 ∧ 0 < (qs.getD (topC qs) []).length ∧ ∀ d, topC qs < d → d < 4 → (qs.getD d []).length = 0 := by
  have e := mny4 h
  unfold topC
  by_cases h3 : (qs.getD 3 []).length ≠ 0
  · rw [if_pos h3]
    exact ⟨by decide, by omega, fun d h1 h2 => by omega⟩
  rw [if_neg h3]
  by_cases h2 : (qs.getD 2 []).length ≠ 0
  · rw [if_pos h2]
    refine ⟨by decide, by omega, fun d h1 h2 => ?_⟩
    obtain rfl : d = 3 := by omega
    omega
  rw [if_neg h2]
  by_cases h1 : (qs.getD 1 []).length ≠ 0
  · rw [if_pos h1]
    refine ⟨by decide, by omega, fun d h1 h2 => ?_⟩
    have hd : d = 2 ∨ d = 3 := by omega
    rcases hd with rfl | rfl <;> omega
  rw [if_neg h1]
  refine ⟨by decide, by omega, fun d h1 h2 => ?_⟩
  have hd : d = 1 ∨ d = 2 ∨ d = 3 := by omega
  rcases hd with rfl | rfl | rfl <;> omega
theorem topC_up {qs : List (List (List Nat))} (h : qs.length = 4) (k : Nat) (hk : k < 4) (hm : 0 < mny (qs.drop (k + 1))) : k < topC qs := by
  have e := qs4 h
  generalize qs.getD 0 [] = q0 at *
  generalize qs.getD 1 [] = q1 at *
  generalize qs.getD 2 [] = q2 at *
  generalize qs.getD 3 [] = q3 at *
  subst e
  have g1 : ([q0, q1, q2, q3] : List (List (List Nat))).getD 1 [] = q1 := rfl
  have g2 : ([q0, q1, q2, q3] : List (List (List Nat))).getD 2 [] = q2 := rfl
  have g3 : ([q0, q1, q2, q3] : List (List (List Nat))).getD 3 [] = q3 := rfl
  unfold topC
  rw [g1, g2, g3]
  have hk' : k = 0 ∨ k = 1 ∨ k = 2 ∨ k = 3 := by omega
  rcases hk' with rfl | rfl | rfl | rfl
  · have : 0 < q1.length + (q2.length + q3.length) := by simpa [mny] using hm
    split
    · omega
    split
    · omega
    split <;> omega
  · have : 0 < q2.length + q3.length := by simpa [mny] using hm
    split
    · omega
    split <;> omega
  · have : 0 < q3.length := by simpa [mny] using hm
    split <;> omega
  · simp [mny] at hm
theorem sum_set (l : List Nat) (i x : Nat) (h : i < l.length) : (l.set i x).sum + l.getD i 0 = l.sum + x := by
  induction l generalizing i with
  | nil => simp at h
  | cons a l ih =>
    cases i with
    | zero => simp; omega
    | succ i =>
      have := ih i (by simpa using h)
      simp only [List.set_cons_succ, List.sum_cons, List.getD_cons_succ]
      omega
theorem mny_set (qs : List (List (List Nat))) (c : Nat) (q : List (List Nat)) (h : c < qs.length) : mny (qs.set c q) + (qs.getD c []).length = mny qs + q.length := by
  have := sum_set (qs.map List.length) c q.length (by simpa using h)
  unfold mny
  rw [List.map_set]
  rw [← this]
  congr 1
  simp [List.getD_eq_getElem?_getD, List.getElem?_eq_getElem h]
theorem siz_set (qs : List (List (List Nat))) (c : Nat) (q : List (List Nat)) (h : c < qs.length) : siz (qs.set c q) + lnS (qs.getD c []) = siz qs + lnS q := by
  have := sum_set (qs.map lnS) c (lnS q) (by simpa using h)
  unfold siz
  rw [List.map_set]
  rw [← this]
  congr 1
  simp [List.getD_eq_getElem?_getD, List.getElem?_eq_getElem h]
theorem dropS_mny {S : PcS} {c : Nat} (hq : S.qs.length = 4) (hc : c < 4) (hn : 0 < (S.qs.getD c []).length) : mny (dropS S c).qs + 1 = mny S.qs := by
  have := mny_set S.qs c ((S.qs.getD c []).take ((S.qs.getD c []).length - 1)) (by omega)
  rw [List.length_take] at this
  show mny (S.qs.set c _) + 1 = _
  omega
theorem dropS_siz {S : PcS} {c : Nat} (hq : S.qs.length = 4) (hc : c < 4) : siz (dropS S c).qs ≤ siz S.qs := by
  have := siz_set S.qs c ((S.qs.getD c []).take ((S.qs.getD c []).length - 1)) (by omega)
  have h2 := lnS_le (S.qs.getD c []) ((S.qs.getD c []).length - 1)
  show siz (S.qs.set c _) ≤ _
  omega
theorem dropS_take {S : PcS} {c k : Nat} (h : k ≤ c) : (dropS S c).qs.take k = S.qs.take k := by
  show (S.qs.set c _).take k = _
  rw [List.take_set_of_le h]
theorem roomB_up (S : PcS) (k n : Nat) : roomB S (mny (S.qs.drop k)) (siz (S.qs.drop k)) n = decide ((mny (S.qs.take k) : Int) < S.packets ∧ (n : Int) ≤ S.bytes ∧ (siz (S.qs.take k) : Int) ≤ S.bytes - n) := by
  unfold roomB
  have h1 := mny_split S.qs k
  have h2 := siz_split S.qs k
  rw [show (mny S.qs : Int) - (mny (S.qs.drop k) : Nat) = (mny (S.qs.take k) : Int) by omega, show (siz S.qs : Int) - (siz (S.qs.drop k) : Nat) = (siz (S.qs.take k) : Int) by omega]
theorem siz_zero {qs : List (List (List Nat))} : mny qs = 0 → siz qs = 0 := by
  induction qs with
  | nil => intro _; rfl
  | cons q qs ih =>
    intro h
    have h1 : q.length + mny qs = 0 := h
    have h2 : q = [] := List.eq_nil_of_length_eq_zero (by omega)
    subst h2
    show lnS [] + siz qs = 0
    rw [ih (by omega)]; rfl
/-- No room, though there were room without the upper classes: one of these has packets. -/
theorem room_more {S : PcS} {k n : Nat} (h : roomB S (mny (S.qs.drop k)) (siz (S.qs.drop k)) n = true) (h0 : roomB S 0 0 n = false) : 0 < mny (S.qs.drop k) := by
  rcases Nat.eq_zero_or_pos (mny (S.qs.drop k)) with e | e
  · rw [e, siz_zero e, h0] at h; cases h
  · exact e
theorem dropsN_room {S : PcS} {n : Nat} (h : roomB S 0 0 n = true) : ∀ k, dropsN n k S = S
  | 0 => rfl
  | k + 1 => by unfold dropsN; rw [if_pos h]
end Go.Proofs.Ytgiajnfmjpdodaa
