/- What is let out by one list, and by four: plain laws. No condition. -/
import Derived.Test.YtgiajnfmjpdodaaPaQ
namespace Go.Proofs.Ytgiajnfmjpdodaa
open Go.RowKit

/-- The place of the oldest one of the least class, of the last m. -/
def firstR (L : PL) : Nat → Option Nat
  | 0 => none
  | m + 1 => match firstR L m with
    | none => some (L.length - (m + 1))
    | some a => if cl L (L.length - (m + 1)) ≤ cl L a then some (L.length - (m + 1)) else some a
def FirstIs (L : PL) (m : Nat) : Option Nat → Prop
  | none => m = 0
  | some a => L.length - m ≤ a ∧ a < L.length ∧ ∀ j, L.length - m ≤ j → j < L.length → cl L a ≤ cl L j ∧ (j < a → cl L a < cl L j)
theorem firstR_is (L : PL) : ∀ m, m ≤ L.length → FirstIs L m (firstR L m)
  | 0, _ => rfl
  | m + 1, hm => by
    have ih := firstR_is L m (by omega)
    unfold firstR
    cases h : firstR L m with
    | none =>
      rw [h] at ih
      have ih' : m = 0 := ih
      subst ih'
      refine ⟨by omega, by omega, fun j h1 h2 => ?_⟩
      obtain rfl : j = L.length - 1 := by omega
      exact ⟨Int.le_refl _, fun h => by omega⟩
    | some a =>
      rw [h] at ih
      obtain ⟨i1, i2, i3⟩ := ih
      dsimp only
      by_cases hc : cl L (L.length - (m + 1)) ≤ cl L a
      · rw [if_pos hc]
        refine ⟨by omega, by omega, fun j h1 h2 => ?_⟩
        by_cases e : j = L.length - (m + 1)
        · rw [e]; exact ⟨by omega, fun h => by omega⟩
        · have := i3 j (by omega) h2; exact ⟨by omega, fun h => by omega⟩
      · rw [if_neg hc]
        refine ⟨by omega, i2, fun j h1 h2 => ?_⟩
        by_cases e : j = L.length - (m + 1)
        · rw [e]; exact ⟨by omega, fun h => by omega⟩
        · exact i3 j (by omega) h2
def routR : Nat → PL → Int → PL → PL × PL × Int
  | 0, L, h, o => (o, L, h)
  | f + 1, L, h, o => match firstR L L.length with
    | none => (o, L, h)
    | some a => if h < (L.getD a (0, [])).2.length then (o, L, h) else routR f (L.eraseIdx a) (h - (L.getD a (0, [])).2.length) (o ++ [L.getD a (0, [])])
theorem routR_nil (f : Nat) (h : Int) (o : PL) : routR f [] h o = (o, [], h) := by cases f <;> rfl
theorem first_of {S : PcS} {L : PL} (h : QL S.qs L) {c : Nat} (hc : c < 4) (hlow : ∀ d, d < c → S.qs.getD d [] = []) {x : List Nat} {q : List (List Nat)} (hx : S.qs.getD c [] = x :: q) :
    ∃ a, firstR L L.length = some a ∧ a < L.length ∧ L.getD a (0, []) = ((c : Int), x) ∧ QL (S.qs.set c q) (L.eraseIdx a) := by
  have hi := firstR_is L L.length (Nat.le_refl _)
  have hx2 := hx
  rw [h.at_ c hc] at hx2
  obtain ⟨j, j1, j2⟩ := ofC_some (c := c) (A := L) (by rw [hx2]; simp)
  cases ha : firstR L L.length with
  | none => rw [ha] at hi; have hi' : L.length = 0 := hi; omega
  | some a =>
    rw [ha] at hi
    obtain ⟨i1, i2, i3⟩ := hi
    have hle := (i3 j (by omega) j1).1
    obtain ⟨b0, b1⟩ := h.cl i2
    obtain ⟨d, hd⟩ : ∃ d : Nat, cl L a = (d : Int) := ⟨(cl L a).toNat, by omega⟩
    have hsp := split_at L a i2
    have hca : (L[a]).1 = (d : Int) := by rw [← cl_get i2, hd]
    have hearly : ofC d (L.take a) = [] := ofC_none _ _ fun p hp e => by
      obtain ⟨k, k1, k2⟩ := mem_take_cl hp (by omega)
      have := (i3 k (by omega) (by omega)).2 k1
      omega
    have hd1 : ofC d L = L[a].2 :: ofC d (L.drop (a + 1)) := by
      conv => lhs; rw [hsp]
      rw [ofC_app, ofC_cons, if_pos hca, hearly]; rfl
    have hdc : d = c := by
      have e1 : d ≤ c := by omega
      refine Nat.le_antisymm e1 (Nat.le_of_not_lt fun hlt => ?_)
      have := hlow d hlt
      rw [h.at_ d (by omega), hd1] at this
      cases this
    subst hdc
    rw [hd1] at hx2
    obtain ⟨hxa, hqa⟩ := List.cons.inj hx2
    refine ⟨a, rfl, i2, ?_, h.sub (by rw [List.length_set]; exact h.ql) sub_erase fun e he => ?_⟩
    · rw [List.getD_eq_getElem?_getD, List.getElem?_eq_getElem i2]
      show L[a] = _
      exact Prod.ext hca hxa
    · rw [getD_set _ _ _ _ _ (by rw [h.ql]; exact hc), List.eraseIdx_eq_take_drop_succ, ofC_app]
      by_cases e1 : e = d
      · rw [if_pos e1, e1, hearly, List.nil_append, hqa]
      · rw [if_neg e1, h.at_ e he]
        conv => lhs; rw [hsp]
        rw [ofC_app, ofC_cons, if_neg (by rw [hca]; omega)]
theorem out_same' : ∀ (f c : Nat) (S : PcS) (L o : PL) (g : Nat), QL S.qs L → (∀ d, d < c → d < 4 → S.qs.getD d [] = []) → mny S.qs + (4 - c) + 1 ≤ f → L.length + 1 ≤ g →
    (outR f c S o).1 = (routR g L S.hav o).1 ∧ QL (outR f c S o).2.qs (routR g L S.hav o).2.1 ∧ (outR f c S o).2.hav = (routR g L S.hav o).2.2
  | 0, _, _, _, _, _, _, _, hf, _ => by omega
  | f + 1, c, S, L, o, g, h, hlow, hf, hg => by
    obtain ⟨g, rfl⟩ : ∃ k, g = k + 1 := ⟨g - 1, by omega⟩
    unfold outR
    by_cases h4 : 4 ≤ c
    · rw [if_pos h4]
      have hm : L.length = 0 := by
        rw [← h.mny, mny4 h.ql, hlow 0 (by omega) (by omega), hlow 1 (by omega) (by omega), hlow 2 (by omega) (by omega), hlow 3 (by omega) (by omega)]; rfl
      obtain rfl : L = [] := List.eq_nil_of_length_eq_zero hm
      rw [routR_nil]
      exact ⟨rfl, h, rfl⟩
    rw [if_neg h4]
    cases hx : S.qs.getD c [] with
    | nil =>
      dsimp only
      refine out_same' f (c + 1) S L o (g + 1) h (fun d hd hd4 => ?_) (by omega) hg
      by_cases e : d = c
      · rw [e]; exact hx
      · exact hlow d (by omega) hd4
    | cons x q =>
      dsimp only
      obtain ⟨a, a1, a2, a3, a4⟩ := first_of h (by omega) (fun d hd => hlow d hd (by omega)) hx
      unfold routR
      rw [a1]
      dsimp only
      rw [a3]
      dsimp only
      by_cases hl : S.hav < x.length
      · rw [if_pos hl, if_pos hl]; exact ⟨rfl, h, rfl⟩
      rw [if_neg hl, if_neg hl]
      have hms := mny_set S.qs c q (by rw [h.ql]; omega)
      rw [hx, List.length_cons] at hms
      refine out_same' f c { S with hav := S.hav - x.length, qs := S.qs.set c q } (L.eraseIdx a) _ g a4 (fun d hd hd4 => ?_) (by show mny (S.qs.set c q) + _ + _ ≤ _; omega) (by rw [List.length_eraseIdx, if_pos a2]; omega)
      show (S.qs.set c q).getD d [] = []
      rw [getD_set _ _ _ _ _ (by rw [h.ql]; omega), if_neg (by omega)]
      exact hlow d hd hd4
theorem out_same (S : PcS) (L : PL) (h : QL S.qs L) :
    (outN S).1 = (routR (L.length + 1) L S.hav []).1 ∧ QL (outN S).2.qs (routR (L.length + 1) L S.hav []).2.1 ∧ (outN S).2.hav = (routR (L.length + 1) L S.hav []).2.2 :=
  out_same' (mny S.qs + 5) 0 S L [] (L.length + 1) h (fun d hd => by omega) (by omega) (Nat.le_refl _)
end Go.Proofs.Ytgiajnfmjpdodaa
