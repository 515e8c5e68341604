/- Pieces of slices, s[lo:hi], at a place that need not be known: one value, whatever the capacity. No condition. -/
import Derived.Test.YtafhnlnhflehhaaDoorBw
import Derived.Laws.Slices
namespace Go.Proofs.YtafhnlnhflehhaaDoor
open Go.RowKit
def cutA (a : Option Addr) (lo cap size : Nat) : Option Addr := if cap = lo then a else a.map (·.add (lo * size))
theorem cutA_none {a : Option Addr} {lo cap size : Nat} (h : cutA a lo cap size = none) : a = none := by
 unfold cutA at h
 split at h
 ·exact h
 ·simpa using h
theorem cutA_zero (a : Option Addr) (cap size : Nat) : cutA a 0 cap size = a := by
 unfold cutA
 split
 ·rfl
 ·cases a with
  | none => rfl
  | some x => simp [Addr.add]
theorem Sls.cut {w : World} {size : Nat} {a : Option Addr} {n cap : Nat} {xs : List Value} (h : Sls w size (.slice a n cap) n xs) (lo hi cap' : Nat) (h1 : lo ≤ hi) (h2 : hi ≤ n) (h3 : hi ≤ cap') (h4 : cap' ≤ cap) :
  Sls w size (.slice (cutA a lo cap' size) (hi - lo) (cap' - lo)) (hi - lo) ((xs.drop (lo * size)).take ((hi - lo) * size)) := by
 have hm1 : hi * size = (hi - lo) * size + lo * size := by rw [← Nat.add_mul]; congr 1; omega
 have hm2 : hi * size ≤ n * size := Nat.mul_le_mul_right _ h2
 obtain ⟨k1, k2, k3⟩ := h
 refine ⟨by rw [List.length_take, List.length_drop]; omega, by omega, ?_⟩
 by_cases h0 : hi - lo = 0
 ·rw [h0]
  have hcap : cap ≤ maxLen ∧ (a = none → cap = 0) := by
   rcases k3 with ⟨_, sa, cp, he, hc, hm⟩ | ⟨b, o, cp, he, hn, hc, _⟩
   ·cases he; exact ⟨hm, hc⟩
   ·cases he; exact ⟨hc, fun h => by cases h⟩
  exact .inl ⟨rfl, _, _, rfl, fun hn => by have := hcap.2 (cutA_none hn); omega, by omega⟩
 ·rcases k3 with ⟨hn, _⟩ | ⟨b, o, cp, he, hn, hc, hlt, hcell⟩
  ·omega
  ·cases he
   have hne : ¬ cap' = lo := by omega
   refine .inr ⟨b, o + lo * size, cap' - lo, ?_, by omega, by omega, hlt, fun j hj => ?_⟩
   ·simp [cutA, if_neg hne, Addr.add]
   ·rw [List.getElem?_take, if_pos hj, List.getElem?_drop, Nat.add_assoc]
    exact hcell _ (by omega)
theorem Ows.cut {w : World} {base : Nat} {E : TypeId} {size : Nat} {a : Option Addr} {n cap : Nat} {xs : List Value} (h : Ows w base E size (.slice a n cap) n xs) (lo hi cap' : Nat) (h1 : lo ≤ hi) (h2 : hi ≤ n) (h3 : hi ≤ cap') (h4 : cap' ≤ cap) :
  Ows w base E size (.slice (cutA a lo cap' size) (hi - lo) (cap' - lo)) (hi - lo) ((xs.drop (lo * size)).take ((hi - lo) * size)) := by
 have hm1 : hi * size = (hi - lo) * size + lo * size := by rw [← Nat.add_mul]; congr 1; omega
 have hm2 : hi * size ≤ n * size := Nat.mul_le_mul_right _ h2
 have hm3 : cap' * size = (cap' - lo) * size + lo * size := by rw [← Nat.add_mul]; congr 1; omega
 have hm4 : cap' * size ≤ cap * size := Nat.mul_le_mul_right _ h4
 obtain ⟨k1, ⟨he, hn⟩ | ⟨g, o, cp, cur, he, hg, hh, hn, hc, hs, ht⟩⟩ := h
 ·cases he
  obtain rfl : hi = 0 := by omega
  obtain rfl : lo = 0 := by omega
  obtain rfl : cap' = 0 := by omega
  exact ⟨by simp, .inl ⟨by rw [cutA_zero], rfl⟩⟩
 ·cases he
  refine ⟨by rw [List.length_take, List.length_drop]; omega, .inr ?_⟩
  by_cases hne : cap' = lo
  ·refine ⟨g, o, cap' - lo, cur, by simp only [cutA, if_pos hne], hg, hh, by omega, by omega, ?_, ?_⟩
   ·rw [hne, Nat.sub_self, Nat.zero_mul]; omega
   ·rw [show hi - lo = 0 by omega]; simp
  ·refine ⟨g, o + lo * size, cap' - lo, cur, ?_, hg, hh, by omega, by omega, by omega, ?_⟩
   ·simp [cutA, if_neg hne, Addr.add]
   ·rw [← ht, List.drop_take, List.drop_drop, List.take_take]
    congr 1; omega
theorem SB.cut {w : World} {a : Option Addr} {n cap : Nat} {l : List Nat} (h : SB w (.slice a n cap) n l) (lo hi cap' : Nat) (h1 : lo ≤ hi) (h2 : hi ≤ n) (h3 : hi ≤ cap') (h4 : cap' ≤ cap) :
  SB w (.slice (cutA a lo cap' 1) (hi - lo) (cap' - lo)) (hi - lo) ((l.drop lo).take (hi - lo)) := by
 refine ⟨by rw [List.length_take, List.length_drop, h.1]; omega, (h.2.1.drop lo).take _, ?_⟩
 have := h.2.2.cut lo hi cap' h1 h2 h3 h4
 rw [Nat.mul_one, Nat.mul_one] at this
 have e : ((bvs l).drop lo).take (hi - lo) = bvs ((l.drop lo).take (hi - lo)) := by simp [bvs, List.map_take, List.map_drop]
 rw [← e]; exact this
theorem OB.cut {w : World} {base : Nat} {E : TypeId} {a : Option Addr} {n cap : Nat} {l : List Nat} (h : OB w base E (.slice a n cap) n l) (lo hi cap' : Nat) (h1 : lo ≤ hi) (h2 : hi ≤ n) (h3 : hi ≤ cap') (h4 : cap' ≤ cap) :
  OB w base E (.slice (cutA a lo cap' 1) (hi - lo) (cap' - lo)) (hi - lo) ((l.drop lo).take (hi - lo)) := by
 refine ⟨by rw [List.length_take, List.length_drop, h.1]; omega, (h.2.1.drop lo).take _, ?_⟩
 have := h.2.2.cut lo hi cap' h1 h2 h3 h4
 rw [Nat.mul_one, Nat.mul_one] at this
 have e : ((bvs l).drop lo).take (hi - lo) = bvs ((l.drop lo).take (hi - lo)) := by simp [bvs, List.map_take, List.map_drop]
 rw [← e]; exact this
section
variable {P : Program} {T E : TypeId} {size : Nat}
end
end Go.Proofs.YtafhnlnhflehhaaDoor
