/-  -/
import Derived.Test.YtojedpahaifjgaaVpE
namespace Go.Proofs.Ytojedpahaifjgaa
open Go.RowKit
def turnN (l : List Int) (p : Int) (wide : Bool) : List Int := if wide then (l.set 2 (p / 256 % 128 + 128)).set 3 (p % 256) else l.set 2 (p % 128)
theorem turnN_len (l : List Int) (p : Int) (wd : Bool) : (turnN l p wd).length = l.length := by unfold turnN; split <;> simp
theorem turnN_mem {l : List Int} (h : ∀ x ∈ l, 0 ≤ x ∧ x ≤ 255) (p : Int) (wd : Bool) : ∀ x ∈ turnN l p wd, 0 ≤ x ∧ x ≤ 255 := by
 unfold turnN
 intro x hx
 split at hx
 ·rcases List.mem_or_eq_of_mem_set hx with hx | hx
  ·rcases List.mem_or_eq_of_mem_set hx with hx | hx
   ·exact h x hx
   ·subst hx; omega
  ·subst hx; omega
 ·rcases List.mem_or_eq_of_mem_set hx with hx | hx
  ·exact h x hx
  ·subst hx; omega
theorem turnN_ne {l : List Int} {p : Int} {wd : Bool} {i : Nat} (h2 : i ≠ 2) (h3 : wd = true → i ≠ 3) : (turnN l p wd).getD i 0 = l.getD i 0 := by
 unfold turnN
 simp only [List.getD_eq_getElem?_getD]
 split
 ·rw [List.getElem?_set_ne (by have := h3 ‹_›; omega), List.getElem?_set_ne (by omega)]
 ·rw [List.getElem?_set_ne (by omega)]
theorem turnN_two {l : List Int} {p : Int} {wd : Bool} (h : 2 < l.length) : (turnN l p wd).getD 2 0 = if wd then p / 256 % 128 + 128 else p % 128 := by
 unfold turnN
 simp only [List.getD_eq_getElem?_getD]
 split
 ·rw [List.getElem?_set_ne (by omega), List.getElem?_set_self h]; rfl
 ·rw [List.getElem?_set_self h]; rfl
theorem turnN_three {l : List Int} {p : Int} (h : 3 < l.length) : (turnN l p true).getD 3 0 = p % 256 := by
 unfold turnN
 simp only [List.getD_eq_getElem?_getD, if_true]
 rw [List.getElem?_set_self (by simpa using h)]; rfl
theorem has_place (l : List Int) (hb : rBad l = 0) (hh : 128 ≤ rSec l) : 128 ≤ l.getD 0 0 ∧ rSec l = l.getD 1 0 ∧ rAt1 l = 2 ∧ 2 < l.length ∧ (128 ≤ l.getD 2 0 → 3 < l.length) := by
 have h0 : 128 ≤ l.getD 0 0 := by
  unfold rSec at hh; split at hh <;> omega
 have h1 : rSec l = l.getD 1 0 := by unfold rSec; rw [if_pos h0]
 have h2 : rAt1 l = 2 := by unfold rAt1; rw [if_pos h0]
 refine ⟨h0, h1, h2, ?_, ?_⟩ <;>
 ·unfold rBad at hb
  rw [h2] at hb
  repeat (split at hb <;> try (simp at hb; done))
  omega
theorem turn_law (l : List Int) (hr : ∀ x ∈ l, 0 ≤ x ∧ x ≤ 255) (p : Int) (hp : 0 ≤ p) (b0 : Bool) (n1 : Int) (wd : Bool) (n4 : Int) (b5 : Bool) (n6 pl : Int)
  (ho : rOut l = (#[.bool b0, .int .u8 n1, .bool true, .bool wd, .int .u16 n4, .bool b5, .int .i64 n6], pl, 0)) :
  pl = 2 ∧ 2 < l.length ∧ (wd = true → 3 < l.length) ∧
  rOut (turnN l p wd) = (#[.bool b0, .int .u8 n1, .bool true, .bool wd, .int .u16 (if wd then p % 32768 else p % 128), .bool b5, .int .i64 n6], 2, 0) := by
 unfold rOut at ho
 by_cases hb : rBad l = 0
 ·rw [if_neg (by simp [hb])] at ho
  by_cases hs : l.length < rAt4 (rSec l) (rAt3 (rSec l) (rNum l (rSec l) (rAt1 l)).2.2.2.2)
  ·rw [if_pos hs] at ho; simp at ho
  rw [if_neg hs] at ho
  by_cases hh : 128 ≤ rSec l
  ·obtain ⟨k0, k1, k2, k3, k4⟩ := has_place l hb hh
   have hN : rNum l (rSec l) (rAt1 l) = if 128 ≤ l.getD 2 0 then ((2 : Int), true, true, (l.getD 2 0 - 128) * 256 + l.getD (2 + 1) 0, 2 + 2) else ((2 : Int), true, false, l.getD 2 0, 2 + 1) := by
    unfold rNum; rw [if_pos hh, k2]; rfl
   have t0 : (turnN l p wd).getD 0 0 = l.getD 0 0 := turnN_ne (by omega) (fun _ => by omega)
   have t1 : (turnN l p wd).getD 1 0 = l.getD 1 0 := turnN_ne (by omega) (fun _ => by omega)
   have tsec : rSec (turnN l p wd) = rSec l := by unfold rSec; rw [t0, t1]
   have tat : rAt1 (turnN l p wd) = 2 := by unfold rAt1; rw [t0, if_pos k0]
   have tlen := turnN_len l p wd
   have t2 := turnN_two (l := l) (p := p) (wd := wd) k3
   by_cases hw : 128 ≤ l.getD 2 0
   ·rw [if_pos hw] at hN
    rw [hN] at ho hs
    simp only [Prod.mk.injEq, Array.mk.injEq, List.cons.injEq, Value.bool.injEq, Value.int.injEq, and_true, true_and] at ho
    obtain ⟨⟨e0, e1, e3, e4, e5, e6⟩, e7⟩ := ho
    subst e3
    have l3 := k4 hw
    rw [if_pos rfl] at t2
    have t3 := turnN_three (l := l) (p := p) l3
    have tN : rNum (turnN l p true) (rSec l) 2 = ((2 : Int), true, true, p % 32768, 4) := by
     unfold rNum; rw [if_pos hh, t2, if_pos (by omega), t3]
     congr 4
     omega
    have tB : rBad (turnN l p true) = 0 := by
     unfold rBad at hb ⊢
     rw [tsec, tat, tlen, t0, t1, t2]
     rw [k2] at hb
     repeat (split at hb <;> try (simp at hb; done))
     rw [if_neg (by omega), if_neg (by assumption), if_neg (by omega), if_neg (by omega), if_neg (by omega), if_neg (by omega)]
    refine ⟨e7.symm, k3, fun _ => l3, ?_⟩
    unfold rOut
    rw [if_neg (by simp [tB]), tsec, tat, tN, tlen, if_neg hs, t0]
    have tK : rKey (turnN l p true) (rAt4 (rSec l) (rAt3 (rSec l) 4)) = rKey l (rAt4 (rSec l) (rAt3 (rSec l) 4)) := by
     have : 4 ≤ rAt4 (rSec l) (rAt3 (rSec l) 4) := by unfold rAt4 rAt3; split <;> split <;> omega
     unfold rKey
     rw [t0, tlen, turnN_ne (by omega) (fun _ => by omega)]
    rw [tK, e0, e1, e5, e6]
    simp
   ·rw [if_neg hw] at hN
    rw [hN] at ho hs
    simp only [Prod.mk.injEq, Array.mk.injEq, List.cons.injEq, Value.bool.injEq, Value.int.injEq, and_true, true_and] at ho
    obtain ⟨⟨e0, e1, e3, e4, e5, e6⟩, e7⟩ := ho
    subst e3
    rw [if_neg (by simp)] at t2
    have tN : rNum (turnN l p false) (rSec l) 2 = ((2 : Int), true, false, p % 128, 3) := by
     unfold rNum; rw [if_pos hh, t2, if_neg (by omega)]; rfl
    have tB : rBad (turnN l p false) = 0 := by
     unfold rBad at hb ⊢
     rw [tsec, tat, tlen, t0, t1, t2]
     rw [k2] at hb
     repeat (split at hb <;> try (simp at hb; done))
     rw [if_neg (by omega), if_neg (by assumption), if_neg (by omega), if_neg (by omega), if_neg (by omega), if_neg (by omega)]
    refine ⟨e7.symm, k3, fun h => by simp at h, ?_⟩
    unfold rOut
    rw [if_neg (by simp [tB]), tsec, tat, tN, tlen, if_neg hs, t0]
    have tK : rKey (turnN l p false) (rAt4 (rSec l) (rAt3 (rSec l) 3)) = rKey l (rAt4 (rSec l) (rAt3 (rSec l) 3)) := by
     have : 3 ≤ rAt4 (rSec l) (rAt3 (rSec l) 3) := by unfold rAt4 rAt3; split <;> split <;> omega
     unfold rKey
     rw [t0, tlen, turnN_ne (by omega) (fun h => by simp at h)]
    rw [tK, e0, e1, e5, e6]
    simp
  ·have hN : rNum l (rSec l) (rAt1 l) = (0, false, false, 0, rAt1 l) := by unfold rNum; rw [if_neg hh]
   rw [hN] at ho
   simp at ho
 ·rw [if_pos hb] at ho
  simp at ho; omega
end Go.Proofs.Ytojedpahaifjgaa
