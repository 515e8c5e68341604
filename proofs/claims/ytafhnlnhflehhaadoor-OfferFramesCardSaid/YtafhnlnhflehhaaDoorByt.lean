/- Bytes as lists of numbers: slices of bytes read, and of the call's own. -/
import Derived.Test.YtafhnlnhflehhaaDoorSl
import Derived.Test.YtafhnlnhflehhaaDoorShP
namespace Go.Proofs.YtafhnlnhflehhaaDoor
open Go.RowKit
def bvs (l : List Nat) : List Value := l.map fun n => Value.int .u8 (n : Nat)
theorem bvs_len (l : List Nat) : (bvs l).length = l.length := by simp [bvs]
theorem bvs_get (l : List Nat) (i : Nat) (h : i < l.length) : (bvs l)[i]? = some (.int .u8 (l.getD i 0 : Nat)) := by simp [bvs, List.getElem?_eq_getElem h]
def ByL (l : List Nat) : Prop := ∀ x ∈ l, x < 256
theorem ByL.get {l : List Nat} (h : ByL l) (i : Nat) : l.getD i 0 < 256 := by
 rw [List.getD_eq_getElem?_getD]
 rcases Nat.lt_or_ge i l.length with hi | hi
 ·rw [List.getElem?_eq_getElem hi]; exact h _ (List.getElem_mem hi)
 ·rw [List.getElem?_eq_none hi]; decide
theorem ByL.append {a b : List Nat} (ha : ByL a) (hb : ByL b) : ByL (a ++ b) := fun x hx => (List.mem_append.1 hx).elim (ha x) (hb x)
theorem ByL.take {a : List Nat} (ha : ByL a) (n : Nat) : ByL (a.take n) := fun x hx => ha x (List.mem_of_mem_take hx)
theorem ByL.drop {a : List Nat} (ha : ByL a) (n : Nat) : ByL (a.drop n) := fun x hx => ha x (List.mem_of_mem_drop hx)
def SB (w : World) (v : Value) (n : Nat) (l : List Nat) : Prop := l.length = n ∧ ByL l ∧ Sls w 1 v n (bvs l)
def OB (w : World) (base : Nat) (E : TypeId) (v : Value) (n : Nat) (l : List Nat) : Prop := l.length = n ∧ ByL l ∧ Ows w base E 1 v n (bvs l)
theorem OB.below {w w' : World} {base B : Nat} {E : TypeId} {v : Value} {n : Nat} {l : List Nat} (h : OB w base E v n l) (hb : Below B w w') (hB : w.heap.size ≤ B) : OB w' base E v n l := ⟨h.1, h.2.1, h.2.2.below hb hB⟩
theorem OB.still {w w' : World} {base : Nat} {E : TypeId} {v : Value} {n : Nat} {l : List Nat} {S : List Nat} (h : OB w base E v n l) (hs : Still S w w') (hS : ∀ g, v.ownBlock = some g → g ∉ S) : OB w' base E v n l := ⟨h.1, h.2.1, h.2.2.still hs hS⟩
theorem OB.up {w : World} {base base' : Nat} {E : TypeId} {v : Value} {n : Nat} {l : List Nat} (h : OB w base E v n l) (hb : base' ≤ base) : OB w base' E v n l := ⟨h.1, h.2.1, h.2.2.up hb⟩
theorem OB.alloc {w : World} {base : Nat} {E : TypeId} {v : Value} {n : Nat} {l : List Nat} (h : OB w base E v n l) (o : Obj) : OB (w.alloc o) base E v n l := ⟨h.1, h.2.1, h.2.2.alloc o⟩
theorem OB.nil (w : World) (base : Nat) (E : TypeId) : OB w base E (.slice none 0 0) 0 [] := ⟨rfl, by simp [ByL], Ows.nil _ _ _ _⟩
theorem OB.len {w : World} {base : Nat} {E : TypeId} {v : Value} {n : Nat} {l : List Nat} (h : OB w base E v n l) : ∃ sa cap, v = .slice sa n cap ∧ n ≤ cap ∧ cap ≤ maxLen := h.2.2.len
theorem OB.form {w : World} {base : Nat} {E : TypeId} {v : Value} {n : Nat} {l : List Nat} (h : OB w base E v n l) (h0 : 0 < n) :
  ∃ g o cap, v = .slice (some ⟨g, o, none⟩) n cap ∧ base ≤ g ∧ g < w.heap.size ∧ n ≤ cap ∧ cap ≤ maxLen ∧ (∀ j, j < n → w.cell? ⟨g, o + j, none⟩ = some (.int .u8 (l.getD j 0 : Nat))) ∧ ∀ j, w.frozen? ⟨g, j, none⟩ = false := by
 obtain ⟨g, o, cap, hv, h1, h2, h3, h4, h5, h6⟩ := h.2.2.form h0
 refine ⟨g, o, cap, hv, h1, h2, h3, h4, fun j hj => ?_, h6⟩
 rw [h5 j (by omega), bvs_get _ _ (by rw [h.1]; exact hj)]
theorem OB.set {w : World} {base : Nat} {E : TypeId} {g o n cap : Nat} {l : List Nat} (h : OB w base E (.slice (some ⟨g, o, none⟩) n cap) n l) (j : Nat) (hj : j < n) (x : Nat) (hx : x < 256) : OB (w.setCell ⟨g, o + j, none⟩ (.int .u8 (x : Nat))) base E (.slice (some ⟨g, o, none⟩) n cap) n (l.set j x) := by
 refine ⟨by rw [List.length_set]; exact h.1, fun y hy => ?_, ?_⟩
 ·rcases List.mem_or_eq_of_mem_set hy with h1 | h1
  ·exact h.2.1 y h1
  ·rw [h1]; exact hx
 ·have := h.2.2.set j (by omega) (.int .u8 (x : Nat))
  have e : (bvs l).set j (.int .u8 (x : Nat)) = bvs (l.set j x) := by simp [bvs, List.map_set]
  rw [← e]; exact this
theorem SB.below {w w' : World} {v : Value} {n : Nat} {l : List Nat} (h : SB w v n l) {B : Nat} (hb : Below B w w') (hB : w.heap.size ≤ B) : SB w' v n l := ⟨h.1, h.2.1, h.2.2.below hb hB⟩
theorem SB.still {w w' : World} {v : Value} {n : Nat} {l : List Nat} {S : List Nat} (h : SB w v n l) (hs : Still S w w') (hS : ∀ g, v.ownBlock = some g → g ∉ S) : SB w' v n l := ⟨h.1, h.2.1, h.2.2.still hs hS⟩
theorem SB.alloc {w : World} {v : Value} {n : Nat} {l : List Nat} (h : SB w v n l) (o : Obj) : SB (w.alloc o) v n l := ⟨h.1, h.2.1, h.2.2.alloc o⟩
theorem SB.len {w : World} {v : Value} {n : Nat} {l : List Nat} (h : SB w v n l) : ∃ sa cap, v = .slice sa n cap ∧ n ≤ cap ∧ cap ≤ maxLen := h.2.2.len
theorem SB.form {w : World} {v : Value} {n : Nat} {l : List Nat} (h : SB w v n l) (h0 : 0 < n) :
  ∃ b o cap, v = .slice (some ⟨b, o, none⟩) n cap ∧ n ≤ cap ∧ cap ≤ maxLen ∧ b < w.heap.size ∧ ∀ j, j < n → w.cell? ⟨b, o + j, none⟩ = some (.int .u8 (l.getD j 0 : Nat)) := by
 obtain ⟨b, o, cap, hv, h1, h2, h3, h4⟩ := h.2.2.form h0
 refine ⟨b, o, cap, hv, h1, h2, h3, fun j hj => ?_⟩
 rw [h4 j (by omega), bvs_get _ _ (by rw [h.1]; exact hj)]
theorem SB.mk' {w : World} {b o n cap : Nat} {l : List Nat} (hl : l.length = n) (hb : ByL l) (hn : n ≤ cap) (hc : cap ≤ maxLen) (hw : b < w.heap.size) (h : ∀ j, j < n → w.cell? ⟨b, o + j, none⟩ = some (.int .u8 (l.getD j 0 : Nat))) : SB w (.slice (some ⟨b, o, none⟩) n cap) n l := by
 refine ⟨hl, hb, by rw [bvs_len]; omega, by omega, .inr ⟨b, o, cap, rfl, hn, hc, hw, fun j hj => ?_⟩⟩
 rw [h j (by omega), bvs_get _ _ (by omega)]
theorem SB.piece {w : World} {b o n cap : Nat} {l : List Nat} (h : SB w (.slice (some ⟨b, o, none⟩) n cap) n l) (lo len cap' : Nat) (h0 : 0 < n) (hlo : lo + len ≤ n) (hc : len ≤ cap') (hm : cap' ≤ maxLen) : SB w (.slice (some ⟨b, o + lo, none⟩) len cap') len ((l.drop lo).take len) := by
 obtain ⟨b', o', c', hv, _, _, hb, hcell⟩ := h.form h0
 cases hv
 refine SB.mk' (by rw [List.length_take, List.length_drop, h.1]; omega) ((h.2.1.drop lo).take len) hc hm hb fun j hj => ?_
 rw [Nat.add_assoc, hcell (lo + j) (by omega)]
 simp only [List.getD_eq_getElem?_getD, List.getElem?_take, if_pos hj, List.getElem?_drop]
theorem SB.new1 (w : World) (E : TypeId) (x : Nat) (hx : x < 256) : SB (w.alloc (.cells #[.int .u8 (x : Nat)] E)) (.slice (some ⟨w.heap.size, 0, none⟩) 1 1) 1 [x] :=
 SB.mk' rfl (by intro y hy; simp at hy; omega) (Nat.le_refl _) (by decide) (by simp) fun j hj => by
  obtain rfl : j = 0 := by omega
  simp [go_sem]
end Go.Proofs.YtafhnlnhflehhaaDoor
