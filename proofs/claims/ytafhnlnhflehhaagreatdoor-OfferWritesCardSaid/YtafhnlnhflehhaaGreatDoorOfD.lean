/- Rows of numbers of 32 bits that are sorted in place: what stays of them; cmp.Less. No condition. -/
import Derived.Test.YtafhnlnhflehhaaGreatDoorGHh
namespace Go.Proofs.YtafhnlnhflehhaaGreatDoor
open Go.RowKit
def SR (w : World) (base g o n cap : Nat) : Prop := ∃ l : List Nat, EQ EU4 38 w base (.slice (some ⟨g, o, none⟩) n cap) n l
theorem SR.bw {w w' : World} {base g o n cap : Nat} (h : SR w base g o n cap) (hb : BW w w') : SR w' base g o n cap := let ⟨l, q⟩ := h; ⟨l, q.bw hb⟩
theorem u4_cell {w : World} {base g o n cap : Nat} {l : List Nat} (h : EQ EU4 38 w base (.slice (some ⟨g, o, none⟩) n cap) n l) (i : Nat) (hi : i < n) : w.cell? ⟨g, o + i, none⟩ = some (.int .u32 ((l.getD i 0 : Nat))) := by
 have hl := h.1
 obtain ⟨g', o', cap', hsl, _, _, _, _, hce⟩ := h.form (by omega)
 simp only [Value.slice.injEq, Option.some.injEq, Addr.mk.injEq] at hsl
 obtain ⟨⟨rfl, rfl, -⟩, -⟩ := hsl
 obtain ⟨c, hc, hcc⟩ := hce i (by omega)
 have hc' : c = u4V l[i] := hc
 have z0 := hcc 0 (by decide)
 have e2 : EU4.size = 1 := rfl
 rw [hc', e2, Nat.mul_one] at z0
 have e3 : l.getD i 0 = l[i] := by unfold List.getD; rw [List.getElem?_eq_getElem (by omega)]; rfl
 rw [e3]
 exact z0
theorem u4_set {w : World} {base g o n cap : Nat} {l : List Nat} (h : EQ EU4 38 w base (.slice (some ⟨g, o, none⟩) n cap) n l) (i : Nat) (hi : i < n) (x : Nat) : EQ EU4 38 (w.setCell ⟨g, o + i, none⟩ (.int .u32 (x : Nat))) base (.slice (some ⟨g, o, none⟩) n cap) n (l.set i x) :=
 h.set1 rfl trivial (show EU4.R w base x [.int .u32 (x : Nat)] from rfl) i hi
theorem SR.cell {w : World} {base g o n cap : Nat} (h : SR w base g o n cap) (i : Nat) (hi : i < n) : ∃ x : Nat, w.cell? ⟨g, o + i, none⟩ = some (.int .u32 (x : Nat)) := let ⟨_, q⟩ := h; ⟨_, u4_cell q i hi⟩
theorem SR.frz {w : World} {base g o n cap : Nat} (h : SR w base g o n cap) (h0 : 0 < n) (j : Nat) : w.frozen? ⟨g, j, none⟩ = false := let ⟨_, q⟩ := h; q.frz h0 j
theorem SR.set {w : World} {base g o n cap : Nat} (h : SR w base g o n cap) (i : Nat) (hi : i < n) (x : Nat) : SR (w.setCell ⟨g, o + i, none⟩ (.int .u32 (x : Nat))) base g o n cap := let ⟨_, q⟩ := h; ⟨_, u4_set q i hi x⟩
set_option maxRecDepth 100000 in
set_option maxHeartbeats 8000000 in
theorem less_any (x y : Nat) (w : World) :
  Calls Tryz.prog 85 #[.int .u32 (x : Nat), .int .u32 (y : Nat)] w fun e w' => e = .returned (.bool (decide (x < y))) ∧ BW w w' := by
 go_enter Tryz.func85, Tryz.ntmps85
 go_wp2
 go_ret
 exact ⟨rfl, BW.refl _⟩
def swp (l : List Nat) (i j : Nat) : List Nat := (l.set i (l.getD j 0)).set j (l.getD i 0)
theorem swp_len (l : List Nat) (i j : Nat) : (swp l i j).length = l.length := by unfold swp; rw [List.length_set, List.length_set]
theorem getD_lt {l : List Nat} {i : Nat} (h : i < l.length) : l.getD i 0 = l[i] := by unfold List.getD; rw [List.getElem?_eq_getElem h]; rfl
theorem swp_get (l : List Nat) (i j k : Nat) (hi : i < l.length) (hj : j < l.length) (hk : k < l.length) : (swp l i j).getD k 0 = if k = j then l.getD i 0 else if k = i then l.getD j 0 else l.getD k 0 := by
 have e : ∀ (m : List Nat) (p q v : Nat), q < m.length → (m.set p v).getD q 0 = if q = p then v else m.getD q 0 := by
  intro m p q v hq
  unfold List.getD
  by_cases h : q = p
  ·subst h
   rw [if_pos rfl, List.getElem?_set_self hq]
   rfl
  ·rw [if_neg h, List.getElem?_set_ne (Ne.symm h)]
 unfold swp
 rw [e _ _ _ _ (by rw [List.length_set]; exact hk), e _ _ _ _ hk]
theorem swp_perm (l : List Nat) (i j : Nat) (hi : i < l.length) (hj : j < l.length) : (swp l i j).Perm l := by
 unfold swp
 rw [List.perm_iff_count]
 intro a
 rw [List.count_set (by rw [List.length_set]; exact hj), List.count_set hi, getD_lt hi, getD_lt hj]
 have c1 : 0 < l.count l[i] := List.count_pos_iff.2 (List.getElem_mem hi)
 have c2 : 0 < l.count l[j] := List.count_pos_iff.2 (List.getElem_mem hj)
 by_cases h : i = j
 ·subst h
  simp only [List.getElem_set_self, beq_iff_eq]
  by_cases ha : l[i] = a
  ·subst ha; first | (simp; done) | (simp; omega)
  ·simp [ha]
 ·rw [List.getElem_set_ne h]
  simp only [beq_iff_eq]
  by_cases ha : l[i] = a
  ·subst ha
   by_cases hb : l[j] = l[i]
   ·rw [hb] at c2; first | (simp [hb]; done) | (simp [hb]; omega)
   ·first | (simp [hb]; done) | (simp [hb]; omega)
  ·by_cases hb : l[j] = a
   ·subst hb; first | (simp [ha]; done) | (simp [ha]; omega)
   ·simp [ha, hb]
end Go.Proofs.YtafhnlnhflehhaaGreatDoor
