/- A member of a house, read and turned in memory. No condition. -/
import Derived.Test.YtebeifkgjhgmeaaRmB
namespace Go.Proofs.Ytebeifkgjhgmeaa
open Go.RowKit
theorem HouseV.mem {w : World} {base gh : Nat} {vS : Value} {gl o n c : Nat} {S : List (List Nat)} {L : List (Mem × Value)} (h : HouseV w base gh vS (.slice (some ⟨gl, o, none⟩) n c) S L) (i : Nat) (hi : i < L.length) :
  ∃ va vb, (∀ j, j < 9 → w.cell? ⟨gl, o + i * 9 + j, none⟩ = (memC L[i].1 va vb L[i].2)[j]?) ∧ EQ I1 3 w base va L[i].1.a.p.length L[i].1.a.p ∧ EQ I1 3 w base vb L[i].1.b.p.length L[i].1.b.p := by
 have hn : n = L.length := by
  obtain ⟨_, _, e, _⟩ := h.mb.len
  cases e; rfl
 subst hn
 obtain ⟨g, o', cap, hsl, -, -, -, -, hc⟩ := h.mb.form (by omega)
 cases hsl
 obtain ⟨cs, ⟨va, vb, e, -, h1, h2⟩, hcs⟩ := hc i hi
 refine ⟨va, vb, fun j hj => ?_, h1, h2⟩
 have := hcs j hj
 rw [show EMb.size = 9 from rfl, ← Nat.add_assoc] at this
 rw [this, e]
theorem HouseV.row {w : World} {base gh : Nat} {vS : Value} {gl o n c : Nat} {S : List (List Nat)} {L : List (Mem × Value)} (h : HouseV w base gh vS (.slice (some ⟨gl, o, none⟩) n c) S L) : ∃ cs, w.heap[gl]? = some (.cells cs 45 (0, 0)) := h.mb.row gl rfl
theorem HouseV.st {w w' : World} {base gh : Nat} {vS vL : Value} {S : List (List Nat)} {L : List (Mem × Value)} (h : HouseV w base gh vS vL S L) {T : List Nat} (hs : Still T w w') (hT : ∀ k ∈ T, ∃ cs t f, w.heap[k]? = some (.cells cs t f) ∧ t ≠ 64 ∧ t ≠ 30 ∧ t ≠ 48 ∧ t ≠ 45 ∧ t ≠ 3 ∧ t ≠ 50) : HouseV w' base gh vS vL S L := by
 have hne : ∀ {α : Type} {E : Elt α} {t : TypeId} {v : Value} {m : Nat} {l : List α}, EQ E t w base v m l → (t = 30 ∨ t = 45 ∨ t = 50) → ∀ g, v.ownBlock = some g → g ∉ T := fun hq ht g hg hm => by
  obtain ⟨cs, t', f, k1, k2, k3, k4, k5, k6, k7⟩ := hT g hm
  rcases ht with rfl | rfl | rfl
  ·exact hq.ne k1 k3 g hg rfl
  ·exact hq.ne k1 k5 g hg rfl
  ·exact hq.ne k1 k7 g hg rfl
 refine ⟨h.hp.st hs fun hm => ?_, h.so.still hs (fun k hk => ?_) (hne h.so (.inl rfl)), h.mb.still hs (fun k hk => ?_) (hne h.mb (.inr (.inl rfl))), fun p hp => (h.sb p hp).still hs (fun _ _ => trivial) (hne (h.sb p hp) (.inr (.inr rfl))), h.ap⟩
 ·obtain ⟨cs, t', f, k1, k2, -⟩ := hT gh hm
  have := h.hp.symm.trans k1
  cases this
  exact k2 rfl
 ·obtain ⟨cs, t', f, k1, -, -, k4, -⟩ := hT k hk
  exact .inr ⟨cs, t', f, k1, k4⟩
 ·obtain ⟨cs, t', f, k1, -, -, -, -, k6, -⟩ := hT k hk
  exact .inr ⟨cs, t', f, k1, k6⟩
theorem HouseV.set {w : World} {base gh : Nat} {vS : Value} {gl o n c : Nat} {S : List (List Nat)} {L : List (Mem × Value)} (h : HouseV w base gh vS (.slice (some ⟨gl, o, none⟩) n c) S L) (i : Nat) (hi : i < L.length) (j : Nat) (hj : j < 9) (u : Value) (m : Mem) (hm : m.subs = L[i].1.subs) (hR : ∀ cs, EMb.R w base L[i] cs → EMb.R w base (m, L[i].2) (cs.set j u)) :
  HouseV (w.setCell ⟨gl, o + i * 9 + j, none⟩ u) base gh vS (.slice (some ⟨gl, o, none⟩) n c) S (L.set i (m, L[i].2)) := by
 have hn : n = L.length := by
  obtain ⟨_, _, e, _⟩ := h.mb.len
  cases e; rfl
 subst hn
 obtain ⟨cr, hcr⟩ := h.row
 have hs := still_sc w gl (o + i * 9 + j) u
 have hne : ∀ {α : Type} {E : Elt α} {t : TypeId} {v : Value} {m : Nat} {l : List α}, EQ E t w base v m l → 45 ≠ t → ∀ g, v.ownBlock = some g → g ∉ [gl] := fun hq ht g hg hm => by
  obtain rfl : g = gl := by simpa using hm
  exact hq.ne hcr ht g hg rfl
 have hmb := EQ.setJ (a := (m, L[i].2)) (u := u) h.mb (show NoI w gl from .inr ⟨cr, _, _, hcr, by decide⟩) i j hj hi hR
 rw [show EMb.size = 9 from rfl, ← Nat.add_assoc] at hmb
 refine ⟨h.hp.st hs fun hm => ?_, h.so.still hs (fun k hk => ?_) (hne h.so (by decide)), ?_, fun p hp => ?_, ?_⟩
 ·obtain rfl : gh = gl := by simpa using hm
  have := h.hp.symm.trans hcr
  cases this
 ·obtain rfl : k = gl := by simpa using hk
  exact .inr ⟨cr, _, _, hcr, by decide⟩
 ·rw [List.length_set]; exact hmb
 ·rcases List.mem_or_eq_of_mem_set hp with hp | rfl
  ·exact (h.sb p hp).still hs (fun _ _ => trivial) (hne (h.sb p hp) (by decide))
  ·have := h.sb L[i] (List.getElem_mem hi)
   show EQ ESb 50 _ base L[i].2 m.subs.length m.subs
   rw [hm]
   exact this.still hs (fun _ _ => trivial) (hne this (by decide))
 ·rw [List.map_set]
  have e : (L.map Prod.snd).set i L[i].2 = L.map Prod.snd := by
   refine List.ext_getElem? fun k => ?_
   by_cases ek : k = i
   ·subst ek
    rw [List.getElem?_set_self (by simpa using hi), List.getElem?_map, List.getElem?_eq_getElem hi]; rfl
   ·rw [List.getElem?_set_ne (Ne.symm ek)]
  show (((L.map Prod.snd).set i L[i].2)).Pairwise _
  rw [e]
  exact h.ap
end Go.Proofs.Ytebeifkgjhgmeaa
