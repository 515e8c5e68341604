/- A step: layer. No condition but the sizes'. -/
import Derived.Test.YtebeifkgjhgmeaaRmS
namespace Go.Proofs.Ytebeifkgjhgmeaa
open Go.RowKit
theorem firstN_true (p : Sbs → Bool) : ∀ (l : List Sbs) (h : firstN p l < l.length), p l[firstN p l] = true
 | x :: l, h => by
  by_cases hp : p x = true
  ·have e : firstN p (x :: l) = 0 := by rw [firstN_cons, if_pos hp]
   have : ∀ k (hk : k < (x :: l).length), k = 0 → p (x :: l)[k] = true := fun k hk e => by subst e; exact hp
   exact this _ h e
  ·have e : firstN p (x :: l) = firstN p l + 1 := by rw [firstN_cons, if_neg hp]
   have h2 : firstN p l < l.length := by rw [e] at h; simpa using h
   have : ∀ k (hk : k < (x :: l).length), k = firstN p l + 1 → p (x :: l)[k] = true := fun k hk e => by subst e; exact firstN_true p l h2
   exact this _ h e
theorem EL.setR {α : Type} {E : Elt α} {w : World} {base : Nat} {a : α} : ∀ {l : List α} {xs : List Value} (i : Nat) (hi : i < l.length), (∀ c, E.R w base l[i] c → E.R w base a c) → EL E w base l xs → EL E w base (l.set i a) xs
 | b :: l, _, 0, _, hR, ⟨c, xs', e, h1, h2⟩ => ⟨c, xs', e, hR c h1, h2⟩
 | b :: l, _, i + 1, hi, hR, ⟨c, xs', e, h1, h2⟩ => ⟨c, xs', e, h1, EL.setR i (by simpa using hi) hR h2⟩
theorem EQ.setR {α : Type} {E : Elt α} {T : TypeId} {w : World} {base : Nat} {v : Value} {n : Nat} {l : List α} (h : EQ E T w base v n l) (i : Nat) (hi : i < l.length) {a : α} (hR : ∀ c, E.R w base l[i] c → E.R w base a c) : EQ E T w base v n (l.set i a) := by
 obtain ⟨h0, xs, h1, h2⟩ := h
 exact ⟨by rw [List.length_set]; exact h0, xs, h1, h2.setR i hi hR⟩
theorem rangeAt_set {w : World} {g off : Nat} {l : List Value} (h : w.rangeAt g off l) (k : Nat) (hk : k < l.length) (u : Value) : (w.setCell ⟨g, off + k, none⟩ u).rangeAt g off (l.set k u) := fun j v hv => by
 by_cases e : j = k
 ·subst e
  rw [List.getElem?_set_self hk] at hv
  cases hv
  exact World.cell?_setCell_same _ _ _ (h j _ (List.getElem?_eq_getElem hk))
 ·rw [List.getElem?_set_ne (Ne.symm e)] at hv
  have hne : (⟨g, off + k, none⟩ : Addr) ≠ ⟨g, off + j, none⟩ := fun e2 => e (by simp only [Addr.mk.injEq] at e2; omega)
  rw [World.cell?_setCell_other _ _ _ _ hne]
  exact h j v hv
def hsB (L : List (Mem × Value)) : List Nat := L.flatMap fun p => p.2.ownBlock.toList
theorem hsB_mem {L : List (Mem × Value)} {i : Nat} (hi : i < L.length) {g : Nat} (h : L[i].2.ownBlock = some g) : g ∈ hsB L := List.mem_flatMap.2 ⟨L[i], List.getElem_mem hi, by simp [h]⟩
structure StepQ (w w' : World) (base gs gh gl o n c : Nat) (vS : Value) (S : List (List Nat)) (L L' : List (Mem × Value)) (kd st nn rm tr ow ly : Int) (sf : Option Addr) (nf cf om nm : Nat) (chg : Value) : Prop where
 ex : ∃ (sc' : Option Addr) (nc' cc' : Nat) (C' : List Chg), nc' ≤ nm ∧ HpB w' gs (.cells (stC gh kd st nn rm tr ow ly sf nf cf gl om (.slice sc' nc' cc')) 73) ∧ EQ ECh 89 w' base (.slice sc' nc' cc') nc' C' ∧ (∀ j, (Value.slice sc' nc' cc').ownBlock = some j → chg.ownBlock = some j ∨ w.heap.size ≤ j)
 hv : HouseV w' base gh vS (.slice (some ⟨gl, o, none⟩) n c) S L'
 st : Still (gs :: gl :: (chg.ownBlock.toList ++ hsB L)) w w'
theorem StepP.q {w w' : World} {base gs gh gl o n c : Nat} {vS : Value} {S : List (List Nat)} {L L' : List (Mem × Value)} {kd st nn rm tr ow ly : Int} {sf : Option Addr} {nf cf om nm nm' : Nat} {chg : Value} (h : StepP w w' base gs gh gl o n c vS S L' kd st nn rm tr ow ly sf nf cf om nm chg) (hn : nm ≤ nm') : StepQ w w' base gs gh gl o n c vS S L L' kd st nn rm tr ow ly sf nf cf om nm' chg :=
 have ⟨sc', nc', cc', C', k1, k2, k3, k4⟩ := h.ex
 ⟨⟨sc', nc', cc', C', Nat.le_trans k1 hn, k2, k3, k4⟩, h.hv, h.st.weaken fun k hk => by
  rcases own_cons hk with h | h | h
  ·simp [h]
  ·simp [h]
  ·simp [h]⟩
theorem HouseV.setL {w : World} {base gh : Nat} {vS vL : Value} {S : List (List Nat)} {L : List (Mem × Value)} (h : HouseV w base gh vS vL S L) (i : Nat) (hi : i < L.length) {gq oq nq cq : Nat} (hv : L[i].2 = .slice (some ⟨gq, oq, none⟩) nq cq) (k : Nat) (hk : k < L[i].1.subs.length) (l : Int) :
  HouseV (w.setCell ⟨gq, oq + k * 4 + 2, none⟩ (.int .i64 l)) base gh vS vL S (L.set i ({ L[i].1 with subs := L[i].1.subs.set k { L[i].1.subs[k] with l := l } }, L[i].2)) := by
 have hsb := h.sb L[i] (List.getElem_mem hi)
 have hs := still_sc w gq (oq + k * 4 + 2) (.int .i64 l)
 have hbn := hsb
 rw [hv] at hsb
 have hn : nq = L[i].1.subs.length := by
  obtain ⟨_, _, e, _⟩ := hsb.len
  cases e; rfl
 subst hn
 obtain ⟨cr, hcr⟩ := hsb.row gq rfl
 have hne : ∀ {α : Type} {E : Elt α} {t : TypeId} {v : Value} {m : Nat} {l : List α}, EQ E t w base v m l → 50 ≠ t → ∀ g, v.ownBlock = some g → g ∉ [gq] := fun hq ht g hg hm => by
  obtain rfl : g = gq := by simpa using hm
  exact hq.ne hcr ht g hg rfl
 have hset := EQ.setJ (a := { L[i].1.subs[k] with l := l }) (u := .int .i64 l) hsb trivial k 2 (by decide) hk (fun c hc => by
  have hc' : c = subV L[i].1.subs[k] := hc
  rw [hc']; rfl)
 rw [show ESb.size = 4 from rfl, ← Nat.add_assoc] at hset
 refine ⟨h.hp.st hs fun hm => ?_, h.so.still hs (fun k hk => ?_) (hne h.so (by decide)), ?_, fun p hp => ?_, ?_⟩
 ·obtain rfl : gh = gq := by simpa using hm
  have := h.hp.symm.trans hcr
  cases this
 ·obtain rfl : k = gq := by simpa using hk
  exact .inr ⟨cr, _, _, hcr, by decide⟩
 ·rw [List.length_set]
  refine EQ.setR (h.mb.still hs (fun k hk => ?_) (hne h.mb (by decide))) i hi fun c ⟨va, vb, e, k0, k1, k2⟩ => ⟨va, vb, e, k0, k1, k2⟩
  obtain rfl : k = gq := by simpa using hk
  exact .inr ⟨cr, _, _, hcr, by decide⟩
 ·obtain ⟨j, hj, rfl⟩ := List.mem_iff_getElem.1 hp
  have hj2 : j < L.length := by simpa using hj
  by_cases e : j = i
  ·subst e
   rw [List.getElem_set_self]
   show EQ ESb _ _ base L[j].2 (L[j].1.subs.set k _).length _
   rw [List.length_set, hv]
   exact hset
  ·rw [List.getElem_set_ne (Ne.symm e)]
   have hq := h.sb L[j] (List.getElem_mem hj2)
   refine hq.still hs (fun _ _ => trivial) fun g hg hm => ?_
   obtain rfl : g = gq := by simpa using hm
   have hp := List.pairwise_iff_getElem.1 h.ap
   simp only [List.length_map, List.getElem_map] at hp
   rcases Nat.lt_or_gt_of_ne e with e1 | e1
   ·exact hp j i hj2 hi e1 g hg (by rw [hv]; rfl)
   ·exact hp i j hi hj2 e1 g (by rw [hv]; rfl) hg
 ·rw [List.map_set]
  have e : (L.map Prod.snd).set i L[i].2 = L.map Prod.snd := by
   refine List.ext_getElem? fun k => ?_
   by_cases ek : k = i
   ·subst ek
    rw [List.getElem?_set_self (by simpa using hi), List.getElem?_map, List.getElem?_eq_getElem hi]; rfl
   ·rw [List.getElem?_set_ne (Ne.symm ek)]
  show (((L.map Prod.snd).set i L[i].2)).Pairwise _
  rw [e]
  exact h.ap
set_option maxRecDepth 100000 in
set_option maxHeartbeats 8000000 in
theorem layer_none (gs gh gl o n c base i : Nat) (vS : Value) (S : List (List Nat)) (L : List (Mem × Value)) (hi : i < L.length) (kd st nn rm tr ow ly : Int) (sf : Option Addr) (nf cf : Nat) (chg : Value) (hns : L[i].1.subs.length ≤ 100) (w : World) (h : HpB w gs (.cells (stC gh kd st nn rm tr ow ly sf nf cf gl (o + i * 9) chg) 73)) (hH : HouseV w base gh vS (.slice (some ⟨gl, o, none⟩) n c) S L) (hn : L[i].1.subs.any (ofT ow tr) = false) :
  Calls Try.prog 23 #[.pointer (some ⟨gs, 0, none⟩)] w (RefP 9 w) := by
 have hmf : ∀ (fn : Fn) (first cap : Array Value) (w : World), (Instr.makeFunc fn first cap).run Try.prog w = .ok (.func fn first cap) w := fun _ _ _ _ => rfl
 obtain ⟨va, vb, hm, -, -⟩ := hH.mem i hi
 have hsub := hH.sb L[i] (List.getElem_mem hi)
 obtain ⟨sm, cm, hsm, hcm1, hcm2⟩ := hsub.len
 unfold maxLen at hcm2
 have z7 := (hm 7 (by decide)).trans (show _ = some L[i].2 from rfl)
 rw [hsm] at z7 hsub
 have s9 := (hp_cell h 9).trans (show _ = some (.pointer (some ⟨gl, o + i * 9, none⟩)) from rfl)
 have cH := Lib.hid (sidxM base _ _ L[i].1.subs 35 gs (ofT ow tr) w hsub (by omega) (fun x _ wx hB => to_any gs gh kd st nn rm tr ow ly sf nf cf gl (o + i * 9) chg x wx (h.bw hB)) enterTo)
 have hx : idxN (ofT ow tr) L[i].1.subs = -1 := by
  rw [firstN_any] at hn
  unfold idxN
  exact if_neg (by simpa using hn)
 rw [hx] at cH
 clear hm hsub hH h
 generalize L[i].1.subs.length = ns at *
 replace hsm := Lib.hid hsm
 replace hn := Lib.hid hn
 replace hx := Lib.hid hx
 replace hns := Lib.hid hns
 go_enter Try.func23, Try.ntmps23
 go_wp2_with fail
 refine Calls.mono cH.out ?_
 rintro e w1 ⟨rfl, hb1⟩
 replace hb1 := Lib.hid hb1
 clear cH z7 s9
 dsimp only
 go_wp2_with fail
 go_ret2
 exact ⟨rfl, hb1.out⟩
end Go.Proofs.Ytebeifkgjhgmeaa
