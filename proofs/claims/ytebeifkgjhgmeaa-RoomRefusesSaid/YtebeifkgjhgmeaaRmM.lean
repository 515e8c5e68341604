/- Drops seat by seat, as plain data; a member written whole. No condition. -/
import Derived.Test.YtebeifkgjhgmeaaRmL
namespace Go.Proofs.Ytebeifkgjhgmeaa
open Go.RowKit
def drK (p : Nat → Sbs → Bool) (q : Sbs → Bool) (k : Nat) (H : List Mem) : List Mem := H.mapIdx fun j m => dropM (fun x => p j x || (decide (j < k) && q x)) m
theorem dropM_drop (p q : Sbs → Bool) (m : Mem) : dropM p (dropM q m) = dropM (fun x => q x || p x) m := by
 unfold dropM
 simp only [List.filter_filter]
 congr 2
 funext x
 cases p x <;> cases q x <;> rfl
theorem dropM_no (m : Mem) : dropM (fun _ => false) m = m := by
 show ({ m with subs := m.subs.filter fun _ => !false } : Mem) = m
 rw [show (m.subs.filter fun _ => !false) = m.subs from List.filter_eq_self.2 (fun _ _ => rfl)]
theorem drK_len (p : Nat → Sbs → Bool) (q : Sbs → Bool) (k : Nat) (H : List Mem) : (drK p q k H).length = H.length := List.length_mapIdx
theorem drK_get (p : Nat → Sbs → Bool) (q : Sbs → Bool) (k : Nat) (H : List Mem) (j : Nat) (hj : j < (drK p q k H).length) : (drK p q k H)[j] = dropM (fun x => p j x || (decide (j < k) && q x)) (H[j]'(by rw [drK_len] at hj; exact hj)) := by
 exact List.getElem_mapIdx ..
theorem drK_succ (p : Nat → Sbs → Bool) (q : Sbs → Bool) (k : Nat) (H : List Mem) (hk : k < (drK p q k H).length) : (drK p q k H).set k (dropM q (drK p q k H)[k]) = drK p q (k + 1) H := by
 refine List.ext_getElem (by rw [List.length_set, drK_len, drK_len]) fun j h1 h2 => ?_
 rw [List.getElem_set, drK_get p q (k + 1) H j h2]
 split
 ·rename_i e
  subst e
  rw [drK_get p q k H k hk, dropM_drop]
  congr 1
  funext x
  simp
 ·rename_i e
  rw [drK_get p q k H j (by rw [List.length_set] at h1; exact h1)]
  congr 1
  funext x
  rw [show decide (j < k + 1) = decide (j < k) by
   by_cases hj : j < k
   ·rw [decide_eq_true hj, decide_eq_true (by omega)]
   ·rw [decide_eq_false hj, decide_eq_false (by omega)]]
theorem drK_zero (p : Nat → Sbs → Bool) (q : Sbs → Bool) (H : List Mem) : drK p q 0 H = H.mapIdx fun j m => dropM (p j) m := by
 unfold drK
 congr 1
 funext j m
 congr 1
 funext x
 simp
theorem drK_all (p : Nat → Sbs → Bool) (q : Sbs → Bool) (H : List Mem) : drK p q H.length H = H.mapIdx fun j m => dropM (fun x => p j x || q x) m := by
 refine List.ext_getElem (by rw [drK_len, List.length_mapIdx]) fun j h1 h2 => ?_
 rw [drK_get p q _ H j h1, List.getElem_mapIdx]
 have hj : j < H.length := by rw [drK_len] at h1; exact h1
 congr 1
 funext x
 rw [decide_eq_true hj]
 rfl
theorem drK_own (q : Sbs → Bool) (H : List Mem) (i : Nat) (hi : i < H.length) : H.set i (dropM (fun _ => true) H[i]) = drK (fun j _ => j == i) q 0 H := by
 rw [drK_zero]
 refine List.ext_getElem (by rw [List.length_set, List.length_mapIdx]) fun j h1 h2 => ?_
 rw [List.getElem_set, List.getElem_mapIdx]
 split
 ·rename_i e
  subst e
  simp
 ·rename_i e
  have : (j == i) = false := beq_eq_false_iff_ne.2 (fun h => e h.symm)
  rw [this, dropM_no]
theorem drK_none (q : Sbs → Bool) (H : List Mem) : drK (fun _ _ => false) q 0 H = H := by
 rw [drK_zero]
 refine List.ext_getElem (by rw [List.length_mapIdx]) fun j h1 h2 => ?_
 rw [List.getElem_mapIdx, dropM_no]
theorem drK_le (p : Nat → Sbs → Bool) (q : Sbs → Bool) (k b : Nat) (H : List Mem) (h : ∀ m ∈ H, m.subs.length ≤ b) : ∀ m ∈ drK p q k H, m.subs.length ≤ b := by
 intro m hm
 obtain ⟨j, hj, rfl⟩ := List.mem_iff_getElem.1 hm
 rw [drK_get]
 exact Nat.le_trans (List.length_filter_le _ _) (h _ (List.getElem_mem _))
theorem map_set_fst {α β : Type} (L : List (α × β)) (i : Nat) (m : α) (v : β) : (L.set i (m, v)).map Prod.fst = (L.map Prod.fst).set i m := by
 rw [List.map_set]
theorem drK_mem {p : Nat → Sbs → Bool} {q : Sbs → Bool} {k : Nat} {L Lk : List (Mem × Value)} (h : Lk.map Prod.fst = drK p q k (L.map Prod.fst)) (i : Nat) (hi : i < Lk.length) (hi' : i < L.length) : Lk[i].1 = dropM (fun x => p i x || (decide (i < k) && q x)) L[i].1 := by
 have e : (Lk.map Prod.fst)[i]? = (drK p q k (L.map Prod.fst))[i]? := by rw [h]
 unfold drK at e
 rw [List.getElem?_mapIdx, List.getElem?_map, List.getElem?_map, List.getElem?_eq_getElem hi, List.getElem?_eq_getElem hi'] at e
 exact Option.some.inj e
theorem drK_stepH {p : Nat → Sbs → Bool} {q : Sbs → Bool} {k : Nat} {H : List Mem} {Lk : List (Mem × Value)} (h : Lk.map Prod.fst = drK p q k H) (hk : k < Lk.length) (v : Value) : (Lk.set k (dropM q Lk[k].1, v)).map Prod.fst = drK p q (k + 1) H := by
 have hk2 : k < (drK p q k H).length := by rw [← h]; simpa using hk
 rw [map_set_fst, ← drK_succ p q k _ hk2, ← List.getElem_of_eq h (by simpa using hk), ← h, List.getElem_map]
theorem drK_step {p : Nat → Sbs → Bool} {q : Sbs → Bool} {k : Nat} {L Lk : List (Mem × Value)} (h : Lk.map Prod.fst = drK p q k (L.map Prod.fst)) (hk : k < Lk.length) (v : Value) : (Lk.set k (dropM q Lk[k].1, v)).map Prod.fst = drK p q (k + 1) (L.map Prod.fst) := by
 have hk2 : k < (drK p q k (L.map Prod.fst)).length := by rw [← h]; simpa using hk
 rw [map_set_fst, ← drK_succ p q k _ hk2, ← List.getElem_of_eq h (by simpa using hk), ← h, List.getElem_map]
theorem EL.put9 {α : Type} {E : Elt α} {w : World} {base : Nat} (hs : E.size = 9) {a : α} {u0 u1 u2 u3 u4 u5 u6 u7 u8 : Value} (hu : E.R w base a [u0, u1, u2, u3, u4, u5, u6, u7, u8]) : ∀ {l : List α} {xs : List Value} (i : Nat), EL E w base l xs → EL E w base (l.set i a) (((((((((xs.set (i * 9) u0).set (i * 9 + 1) u1).set (i * 9 + 2) u2).set (i * 9 + 3) u3).set (i * 9 + 4) u4).set (i * 9 + 5) u5).set (i * 9 + 6) u6).set (i * 9 + 7) u7).set (i * 9 + 8) u8)
 | [], xs, i, h => by rw [show xs = [] from h]; exact rfl
 | b :: l, _, 0, ⟨c, xs', e, h1, h2⟩ => by
  have hc := E.len h1
  rw [hs] at hc
  match c, hc with
  | [x0, x1, x2, x3, x4, x5, x6, x7, x8], _ => subst e; exact ⟨[u0, u1, u2, u3, u4, u5, u6, u7, u8], xs', rfl, hu, h2⟩
 | b :: l, _, i + 1, ⟨c, xs', e, h1, h2⟩ => by
  have hc := E.len h1
  rw [hs] at hc
  match c, hc with
  | [x0, x1, x2, x3, x4, x5, x6, x7, x8], _ =>
   subst e
   rw [show (i + 1) * 9 = i * 9 + 9 by omega]
   exact ⟨[x0, x1, x2, x3, x4, x5, x6, x7, x8], _, rfl, h1, h2.put9 hs hu i⟩
theorem EQ.put9 {α : Type} {E : Elt α} {T : TypeId} {w : World} {base : Nat} {g o n cap : Nat} {l : List α} (h : EQ E T w base (.slice (some ⟨g, o, none⟩) n cap) n l) (hs : E.size = 9) (hOk : E.Ok w g) {a : α} {u0 u1 u2 u3 u4 u5 u6 u7 u8 : Value} (hu : E.R w base a [u0, u1, u2, u3, u4, u5, u6, u7, u8]) (i : Nat) (hi : i < n) : EQ E T (((((((((w.setCell ⟨g, o + i * 9, none⟩ u0).setCell ⟨g, o + i * 9 + 1, none⟩ u1).setCell ⟨g, o + i * 9 + 2, none⟩ u2).setCell ⟨g, o + i * 9 + 3, none⟩ u3).setCell ⟨g, o + i * 9 + 4, none⟩ u4).setCell ⟨g, o + i * 9 + 5, none⟩ u5).setCell ⟨g, o + i * 9 + 6, none⟩ u6).setCell ⟨g, o + i * 9 + 7, none⟩ u7).setCell ⟨g, o + i * 9 + 8, none⟩ u8) base (.slice (some ⟨g, o, none⟩) n cap) n (l.set i a) := by
 obtain ⟨h0, xs, h1, h2⟩ := h
 have hst : Still [g] w (((((((((w.setCell ⟨g, o + i * 9, none⟩ u0).setCell ⟨g, o + i * 9 + 1, none⟩ u1).setCell ⟨g, o + i * 9 + 2, none⟩ u2).setCell ⟨g, o + i * 9 + 3, none⟩ u3).setCell ⟨g, o + i * 9 + 4, none⟩ u4).setCell ⟨g, o + i * 9 + 5, none⟩ u5).setCell ⟨g, o + i * 9 + 6, none⟩ u6).setCell ⟨g, o + i * 9 + 7, none⟩ u7).setCell ⟨g, o + i * 9 + 8, none⟩ u8) := (((((((((still_sc w g (o + i * 9) u0).trans (still_sc _ g (o + i * 9 + 1) u1)).trans (still_sc _ g (o + i * 9 + 2) u2)).trans (still_sc _ g (o + i * 9 + 3) u3)).trans (still_sc _ g (o + i * 9 + 4) u4)).trans (still_sc _ g (o + i * 9 + 5) u5)).trans (still_sc _ g (o + i * 9 + 6) u6)).trans (still_sc _ g (o + i * 9 + 7) u7)).trans (still_sc _ g (o + i * 9 + 8) u8))
 have hr := (Ows.set (Ows.set (Ows.set (Ows.set (Ows.set (Ows.set (Ows.set (Ows.set (Ows.set h1 (i * 9) (by rw [hs]; omega) u0) (i * 9 + 1) (by rw [hs]; omega) u1) (i * 9 + 2) (by rw [hs]; omega) u2) (i * 9 + 3) (by rw [hs]; omega) u3) (i * 9 + 4) (by rw [hs]; omega) u4) (i * 9 + 5) (by rw [hs]; omega) u5) (i * 9 + 6) (by rw [hs]; omega) u6) (i * 9 + 7) (by rw [hs]; omega) u7) (i * 9 + 8) (by rw [hs]; omega) u8)
 simp only [← Nat.add_assoc] at hr
 refine ⟨by rw [List.length_set]; exact h0, _, hr, ?_⟩
 exact (h2.put9 hs hu i).mono fun _ _ h => E.still h hst (by simpa using hOk)
theorem still_put9 (w : World) (g o i : Nat) (u0 u1 u2 u3 u4 u5 u6 u7 u8 : Value) : Still [g] w (((((((((w.setCell ⟨g, o + i * 9, none⟩ u0).setCell ⟨g, o + i * 9 + 1, none⟩ u1).setCell ⟨g, o + i * 9 + 2, none⟩ u2).setCell ⟨g, o + i * 9 + 3, none⟩ u3).setCell ⟨g, o + i * 9 + 4, none⟩ u4).setCell ⟨g, o + i * 9 + 5, none⟩ u5).setCell ⟨g, o + i * 9 + 6, none⟩ u6).setCell ⟨g, o + i * 9 + 7, none⟩ u7).setCell ⟨g, o + i * 9 + 8, none⟩ u8) := (((((((((still_sc w g (o + i * 9) u0).trans (still_sc _ g (o + i * 9 + 1) u1)).trans (still_sc _ g (o + i * 9 + 2) u2)).trans (still_sc _ g (o + i * 9 + 3) u3)).trans (still_sc _ g (o + i * 9 + 4) u4)).trans (still_sc _ g (o + i * 9 + 5) u5)).trans (still_sc _ g (o + i * 9 + 6) u6)).trans (still_sc _ g (o + i * 9 + 7) u7)).trans (still_sc _ g (o + i * 9 + 8) u8))
theorem HouseV.put {w w' : World} {base gh : Nat} {vS : Value} {gl o n c : Nat} {S : List (List Nat)} {L : List (Mem × Value)} (h : HouseV w base gh vS (.slice (some ⟨gl, o, none⟩) n c) S L) (i : Nat) (hi : i < L.length) (m : Mem) (v : Value) (hs : Still [gl] w w') {q : Nat} (hmb : EQ EMb 45 w' base (.slice (some ⟨gl, o, none⟩) n c) q (L.set i (m, v))) (hv : EQ ESb 50 w base v m.subs.length m.subs) (hap : ∀ k, v.ownBlock = some k → ∀ j (_ : j < L.length), j ≠ i → L[j].2.ownBlock ≠ some k) :
  HouseV w' base gh vS (.slice (some ⟨gl, o, none⟩) n c) S (L.set i (m, v)) := by
 obtain ⟨cr, hcr⟩ := h.row
 have hne : ∀ {α : Type} {E : Elt α} {t : TypeId} {v : Value} {m : Nat} {l : List α}, EQ E t w base v m l → 45 ≠ t → ∀ g, v.ownBlock = some g → g ∉ [gl] := fun hq ht g hg hm => by
  obtain rfl : g = gl := by simpa using hm
  exact hq.ne hcr ht g hg rfl
 refine ⟨h.hp.st hs fun hm => ?_, h.so.still hs (fun k hk => ?_) (hne h.so (by decide)), ?_, fun p hp => ?_, ?_⟩
 ·obtain rfl : gh = gl := by simpa using hm
  have := h.hp.symm.trans hcr
  cases this
 ·obtain rfl : k = gl := by simpa using hk
  exact .inr ⟨cr, _, _, hcr, by decide⟩
 ·exact hmb.full
 ·rcases List.mem_or_eq_of_mem_set hp with hp | rfl
  ·exact (h.sb p hp).still hs (fun _ _ => trivial) (hne (h.sb p hp) (by decide))
  ·exact hv.still hs (fun _ _ => trivial) (hne hv (by decide))
 ·rw [List.map_set]
  refine List.pairwise_iff_getElem.2 fun a b ha hb hab => ?_
  have hp := List.pairwise_iff_getElem.1 h.ap
  simp only [List.length_set, List.length_map] at ha hb
  intro k
  rw [List.getElem_set, List.getElem_set]
  split
  ·rename_i e
   subst e
   rw [if_neg (by omega), List.getElem_map]
   exact fun hk => hap k hk b hb (by omega)
  ·rw [List.getElem_map]
   split
   ·rename_i e2
    subst e2
    exact fun hk hk2 => hap k hk2 a ha (by omega) hk
   ·rw [List.getElem_map]
    have := hp a b (by simpa using ha) (by simpa using hb) hab k
    rw [List.getElem_map, List.getElem_map] at this
    exact this
theorem HouseV.stS {w w' : World} {base gh : Nat} {vS vL : Value} {S : List (List Nat)} {L : List (Mem × Value)} (h : HouseV w base gh vS vL S L) {gv : Nat} {x : Array Value} (hv : HpB w gv (.cells x 70)) {gs : Nat} {y : Array Value} (hs : HpB w gs (.cells y 73)) {gl o n c : Nat} (hL : vL = .slice (some ⟨gl, o, none⟩) n c) {vq : Value} {nq : Nat} {C : List Chg} (hq : EQ ECh 89 w base vq nq C) (T : Still (gs :: gl :: vq.ownBlock.toList) w w') : HpB w' gv (.cells x 70) := by
 subst hL
 refine hv.st T fun hm => ?_
 rcases List.mem_cons.1 hm with rfl | hm
 ·have := hv.symm.trans hs
  cases this
 rcases List.mem_cons.1 hm with rfl | hm
 ·obtain ⟨cr, hcr⟩ := h.row
  have := hv.symm.trans hcr
  cases this
 ·obtain ⟨cs, hcs⟩ := hq.row gv (by simpa using hm)
  have := hv.symm.trans hcs
  cases this
end Go.Proofs.Ytebeifkgjhgmeaa
