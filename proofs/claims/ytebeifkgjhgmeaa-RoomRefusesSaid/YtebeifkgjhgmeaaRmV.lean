/- Steps: reset refused; a member's subscriptions behind an append; subscribe refused. No condition but the sizes'. -/
import Derived.Test.YtebeifkgjhgmeaaRmU
namespace Go.Proofs.Ytebeifkgjhgmeaa
open Go.RowKit
theorem HouseV.putS {w w1 : World} {base gh : Nat} {vS : Value} {gl o n c : Nat} {S : List (List Nat)} {L : List (Mem × Value)} (h : HouseV w base gh vS (.slice (some ⟨gl, o, none⟩) n c) S L) (i : Nat) (hi : i < L.length) (v : Value) (l : List Sbs) (hT : Still L[i].2.ownBlock.toList w w1) (hv : EQ ESb 50 w1 base v l.length l) (h1 : v.oneCell' = true) (hap : ∀ k, v.ownBlock = some k → L[i].2.ownBlock = some k ∨ w.heap.size ≤ k) :
  HouseV (w1.setCell ⟨gl, o + i * 9 + 7, none⟩ v) base gh vS (.slice (some ⟨gl, o, none⟩) n c) S (L.set i ({ L[i].1 with subs := l }, v)) := by
 have hn : n = L.length := by
  obtain ⟨_, _, e, _⟩ := h.mb.len
  cases e; rfl
 subst hn
 have hsb := h.sb L[i] (List.getElem_mem hi)
 have hrow : ∀ k ∈ L[i].2.ownBlock.toList, ∃ cs, w.heap[k]? = some (.cells cs 50 (0, 0)) := fun k hk => hsb.row k (by simpa using hk)
 have hne0 : ∀ {α : Type} {E : Elt α} {t : TypeId} {v : Value} {m : Nat} {l : List α}, EQ E t w base v m l → 50 ≠ t → ∀ g, v.ownBlock = some g → g ∉ L[i].2.ownBlock.toList := fun hq ht g hg hm => by
  obtain ⟨cs, hcs⟩ := hrow g hm
  exact hq.ne hcs ht g hg rfl
 have mb1 := h.mb.still hT (fun k hk => by
  obtain ⟨cs, hcs⟩ := hrow k hk
  exact .inr ⟨cs, _, _, hcs, by decide⟩) (hne0 h.mb (by decide))
 have so1 := h.so.still hT (fun k hk => by
  obtain ⟨cs, hcs⟩ := hrow k hk
  exact .inr ⟨cs, _, _, hcs, by decide⟩) (hne0 h.so (by decide))
 have hp1 := h.hp.st hT (fun hm => by
  obtain ⟨cs, hcs⟩ := hrow _ hm
  have := h.hp.symm.trans hcs
  cases this)
 have hpw := List.pairwise_iff_getElem.1 h.ap
 simp only [List.length_map, List.getElem_map] at hpw
 have hap2 : ∀ j (hj : j < L.length), j ≠ i → ∀ k, L[j].2.ownBlock = some k → L[i].2.ownBlock ≠ some k := fun j hj e k hk hk2 => by
  rcases Nat.lt_or_gt_of_ne e with e1 | e1
  ·exact hpw j i hj hi e1 k hk hk2
  ·exact hpw i j hi hj e1 k hk2 hk
 have sb1 : ∀ j (hj : j < L.length), j ≠ i → EQ ESb 50 w1 base L[j].2 L[j].1.subs.length L[j].1.subs := fun j hj e => (h.sb L[j] (List.getElem_mem hj)).still hT (fun _ _ => trivial) (fun g hg hm => hap2 j hj e g hg (by simpa using hm))
 obtain ⟨cr, hcr⟩ := mb1.row gl rfl
 have hs := still_sc w1 gl (o + i * 9 + 7) v
 have hne : ∀ {α : Type} {E : Elt α} {t : TypeId} {v : Value} {m : Nat} {l : List α}, EQ E t w1 base v m l → 45 ≠ t → ∀ g, v.ownBlock = some g → g ∉ [gl] := fun hq ht g hg hm => by
  obtain rfl : g = gl := by simpa using hm
  exact hq.ne hcr ht g hg rfl
 have hmb := EQ.setJ (a := ({ L[i].1 with subs := l }, v)) (u := v) mb1 (show NoI w1 gl from .inr ⟨cr, _, _, hcr, by decide⟩) i 7 (by decide) hi (fun cs ⟨va, vb, e, k0, k1, k2⟩ => ⟨va, vb, by rw [e]; rfl, h1, k1, k2⟩)
 rw [show EMb.size = 9 from rfl, ← Nat.add_assoc] at hmb
 refine ⟨hp1.st hs fun hm => ?_, so1.still hs (fun k hk => ?_) (hne so1 (by decide)), ?_, fun p hp => ?_, ?_⟩
 ·obtain rfl : gh = gl := by simpa using hm
  have := hp1.symm.trans hcr
  cases this
 ·obtain rfl : k = gl := by simpa using hk
  exact .inr ⟨cr, _, _, hcr, by decide⟩
 ·rw [List.length_set]; exact hmb
 ·obtain ⟨j, hj, rfl⟩ := List.mem_iff_getElem.1 hp
  have hj2 : j < L.length := by simpa using hj
  by_cases e : j = i
  ·subst e
   rw [List.getElem_set_self]
   exact hv.still hs (fun _ _ => trivial) (hne hv (by decide))
  ·rw [List.getElem_set_ne (Ne.symm e)]
   have hq := sb1 j hj2 e
   exact hq.still hs (fun _ _ => trivial) (hne hq (by decide))
 ·rw [List.map_set]
  refine List.pairwise_iff_getElem.2 fun a b ha hb hab => ?_
  simp only [List.length_set, List.length_map] at ha hb
  have hap3 : ∀ j (hj : j < L.length), j ≠ i → ∀ k, L[j].2.ownBlock = some k → v.ownBlock ≠ some k := fun j hj e k hk hk2 => by
   rcases hap k hk2 with h2 | h2
   ·exact hap2 j hj e k hk h2
   ·have := (h.sb L[j] (List.getElem_mem hj)).lt' k hk
    omega
  intro k
  rw [List.getElem_set, List.getElem_set]
  split
  ·rename_i e
   subst e
   rw [if_neg (by omega), List.getElem_map]
   exact fun hk hk2 => hap3 b hb (by omega) k hk2 hk
  ·rw [List.getElem_map]
   split
   ·rename_i e2
    subst e2
    exact fun hk hk2 => hap3 a ha (by omega) k hk hk2
   ·rw [List.getElem_map]
    exact hpw a b ha hb hab k
def resC (st ow : Int) (n : Nat) : Int := if st ≠ 0 then 4 else if 0 ≤ ow ∧ ow < (n : Int) then 0 else 9
set_option maxRecDepth 100000 in
set_option maxHeartbeats 8000000 in
theorem reset_no (gs gh gl ol n c : Nat) (vS : Value) (sl : Option Addr) (kd st nn rm tr ow ly : Int) (sf : Option Addr) (nf cf : Nat) (chg : Value) (w : World) (h : HpB w gs (.cells (stC gh kd st nn rm tr ow ly sf nf cf gl ol chg) 73)) (hh : HpB w gh (.cells #[vS, .slice sl n c] 64)) (hc : resC st ow n ≠ 0) :
  Calls Try.prog 24 #[.pointer (some ⟨gs, 0, none⟩)] w (RefP (resC st ow n) w) := by
 have s0 := (hp_cell h 0).trans (show _ = some (.pointer (some ⟨gh, 0, none⟩)) from rfl)
 have s2 := (hp_cell h 2).trans (show _ = some (.int .i64 st) from rfl)
 have s6 := (hp_cell h 6).trans (show _ = some (.int .i64 ow) from rfl)
 by_cases h1 : st = 0
 ·have h2 : ¬ (0 ≤ ow ∧ ow < (n : Int)) := fun e => hc (by unfold resC; rw [if_neg (by omega), if_pos e])
  have e9 : resC st ow n = 9 := by unfold resC; rw [if_neg (by omega), if_neg h2]
  rw [e9]
  subst h1
  have cS : ∀ y : LaterS [] w, Calls Try.prog 14 #[.pointer (some ⟨gh, 0, none⟩), .int .i64 ow] y.now fun e w' => e = .returned (.bool false) ∧ w' = y.now := fun y => (seat_any gh vS sl n c ow y.now (hh.bw y.bw)).mono fun _ _ ⟨k1, k2⟩ => ⟨by rw [k1, show (decide (0 ≤ ow) && decide (ow < (n : Int))) = false by rw [← Bool.not_eq_true, Bool.and_eq_true, decide_eq_true_eq, decide_eq_true_eq]; exact h2], k2.symm⟩
  clear h hh hc h2
  replace cS := Lib.hid cS
  go_enter Try.func24, Try.ntmps24
  go_upto_region 3 with (fail)
  have m0 : ∀ y : LaterS [] w, _ := fun y => y.bw.cell s0
  have m6 : ∀ y : LaterS [] w, _ := fun y => y.bw.cell s6
  clear s0 s2 s6
  refine wp_region_gg [] [] [] (by kernel_rfl) ?_
  refine hoist [] [] (a1 := ?_) 0 rfl (by kernel_rfl) (.inl ⟨rfl, rfl⟩) rfl rfl rfl (fun x K hK => ?_) ?_
  rotate_left
  ·go_big_quiet_op
   exact hK
  refine hoist [] [] (a1 := ?_) 1 rfl (by kernel_rfl) (.inl ⟨rfl, rfl⟩) rfl rfl rfl (fun x K hK => ?_) ?_
  rotate_left
  ·go_big_quiet_op
   exact hK
  refine hoist [] [] (a1 := ?_) 2 rfl (by kernel_rfl) (.inl ⟨rfl, rfl⟩) rfl rfl rfl (fun x K hK => ?_) ?_
  rotate_left
  ·go_big_quiet_op
   exact hK
  refine hoist [] [] (a1 := ?_) 3 rfl (by kernel_rfl) (.inl ⟨rfl, rfl⟩) rfl rfl rfl (fun x K hK => ?_) ?_
  rotate_left
  ·go_big_quiet_op
   exact hK
  refine hoist [] [] (a1 := ?_) 4 rfl (by kernel_rfl) (.inl ⟨rfl, rfl⟩) rfl rfl rfl (fun x K hK => ?_) ?_
  rotate_left
  ·go_big_quiet_op
   exact hK
  refine hoist [] [] (a1 := ?_) 5 rfl (by kernel_rfl) (.inl ⟨rfl, rfl⟩) rfl rfl rfl (fun x K hK => ?_) ?_
  rotate_left
  ·go_big_quiet_op
   exact hK
  refine hoist [] [] (a1 := ?_) 6 rfl (by kernel_rfl) (.inl ⟨rfl, rfl⟩) rfl rfl rfl (fun x K hK => ?_) ?_
  rotate_left
  ·go_big_quiet_op
   exact hK
  refine hoist [] [] (a1 := ?_) 7 rfl (by kernel_rfl) (.inl ⟨rfl, rfl⟩) rfl rfl rfl (fun x K hK => ?_) ?_
  rotate_left
  ·go_big_quiet_op
   exact hK
  refine hoist [] [] (a1 := ?_) 8 rfl (by kernel_rfl) (.inl ⟨rfl, rfl⟩) rfl rfl rfl (fun x K hK => ?_) ?_
  rotate_left
  ·go_big_quiet_op
   exact hK
  refine hoist_call [] [] (a1 := ?_) 9 rfl (by kernel_rfl) (.inl ⟨rfl, rfl⟩) rfl rfl rfl (fun x K hK => ?_) ?_
  rotate_left
  ·go_big_quiet_op
   apply Exists.intro
   refine ⟨fun y => ?_, ?_⟩
   ·exact Calls.laterS_same (cS.out ⟨y.now, x.ok.trans y.ok⟩)
   ·exact hK
  refine hoist [] [] (a1 := ?_) 10 rfl (by kernel_rfl) (.inl ⟨rfl, rfl⟩) rfl rfl rfl (fun x K hK => ?_) ?_
  rotate_left
  ·go_big_quiet_op
   exact hK
  refine hoist [] [] (a1 := ?_) 11 rfl (by kernel_rfl) (.inl ⟨rfl, rfl⟩) rfl rfl rfl (fun x K hK => ?_) ?_
  rotate_left
  ·go_big_quiet_op
   exact hK
  refine done (by kernel_rfl) (fun xr => ?_)
  have B1 := Lib.hid xr.bw
  clear m0 m6
  generalize xr.now = w1 at *
  go_wp2_with fail
  go_ret2
  exact ⟨rfl, B1.out⟩
 ·have e4 : resC st ow n = 4 := by unfold resC; rw [if_pos h1]
  rw [e4]
  have d : (st != 0) = true := by simpa using h1
  clear h hh hc
  replace h1 := Lib.hid h1
  go_enter Try.func24, Try.ntmps24
  go_wp2_with fail
  go_ret2
  exact ⟨rfl, BW.refl _⟩
end Go.Proofs.Ytebeifkgjhgmeaa
