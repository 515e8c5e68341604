/- The reference's ring: Put. No condition but the sizes'. -/
import Derived.Test.YtojedpahaifjgaaGEd
namespace Go.Proofs.Ytojedpahaifjgaa
open Go.RowKit
def RfPost (base g : Nat) (pk by_ : Int) (vi vb : Value) (R : Nat × PL) (w : World) (e : Ending) (w' : World) : Prop :=
 e = .returned (.int .i64 (R.1 : Nat)) ∧ (∃ vi' vb', RefV w' base g pk by_ vi' vb' R.2 ∧ (∀ k, vi'.ownBlock = some k → vi.ownBlock = some k ∨ w.heap.size ≤ k) ∧ ∀ k, vb'.ownBlock = some k → vb.ownBlock = some k ∨ w.heap.size ≤ k) ∧ Still (g :: (vi.ownBlock.toList ++ vb.ownBlock.toList)) w w'
theorem RfPost.same {base g : Nat} {pk by_ : Int} {vi vb : Value} {M : PL} {w w' : World} {e : Ending} (r : Nat) (h : RefV w base g pk by_ vi vb M) (hb : BW w w') (he : e = .returned (.int .i64 (r : Nat))) : RfPost base g pk by_ vi vb (r, M) w e w' :=
 ⟨he, ⟨vi, vb, h.bw hb, (fun k hk => .inl hk), fun k hk => .inl hk⟩, hb.still _⟩
theorem least_ex (M : PL) (h : 0 < M.length) : ∃ a, leastR M M.length = some a ∧ a < M.length := by
 have := leastR_spec M M.length
 cases hr : leastR M M.length with
 | none => rw [hr] at this; have h2 : M.length = 0 := this; omega
 | some a => rw [hr] at this; exact ⟨a, rfl, this.1⟩
theorem SB.stillB {w w' : World} {v : Value} {n : Nat} {l : List Nat} {S : List Nat} (h : SB w v n l) (hs : Still S w w') (hv : 0 < n → ∀ k, v.ownBlock = some k → k ∉ S) : SB w' v n l := by
 rcases Nat.eq_zero_or_pos n with e | e
 ·obtain ⟨h1, h2, h3, h4, h5 | ⟨b, o, cap, e1, e2, e3, e4, e5⟩⟩ := h
  ·exact ⟨h1, h2, h3, h4, .inl h5⟩
  ·subst e
   exact ⟨h1, h2, h3, h4, .inl ⟨rfl, _, cap, e1, (fun h => by cases h), e3⟩⟩
 ·exact h.still hs (hv e)
theorem sub_l {g : Nat} {a b : List Nat} : a ⊆ g :: (a ++ b) := fun k hk => List.mem_cons_of_mem _ (List.mem_append_left _ hk)
theorem sub_r {g : Nat} {a b : List Nat} : b ⊆ g :: (a ++ b) := fun k hk => List.mem_cons_of_mem _ (List.mem_append_right _ hk)
theorem sub_g {g : Nat} {a : List Nat} : [g] ⊆ g :: a := by simp
set_option maxRecDepth 100000 in
set_option maxHeartbeats 8000000 in
theorem rfput_any (base g : Nat) (pk by_ : Int) (vi vb : Value) (M : PL) (x : Int) (bv : Value) (b : List Nat) (w : World) (h : RefV w base g pk by_ vi vb M) (hn : M.length ≤ 100000) (hl : lensL M ≤ 100000000) (hbase : base ≤ w.heap.size)
  (hv : SB w bv b.length b) (hbn : b.length ≤ 100000) (p0 : 1 ≤ pk) (y0 : 0 ≤ by_) (hvo : 0 < b.length → ∀ k, bv.ownBlock = some k → k < base ∨ ∃ cs f, w.heap[k]? = some (.cells cs 5 f)) (hgB : base ≤ g) :
  Calls Try.prog 26 #[.pointer (some ⟨g, 0, none⟩), .int .i64 x, bv] w (RfPost base g pk by_ vi vb (rputN pk by_ M x b) w) := by
 obtain ⟨sq, cq, rfl, hbc, hbm⟩ := hv.len
 obtain ⟨sv, cv, rfl, hnc, hmc⟩ := h.qi.len
 obtain ⟨sb, cb, rfl, hnb, hmb⟩ := h.qb.len
 unfold maxLen at hbm hmc hmb
 have hH := Lib.hid h
 have hV := Lib.hid hv
 clear h hv
 generalize hR : rputN pk by_ M x b = R at *
 generalize hnl : b.length = n at *
 replace hR := Lib.hid hR
 replace hnl := Lib.hid hnl
 replace hvo := Lib.hid hvo
 by_cases hA : x < 0
 ·have d1 : decide (x < 0) = true := by simpa using hA
  have hRR : R = (1, M) := by rw [← hR.out]; unfold rputN; rw [if_pos hA]
  replace hRR := Lib.hid hRR
  go_enter Try.func26, Try.ntmps26
  go_wp2_with fail
  go_ret
  rw [hRR.out]
  exact RfPost.same 1 hH.out (BW.refl _) rfl
 have d1 : decide (x < 0) = false := by simpa using hA
 have z1 : w.cell? ⟨g, 1, none⟩ = some (.int .i64 by_) := hp_cell hH.out.cells 1
 by_cases hC : by_ < n
 ·have d2 : decide (by_ < (n : Int)) = true := by simpa using hC
  have hRR : R = (8, M) := by rw [← hR.out]; unfold rputN; rw [if_neg hA, hnl.out, if_pos hC]
  replace hRR := Lib.hid hRR
  go_enter Try.func26, Try.ntmps26
  go_wp2_with fail
  go_ret
  rw [hRR.out]
  exact RfPost.same 8 hH.out (BW.refl _) rfl
 have d2 : decide (by_ < (n : Int)) = false := by simpa using hC
 have hR2 : (if (atN M x).isSome = true ∨ ((M.length : Int) = pk ∧ x < cl M ((leastR M M.length).getD 0)) then (5, M) else (0, trimR pk by_ (M.length + 1) (M ++ [(x, b)]))) = R := by
  rw [← hR.out]; unfold rputN; rw [if_neg hA, hnl.out, if_neg hC]
 have z2 : w.cell? ⟨g, 2, none⟩ = some (.slice sv M.length cv) := hp_cell hH.out.cells 2
 have z0 : w.cell? ⟨g, 0, none⟩ = some (.int .i64 pk) := hp_cell hH.out.cells 0
 have cA := fun wz (hb : BW w wz) => Lib.hid (rat_any base g pk by_ _ _ M x wz (hH.out.bw hb))
 have l0 := fun y : LaterS [] w => y.cell z0 (by simp)
 have l2 := fun y : LaterS [] w => y.cell z2 (by simp)
 replace hR2 := Lib.hid hR2
 replace z0 := Lib.hid z0
 replace z2 := Lib.hid z2
 cases hat : atN M x with
 | some a =>
  rw [hat] at cA
  have e1 : atI (some a) = (a : Nat) := rfl
  rw [e1] at cA
  have d3 : decide ((0 : Int) ≤ (a : Int)) = true := by simp
  have hRR : R = (5, M) := by rw [← hR2.out, if_pos (.inl (by rw [hat]; rfl))]
  clear e1
  replace hRR := Lib.hid hRR
  replace hat := Lib.hid hat
  go_enter Try.func26, Try.ntmps26
  go_upto_region 5 with (fail)
  refine wp_region_gg [] [] [] (by kernel_rfl) ?_
  refine hoist [] [] (a1 := ?_) 0 rfl (by kernel_rfl) (.inl ⟨rfl, rfl⟩) rfl rfl rfl (fun x K hK => ?_) ?_
  rotate_left
  ·go_big_quiet_op
   exact hK
  refine hoist [] [] (a1 := ?_) 1 rfl (by kernel_rfl) (.inl ⟨rfl, rfl⟩) rfl rfl rfl (fun x K hK => ?_) ?_
  rotate_left
  ·go_big_quiet_op
   exact hK
  refine effect 2 rfl (by kernel_rfl) (by kernel_rfl) rfl (fun x2 K hK => ?_)
  go_simp
  refine Calls.mono (cA x2.now x2.bw).out ?_
  rintro e wz ⟨rfl, rfl⟩
  refine hK _ _ (Still.refl _ _) ?_
  clear hK K
  have Wz := Lib.hid x2.bw
  try simp only [Act.put, List.setIfInBounds_toArray, List.set_cons_succ, List.set_cons_zero]
  refine hoist [] [] (a1 := ?_) 3 rfl (by kernel_rfl) (.inl ⟨rfl, rfl⟩) rfl rfl rfl (fun x K hK => ?_) ?_
  rotate_left
  ·go_big_quiet_op
   exact hK
  refine hoist [] [] (a1 := ?_) 4 rfl (by kernel_rfl) (.inl ⟨rfl, rfl⟩) rfl rfl rfl (fun x K hK => ?_) ?_
  rotate_left
  ·go_big_quiet_op
   exact hK
  refine hoist_skip [] [] 5 rfl (by kernel_rfl) (.inl ⟨rfl, rfl⟩) rfl (a1 := ?_) ?_ ?_
  rotate_left
  ·simp only [Act.put, List.setIfInBounds_toArray, List.set_cons_succ, List.set_cons_zero]; rfl
  refine hoist_skip [] [] 6 rfl (by kernel_rfl) (.inl ⟨rfl, rfl⟩) rfl (a1 := ?_) ?_ ?_
  rotate_left
  ·simp only [Act.put, List.setIfInBounds_toArray, List.set_cons_succ, List.set_cons_zero]; rfl
  refine hoist_skip [] [] 7 rfl (by kernel_rfl) (.inl ⟨rfl, rfl⟩) rfl (a1 := ?_) ?_ ?_
  rotate_left
  ·simp only [Act.put, List.setIfInBounds_toArray, List.set_cons_succ, List.set_cons_zero]; rfl
  refine hoist_skip [] [] 8 rfl (by kernel_rfl) (.inl ⟨rfl, rfl⟩) rfl (a1 := ?_) ?_ ?_
  rotate_left
  ·simp only [Act.put, List.setIfInBounds_toArray, List.set_cons_succ, List.set_cons_zero]; rfl
  refine hoist_skip [] [] 9 rfl (by kernel_rfl) (.inl ⟨rfl, rfl⟩) rfl (a1 := ?_) ?_ ?_
  rotate_left
  ·simp only [Act.put, List.setIfInBounds_toArray, List.set_cons_succ, List.set_cons_zero]; rfl
  refine hoist_skip [] [] 10 rfl (by kernel_rfl) (.inl ⟨rfl, rfl⟩) rfl (a1 := ?_) ?_ ?_
  rotate_left
  ·simp only [Act.put, List.setIfInBounds_toArray, List.set_cons_succ, List.set_cons_zero]; rfl
  refine hoist_skip [] [] 11 rfl (by kernel_rfl) (.inl ⟨rfl, rfl⟩) rfl (a1 := ?_) ?_ ?_
  rotate_left
  ·simp only [Act.put, List.setIfInBounds_toArray, List.set_cons_succ, List.set_cons_zero]; rfl
  refine hoist_skip [] [] 12 rfl (by kernel_rfl) (.inl ⟨rfl, rfl⟩) rfl (a1 := ?_) ?_ ?_
  rotate_left
  ·simp only [Act.put, List.setIfInBounds_toArray, List.set_cons_succ, List.set_cons_zero]; rfl
  refine hoist_skip [] [] 13 rfl (by kernel_rfl) (.inl ⟨rfl, rfl⟩) rfl (a1 := ?_) ?_ ?_
  rotate_left
  ·simp only [Act.put, List.setIfInBounds_toArray, List.set_cons_succ, List.set_cons_zero]; rfl
  refine hoist_skip [] [] 14 rfl (by kernel_rfl) (.inl ⟨rfl, rfl⟩) rfl (a1 := ?_) ?_ ?_
  rotate_left
  ·simp only [Act.put, List.setIfInBounds_toArray, List.set_cons_succ, List.set_cons_zero]; rfl
  refine hoist_skip [] [] 15 rfl (by kernel_rfl) (.inl ⟨rfl, rfl⟩) rfl (a1 := ?_) ?_ ?_
  rotate_left
  ·simp only [Act.put, List.setIfInBounds_toArray, List.set_cons_succ, List.set_cons_zero]; rfl
  refine hoist_skip [] [] 16 rfl (by kernel_rfl) (.inl ⟨rfl, rfl⟩) rfl (a1 := ?_) ?_ ?_
  rotate_left
  ·simp only [Act.put, List.setIfInBounds_toArray, List.set_cons_succ, List.set_cons_zero]; rfl
  refine hoist_skip [] [] 17 rfl (by kernel_rfl) (.inl ⟨rfl, rfl⟩) rfl (a1 := ?_) ?_ ?_
  rotate_left
  ·simp only [Act.put, List.setIfInBounds_toArray, List.set_cons_succ, List.set_cons_zero]; rfl
  refine hoist_skip [] [] 18 rfl (by kernel_rfl) (.inl ⟨rfl, rfl⟩) rfl (a1 := ?_) ?_ ?_
  rotate_left
  ·simp only [Act.put, List.setIfInBounds_toArray, List.set_cons_succ, List.set_cons_zero]; rfl
  refine hoist_skip [] [] 19 rfl (by kernel_rfl) (.inl ⟨rfl, rfl⟩) rfl (a1 := ?_) ?_ ?_
  rotate_left
  ·simp only [Act.put, List.setIfInBounds_toArray, List.set_cons_succ, List.set_cons_zero]; rfl
  refine hoist_skip [] [] 20 rfl (by kernel_rfl) (.inl ⟨rfl, rfl⟩) rfl (a1 := ?_) ?_ ?_
  rotate_left
  ·simp only [Act.put, List.setIfInBounds_toArray, List.set_cons_succ, List.set_cons_zero]; rfl
  refine hoist_skip [] [] 21 rfl (by kernel_rfl) (.inl ⟨rfl, rfl⟩) rfl (a1 := ?_) ?_ ?_
  rotate_left
  ·simp only [Act.put, List.setIfInBounds_toArray, List.set_cons_succ, List.set_cons_zero]; rfl
  refine hoist_skip [] [] 22 rfl (by kernel_rfl) (.inl ⟨rfl, rfl⟩) rfl (a1 := ?_) ?_ ?_
  rotate_left
  ·simp only [Act.put, List.setIfInBounds_toArray, List.set_cons_succ, List.set_cons_zero]; rfl
  refine hoist_skip [] [] 23 rfl (by kernel_rfl) (.inl ⟨rfl, rfl⟩) rfl (a1 := ?_) ?_ ?_
  rotate_left
  ·simp only [Act.put, List.setIfInBounds_toArray, List.set_cons_succ, List.set_cons_zero]; rfl
  refine hoist_skip [] [] 24 rfl (by kernel_rfl) (.inl ⟨rfl, rfl⟩) rfl (a1 := ?_) ?_ ?_
  rotate_left
  ·simp only [Act.put, List.setIfInBounds_toArray, List.set_cons_succ, List.set_cons_zero]; rfl
  refine hoist_skip [] [] 25 rfl (by kernel_rfl) (.inl ⟨rfl, rfl⟩) rfl (a1 := ?_) ?_ ?_
  rotate_left
  ·simp only [Act.put, List.setIfInBounds_toArray, List.set_cons_succ, List.set_cons_zero]; rfl
  refine hoist_skip [] [] 26 rfl (by kernel_rfl) (.inl ⟨rfl, rfl⟩) rfl (a1 := ?_) ?_ ?_
  rotate_left
  ·simp only [Act.put, List.setIfInBounds_toArray, List.set_cons_succ, List.set_cons_zero]; rfl
  refine hoist [] [] (a1 := ?_) 27 rfl (by kernel_rfl) (.inl ⟨rfl, rfl⟩) rfl rfl rfl (fun x K hK => ?_) ?_
  rotate_left
  ·go_big_quiet_op
   exact hK
  refine done (by kernel_rfl) (fun xr => ?_)
  go_wp2_with fail
  go_ret
  rw [hRR.out]
  exact RfPost.same 5 hH.out (Wz.out.trans xr.bw) rfl
 | none =>
  rw [hat] at cA
  have e1 : atI none = -1 := rfl
  rw [e1] at cA
  have d3 : decide ((0 : Int) ≤ -1) = false := by decide
  clear e1
  by_cases hfull : (M.length : Int) = pk
  ·have d4 : ((M.length : Int) == pk) = true := by simpa using hfull
   obtain ⟨a, hla, haM⟩ := least_ex M (by omega)
   have cL := fun wz (hb : BW w wz) => Lib.hid (rleast_any base g pk by_ _ _ M wz (hH.out.bw hb))
   rw [hla] at cL
   have e1 : atI (some a) = (a : Nat) := rfl
   rw [e1] at cL
   obtain ⟨b1, o1, rfl, hc1⟩ := hH.out.i_form rfl (by omega)
   have y1 := hc1 a haM
   have hR3 : (if x < cl M a then (5, M) else (0, trimR pk by_ (M.length + 1) (M ++ [(x, b)]))) = R := by
    rw [← hR2.out, hat, hla]
    show (if x < cl M a then _ else _) = if (Option.none : Option Nat).isSome = true ∨ ((M.length : Int) = pk ∧ x < cl M a) then _ else _
    simp [hfull]
   clear e1 hc1
   generalize cl M a = c at *
   by_cases hxc : x < c
   ·have d5 : decide (x < c) = true := by simpa using hxc
    have hRR : R = (5, M) := by rw [← hR3, if_pos hxc]
    replace hRR := Lib.hid hRR
    replace hat := Lib.hid hat
    replace hla := Lib.hid hla
    replace hfull := Lib.hid hfull
    replace hxc := Lib.hid hxc
    replace hR3 := Lib.hid hR3
    replace y1 := Lib.hid y1
    go_enter Try.func26, Try.ntmps26
    go_upto_region 5 with (fail)
    refine wp_region_gg [] [] [] (by kernel_rfl) ?_
    refine hoist [] [] (a1 := ?_) 0 rfl (by kernel_rfl) (.inl ⟨rfl, rfl⟩) rfl rfl rfl (fun x K hK => ?_) ?_
    rotate_left
    ·go_big_quiet_op
     exact hK
    refine hoist [] [] (a1 := ?_) 1 rfl (by kernel_rfl) (.inl ⟨rfl, rfl⟩) rfl rfl rfl (fun x K hK => ?_) ?_
    rotate_left
    ·go_big_quiet_op
     exact hK
    refine effect 2 rfl (by kernel_rfl) (by kernel_rfl) rfl (fun x2 K hK => ?_)
    go_simp
    refine Calls.mono (cA x2.now x2.bw).out ?_
    rintro e wz ⟨rfl, rfl⟩
    refine hK _ _ (Still.refl _ _) ?_
    clear hK K
    have Wz := Lib.hid x2.bw
    have l0 := fun y : LaterS [] x2.now => (x2.up y).cell z0.out (by simp)
    have l2 := fun y : LaterS [] x2.now => (x2.up y).cell z2.out (by simp)
    simp only [LaterS.up] at l0 l2
    try simp only [Act.put, List.setIfInBounds_toArray, List.set_cons_succ, List.set_cons_zero]
    refine hoist [] [] (a1 := ?_) 3 rfl (by kernel_rfl) (.inl ⟨rfl, rfl⟩) rfl rfl rfl (fun x K hK => ?_) ?_
    rotate_left
    ·go_big_quiet_op
     exact hK
    refine hoist [] [] (a1 := ?_) 4 rfl (by kernel_rfl) (.inl ⟨rfl, rfl⟩) rfl rfl rfl (fun x K hK => ?_) ?_
    rotate_left
    ·go_big_quiet_op
     exact hK
    refine hoist [] [] (a1 := ?_) 5 rfl (by kernel_rfl) (.inl ⟨rfl, rfl⟩) rfl rfl rfl (fun x K hK => ?_) ?_
    rotate_left
    ·go_big_quiet_op
     exact hK
    refine hoist [] [] (a1 := ?_) 6 rfl (by kernel_rfl) (.inl ⟨rfl, rfl⟩) rfl rfl rfl (fun x K hK => ?_) ?_
    rotate_left
    ·go_big_quiet_op
     exact hK
    refine hoist [] [] (a1 := ?_) 7 rfl (by kernel_rfl) (.inl ⟨rfl, rfl⟩) rfl rfl rfl (fun x K hK => ?_) ?_
    rotate_left
    ·go_big_quiet_op
     exact hK
    refine hoist [] [] (a1 := ?_) 8 rfl (by kernel_rfl) (.inl ⟨rfl, rfl⟩) rfl rfl rfl (fun x K hK => ?_) ?_
    rotate_left
    ·go_big_quiet_op
     exact hK
    refine hoist [] [] (a1 := ?_) 9 rfl (by kernel_rfl) (.inl ⟨rfl, rfl⟩) rfl rfl rfl (fun x K hK => ?_) ?_
    rotate_left
    ·go_big_quiet_op
     exact hK
    refine hoist [] [] (a1 := ?_) 10 rfl (by kernel_rfl) (.inl ⟨rfl, rfl⟩) rfl rfl rfl (fun x K hK => ?_) ?_
    rotate_left
    ·go_big_quiet_op
     exact hK
    refine hoist [] [] (a1 := ?_) 11 rfl (by kernel_rfl) (.inl ⟨rfl, rfl⟩) rfl rfl rfl (fun x K hK => ?_) ?_
    rotate_left
    ·go_big_quiet_op
     exact hK
    refine hoist [] [] (a1 := ?_) 12 rfl (by kernel_rfl) (.inl ⟨rfl, rfl⟩) rfl rfl rfl (fun x K hK => ?_) ?_
    rotate_left
    ·go_big_quiet_op
     exact hK
    refine hoist [] [] (a1 := ?_) 13 rfl (by kernel_rfl) (.inl ⟨rfl, rfl⟩) rfl rfl rfl (fun x K hK => ?_) ?_
    rotate_left
    ·go_big_quiet_op
     exact hK
    refine hoist [] [] (a1 := ?_) 14 rfl (by kernel_rfl) (.inl ⟨rfl, rfl⟩) rfl rfl rfl (fun x K hK => ?_) ?_
    rotate_left
    ·go_big_quiet_op
     exact hK
    refine hoist [] [] (a1 := ?_) 15 rfl (by kernel_rfl) (.inl ⟨rfl, rfl⟩) rfl rfl rfl (fun x K hK => ?_) ?_
    rotate_left
    ·go_big_quiet_op
     exact hK
    refine hoist [] [] (a1 := ?_) 16 rfl (by kernel_rfl) (.inl ⟨rfl, rfl⟩) rfl rfl rfl (fun x K hK => ?_) ?_
    rotate_left
    ·go_big_quiet_op
     exact hK
    refine hoist [] [] (a1 := ?_) 17 rfl (by kernel_rfl) (.inl ⟨rfl, rfl⟩) rfl rfl rfl (fun x K hK => ?_) ?_
    rotate_left
    ·go_big_quiet_op
     exact hK
    refine hoist [] [] (a1 := ?_) 18 rfl (by kernel_rfl) (.inl ⟨rfl, rfl⟩) rfl rfl rfl (fun x K hK => ?_) ?_
    rotate_left
    ·go_big_quiet_op
     exact hK
    refine hoist [] [] (a1 := ?_) 19 rfl (by kernel_rfl) (.inl ⟨rfl, rfl⟩) rfl rfl rfl (fun x K hK => ?_) ?_
    rotate_left
    ·go_big_quiet_op
     exact hK
    refine hoist [] [] (a1 := ?_) 20 rfl (by kernel_rfl) (.inl ⟨rfl, rfl⟩) rfl rfl rfl (fun x K hK => ?_) ?_
    rotate_left
    ·go_big_quiet_op
     exact hK
    refine hoist [] [] (a1 := ?_) 24 rfl (by kernel_rfl) (.inl ⟨rfl, rfl⟩) rfl rfl rfl (fun x K hK => ?_) ?_
    rotate_left
    ·go_big_quiet_op
     exact hK
    refine effect 21 rfl (by kernel_rfl) (by kernel_rfl) rfl (fun x21 K hK => ?_)
    go_simp
    refine Calls.mono (cL x21.now (Wz.out.trans x21.bw)).out ?_
    rintro e wa ⟨rfl, hb⟩
    refine hK _ _ (Still.of_below hb) ?_
    clear hK K
    have Wb := Lib.hid ((Wz.out.trans x21.bw).trans hb)
    have l3 := fun y : LaterS [] wa => y.cell (Wb.out.cell y1.out) (by simp)
    clear hb
    try simp only [Act.put, List.setIfInBounds_toArray, List.set_cons_succ, List.set_cons_zero]
    refine hoist [] [] (a1 := ?_) 22 rfl (by kernel_rfl) (.inl ⟨rfl, rfl⟩) rfl rfl rfl (fun x K hK => ?_) ?_
    rotate_left
    ·go_big_quiet_op
     exact hK
    refine hoist [] [] (a1 := ?_) 23 rfl (by kernel_rfl) (.inl ⟨rfl, rfl⟩) rfl rfl rfl (fun x K hK => ?_) ?_
    rotate_left
    ·go_big_quiet_op
     exact hK
    refine hoist [] [] (a1 := ?_) 25 rfl (by kernel_rfl) (.inl ⟨rfl, rfl⟩) rfl rfl rfl (fun x K hK => ?_) ?_
    rotate_left
    ·go_big_quiet_op
     exact hK
    refine hoist [] [] (a1 := ?_) 26 rfl (by kernel_rfl) (.inl ⟨rfl, rfl⟩) rfl rfl rfl (fun x K hK => ?_) ?_
    rotate_left
    ·go_big_quiet_op
     exact hK
    refine hoist [] [] (a1 := ?_) 27 rfl (by kernel_rfl) (.inl ⟨rfl, rfl⟩) rfl rfl rfl (fun x K hK => ?_) ?_
    rotate_left
    ·go_big_quiet_op
     exact hK
    refine done (by kernel_rfl) (fun xr => ?_)
    go_wp2_with fail
    go_ret
    rw [hRR.out]
    exact RfPost.same 5 hH.out (Wb.out.trans xr.bw) rfl
   ·have d5 : decide (x < c) = false := by simpa using hxc
    have hR4 : R = (0, trimR pk by_ (M.length + 1) (M ++ [(x, b)])) := by rw [← hR3, if_neg hxc]
    replace hR4 := Lib.hid hR4
    replace hat := Lib.hid hat
    replace hla := Lib.hid hla
    replace hfull := Lib.hid hfull
    replace hxc := Lib.hid hxc
    replace hR3 := Lib.hid hR3
    replace y1 := Lib.hid y1
    go_enter Try.func26, Try.ntmps26
    go_upto_region 5 with (fail)
    refine wp_region_gg [] [] [] (by kernel_rfl) ?_
    refine hoist [] [] (a1 := ?_) 0 rfl (by kernel_rfl) (.inl ⟨rfl, rfl⟩) rfl rfl rfl (fun x K hK => ?_) ?_
    rotate_left
    ·go_big_quiet_op
     exact hK
    refine hoist [] [] (a1 := ?_) 1 rfl (by kernel_rfl) (.inl ⟨rfl, rfl⟩) rfl rfl rfl (fun x K hK => ?_) ?_
    rotate_left
    ·go_big_quiet_op
     exact hK
    refine effect 2 rfl (by kernel_rfl) (by kernel_rfl) rfl (fun x2 K hK => ?_)
    go_simp
    refine Calls.mono (cA x2.now x2.bw).out ?_
    rintro e wz ⟨rfl, rfl⟩
    refine hK _ _ (Still.refl _ _) ?_
    clear hK K
    have Wz := Lib.hid x2.bw
    have l0 := fun y : LaterS [] x2.now => (x2.up y).cell z0.out (by simp)
    have l2 := fun y : LaterS [] x2.now => (x2.up y).cell z2.out (by simp)
    simp only [LaterS.up] at l0 l2
    try simp only [Act.put, List.setIfInBounds_toArray, List.set_cons_succ, List.set_cons_zero]
    refine hoist [] [] (a1 := ?_) 3 rfl (by kernel_rfl) (.inl ⟨rfl, rfl⟩) rfl rfl rfl (fun x K hK => ?_) ?_
    rotate_left
    ·go_big_quiet_op
     exact hK
    refine hoist [] [] (a1 := ?_) 4 rfl (by kernel_rfl) (.inl ⟨rfl, rfl⟩) rfl rfl rfl (fun x K hK => ?_) ?_
    rotate_left
    ·go_big_quiet_op
     exact hK
    refine hoist [] [] (a1 := ?_) 5 rfl (by kernel_rfl) (.inl ⟨rfl, rfl⟩) rfl rfl rfl (fun x K hK => ?_) ?_
    rotate_left
    ·go_big_quiet_op
     exact hK
    refine hoist [] [] (a1 := ?_) 6 rfl (by kernel_rfl) (.inl ⟨rfl, rfl⟩) rfl rfl rfl (fun x K hK => ?_) ?_
    rotate_left
    ·go_big_quiet_op
     exact hK
    refine hoist [] [] (a1 := ?_) 7 rfl (by kernel_rfl) (.inl ⟨rfl, rfl⟩) rfl rfl rfl (fun x K hK => ?_) ?_
    rotate_left
    ·go_big_quiet_op
     exact hK
    refine hoist [] [] (a1 := ?_) 8 rfl (by kernel_rfl) (.inl ⟨rfl, rfl⟩) rfl rfl rfl (fun x K hK => ?_) ?_
    rotate_left
    ·go_big_quiet_op
     exact hK
    refine hoist [] [] (a1 := ?_) 9 rfl (by kernel_rfl) (.inl ⟨rfl, rfl⟩) rfl rfl rfl (fun x K hK => ?_) ?_
    rotate_left
    ·go_big_quiet_op
     exact hK
    refine hoist [] [] (a1 := ?_) 10 rfl (by kernel_rfl) (.inl ⟨rfl, rfl⟩) rfl rfl rfl (fun x K hK => ?_) ?_
    rotate_left
    ·go_big_quiet_op
     exact hK
    refine hoist [] [] (a1 := ?_) 11 rfl (by kernel_rfl) (.inl ⟨rfl, rfl⟩) rfl rfl rfl (fun x K hK => ?_) ?_
    rotate_left
    ·go_big_quiet_op
     exact hK
    refine hoist [] [] (a1 := ?_) 12 rfl (by kernel_rfl) (.inl ⟨rfl, rfl⟩) rfl rfl rfl (fun x K hK => ?_) ?_
    rotate_left
    ·go_big_quiet_op
     exact hK
    refine hoist [] [] (a1 := ?_) 13 rfl (by kernel_rfl) (.inl ⟨rfl, rfl⟩) rfl rfl rfl (fun x K hK => ?_) ?_
    rotate_left
    ·go_big_quiet_op
     exact hK
    refine hoist [] [] (a1 := ?_) 14 rfl (by kernel_rfl) (.inl ⟨rfl, rfl⟩) rfl rfl rfl (fun x K hK => ?_) ?_
    rotate_left
    ·go_big_quiet_op
     exact hK
    refine hoist [] [] (a1 := ?_) 15 rfl (by kernel_rfl) (.inl ⟨rfl, rfl⟩) rfl rfl rfl (fun x K hK => ?_) ?_
    rotate_left
    ·go_big_quiet_op
     exact hK
    refine hoist [] [] (a1 := ?_) 16 rfl (by kernel_rfl) (.inl ⟨rfl, rfl⟩) rfl rfl rfl (fun x K hK => ?_) ?_
    rotate_left
    ·go_big_quiet_op
     exact hK
    refine hoist [] [] (a1 := ?_) 17 rfl (by kernel_rfl) (.inl ⟨rfl, rfl⟩) rfl rfl rfl (fun x K hK => ?_) ?_
    rotate_left
    ·go_big_quiet_op
     exact hK
    refine hoist [] [] (a1 := ?_) 18 rfl (by kernel_rfl) (.inl ⟨rfl, rfl⟩) rfl rfl rfl (fun x K hK => ?_) ?_
    rotate_left
    ·go_big_quiet_op
     exact hK
    refine hoist [] [] (a1 := ?_) 19 rfl (by kernel_rfl) (.inl ⟨rfl, rfl⟩) rfl rfl rfl (fun x K hK => ?_) ?_
    rotate_left
    ·go_big_quiet_op
     exact hK
    refine hoist [] [] (a1 := ?_) 20 rfl (by kernel_rfl) (.inl ⟨rfl, rfl⟩) rfl rfl rfl (fun x K hK => ?_) ?_
    rotate_left
    ·go_big_quiet_op
     exact hK
    refine hoist [] [] (a1 := ?_) 24 rfl (by kernel_rfl) (.inl ⟨rfl, rfl⟩) rfl rfl rfl (fun x K hK => ?_) ?_
    rotate_left
    ·go_big_quiet_op
     exact hK
    refine effect 21 rfl (by kernel_rfl) (by kernel_rfl) rfl (fun x21 K hK => ?_)
    go_simp
    refine Calls.mono (cL x21.now (Wz.out.trans x21.bw)).out ?_
    rintro e wa ⟨rfl, hb⟩
    refine hK _ _ (Still.of_below hb) ?_
    clear hK K
    have Wb := Lib.hid ((Wz.out.trans x21.bw).trans hb)
    have l3 := fun y : LaterS [] wa => y.cell (Wb.out.cell y1.out) (by simp)
    clear hb
    try simp only [Act.put, List.setIfInBounds_toArray, List.set_cons_succ, List.set_cons_zero]
    refine hoist [] [] (a1 := ?_) 22 rfl (by kernel_rfl) (.inl ⟨rfl, rfl⟩) rfl rfl rfl (fun x K hK => ?_) ?_
    rotate_left
    ·go_big_quiet_op
     exact hK
    refine hoist [] [] (a1 := ?_) 23 rfl (by kernel_rfl) (.inl ⟨rfl, rfl⟩) rfl rfl rfl (fun x K hK => ?_) ?_
    rotate_left
    ·go_big_quiet_op
     exact hK
    refine hoist [] [] (a1 := ?_) 25 rfl (by kernel_rfl) (.inl ⟨rfl, rfl⟩) rfl rfl rfl (fun x K hK => ?_) ?_
    rotate_left
    ·go_big_quiet_op
     exact hK
    refine hoist [] [] (a1 := ?_) 26 rfl (by kernel_rfl) (.inl ⟨rfl, rfl⟩) rfl rfl rfl (fun x K hK => ?_) ?_
    rotate_left
    ·go_big_quiet_op
     exact hK
    refine hoist [] [] (a1 := ?_) 27 rfl (by kernel_rfl) (.inl ⟨rfl, rfl⟩) rfl rfl rfl (fun x K hK => ?_) ?_
    rotate_left
    ·go_big_quiet_op
     exact hK
    refine done (by kernel_rfl) (fun xr => ?_)
    have B2 := Lib.hid (Wb.out.trans xr.bw)
    clear d1 d2 d3 d4 d5 l0 l2 l3 cA cL z1 z2 y1
    generalize hsv : (some ⟨b1, o1, none⟩ : Option Addr) = sv at *
    clear hsv
    have hls : lensL (M ++ [(x, b)]) = lensL M + n := by rw [lensL_snoc, hnl.out]
    have hlm : (M ++ [(x, b)]).length = M.length + 1 := by simp
    have hH2 := Lib.hid (hH.out.bw B2.out)
    have V2 := Lib.hid (hV.out.bw B2.out)
    generalize xr.now = w2 at *
    have hgi : g ∉ (Value.slice sv M.length cv).ownBlock.toList := fun hm => hH2.out.qi.ne hH2.out.cells (by decide) g (by simpa using hm) rfl
    have hgb : g ∉ (Value.slice sb M.length cb).ownBlock.toList := fun hm => hH2.out.qb.ne hH2.out.cells (by decide) g (by simpa using hm) rfl
    have hgei := Lib.hid hH2.out.qi.ge'
    have hgeb := Lib.hid hH2.out.qb.ge'
    have z2 : w2.cell? ⟨g, 2, none⟩ = some (.slice sv M.length cv) := hp_cell hH2.out.cells 2
    have BA : BW w2 (w2.alloc (.cells #[.int .i64 x] 2)) := (BW.refl _).alloc
    have L4 := Lib.hid (Sls.new1 (E := I1) w2 2 [.int .i64 x] rfl)
    have Qi := Lib.hid (hH2.out.qi.bw BA)
    have Qb := Lib.hid (hH2.out.qb.bw BA)
    have C2 := Lib.hid (hH2.out.cells.bw BA)
    have V3 := Lib.hid (V2.out.bw BA)
    have Ba := Lib.hid (B2.out.trans BA)
    have hza := Nat.le_trans hbase Ba.out.size
    have hgw2 := HpB.lt hH.out.cells
    clear BA V2
    replace hgi := Lib.hid hgi
    replace hgb := Lib.hid hgb
    replace hls := Lib.hid hls
    replace hlm := Lib.hid hlm
    go_upto_region 8 with (at_builtin; go_must (refine wpList_apEQ slI64 rfl _ _ rfl base (.slice sv M.length cv) M.length _ rfl Qi.out _ rfl 1 [x] [.int .i64 x] L4.out (EL.single rfl) rfl (by omega) hza (fun _ _ => trivial) ?_; intro s6 c6 w6 hc6 hm6 O6 T6 hb6 G6; unfold maxLen at hm6; replace O6 := Lib.hid O6; replace T6 := Lib.hid T6; replace G6 := Lib.hid G6; clear hb6; have C6 := Lib.hid (C2.out.st T6.out hgi.out); have y6 := hp_frz C6.out 2; have z6 := hp_cell C6.out 2))
    have Qb6 := Lib.hid (Qb.out.still T6.out (fun _ _ => trivial) (Qb.out.sep Qi.out (by decide)))
    have hltB := Ba.out.size
    have V6 := Lib.hid (V3.out.stillB T6.out (fun h0 k hk hm => (hvo.out h0 k hk).elim (fun h5 => by have := hgei.out k (by simpa using hm); omega) (fun ⟨cs, f, h5⟩ => Qi.out.ne (Ba.out.heap h5) (by decide) k (by simpa using hm) rfl)))
    have G7 : ∀ k, (Value.slice s6 (M.length + 1) c6).ownBlock = some k → (Value.slice sv M.length cv).ownBlock = some k ∨ w.heap.size ≤ k := fun k hk => by
     rcases G6.out k hk with h | h
     ·exact .inl h
     ·exact .inr (Nat.le_trans hltB h)
    have SS := still_setR w6 g 2 (.slice s6 (M.length + 1) c6)
    have C7 : Hid (HpB (w6.setCell ⟨g, 2, none⟩ (.slice s6 (M.length + 1) c6)) g (.cells #[.int .i64 pk, .int .i64 by_, .slice s6 (M.length + 1) c6, .slice sb M.length cb] 99)) := Lib.hid (hp_set C6.out 2 _)
    have Qi7 := Lib.hid (O6.out.still SS (fun _ _ => trivial) (fun k hk => by have := O6.out.ne C6.out (by decide) k hk; simpa using this))
    have Qb7 := Lib.hid (Qb6.out.still SS (fun _ _ => trivial) (fun k hk => by have := Qb6.out.ne C6.out (by decide) k hk; simpa using this))
    have V7 := Lib.hid (V6.out.stillB SS (fun h0 k hk hm => (hvo.out h0 k hk).elim (fun h7 => by have h5 : k = g := (by simpa using hm); have := hgB; omega) (fun ⟨cs, f, h7⟩ => hp_ne hH.out.cells h7 (by decide) (show k = g by simpa using hm).symm)))
    have TS7 := Lib.hid (((Ba.out.still (g :: ((Value.slice sv M.length cv).ownBlock.toList ++ (Value.slice sb M.length cb).ownBlock.toList))).trans (T6.out.weaken sub_l)).trans (SS.weaken sub_g))
    generalize w6.setCell ⟨g, 2, none⟩ (.slice s6 (M.length + 1) c6) = w7 at *
    clear y6 z6 z2 SS V6 V3 Qb6 O6 T6 G6 C6 Qb C2 L4 Ba Qi hza hH2
    replace G7 := Lib.hid G7
    have z3 : w7.cell? ⟨g, 3, none⟩ = some (.slice sb M.length cb) := hp_cell C7.out 3
    have l3 := fun y : LaterS [] w7 => y.cell z3 (by simp)
    have E1 : ∀ y : LaterS [] w7, _ := fun y => conv_sb (V7.out.bw y.bw)
    obtain ⟨bs, hbs⟩ : ∃ s, bstr b = s := ⟨_, rfl⟩
    rw [hbs] at E1
    replace hbs := Lib.hid hbs
    clear z3
    refine wp_region_gg ((Value.slice sb M.length cb).ownBlock.toList) [8] [9] (by kernel_rfl) ?_
    refine hoist ((Value.slice sb M.length cb).ownBlock.toList) [] (a1 := ?_) 0 rfl (by kernel_rfl) (.inr rfl) rfl rfl rfl (fun x K hK => ?_) ?_
    rotate_left
    ·go_big_quiet_op
     exact hK
    refine hoist [] [8] (a1 := ?_) 1 rfl (by kernel_rfl) (.inl ⟨rfl, rfl⟩) rfl rfl rfl (fun x K hK => ?_) ?_
    rotate_left
    ·go_big_quiet_op
     exact hK
    refine hoist [] [8] (a1 := ?_) 2 rfl (by kernel_rfl) (.inl ⟨rfl, rfl⟩) rfl rfl rfl (fun x K hK => ?_) ?_
    rotate_left
    ·go_big_quiet_op
     exact hK
    refine hoist [] [8] (a1 := ?_) 3 rfl (by kernel_rfl) (.inl ⟨rfl, rfl⟩) rfl rfl rfl (fun x K hK => ?_) ?_
    rotate_left
    ·go_big_quiet_op
     exact hK
    refine hoist [] [8] (a1 := ?_) 4 rfl (by kernel_rfl) (.inl ⟨rfl, rfl⟩) rfl rfl rfl (fun x K hK => ?_) ?_
    rotate_left
    ·go_big_quiet_op
     exact hK
    refine hoist [] [8] (a1 := ?_) 5 rfl (by kernel_rfl) (.inl ⟨rfl, rfl⟩) rfl rfl rfl (fun x K hK => ?_) ?_
    rotate_left
    ·go_big_quiet_op
     exact hK
    refine hoist [] [8] (a1 := ?_) 6 rfl (by kernel_rfl) (.inl ⟨rfl, rfl⟩) rfl rfl rfl (fun x K hK => ?_) ?_
    rotate_left
    ·go_big_quiet_op
     exact hK
    refine effect 7 rfl (by kernel_rfl) (by kernel_rfl) rfl (fun x7 K hK => ?_)
    go_simp
    refine hK _ _ (Still.of_below ((Below.refl _ _).alloc (Nat.le_refl _) _)) ?_
    clear hK K l3 E1
    have hb := x7.bw.trans ((BW.refl x7.now).alloc (o := .cells #[.string bs] 9))
    have L7 := Lib.hid (Sls.new1 (E := S1) x7.now 9 [.string bs] rfl)
    have W7 := Lib.hid hb
    clear hb
    generalize x7.now.alloc (.cells #[.string bs] 9) = w8 at *
    generalize x7.now.heap.size = xb at *
    try simp only [Act.put, List.setIfInBounds_toArray, List.set_cons_succ, List.set_cons_zero]
    refine effect 8 rfl (by kernel_rfl) (by kernel_rfl) rfl (fun x8 K hK => ?_)
    have hbx := W7.out.trans x8.bw
    have hzx := Nat.le_trans (Nat.le_trans hbase TS7.out.size) hbx.size
    refine wp_apEQ slStr _ _ rfl base (.slice sb M.length cb) M.length _ rfl (Qb7.out.bw hbx) _ rfl 1 [b] [.string bs] (L7.out.bw x8.bw) (EL.single (by rw [← hbs.out]; rfl)) rfl (by omega) hzx (fun _ _ => trivial) ?_
    intro s8 c8 w9 hc8 hm8 O8 T8 hb8 G8
    refine hK _ _ T8 ?_
    clear hK K hb8
    have C8 := Lib.hid ((C7.out.bw hbx).st T8 hgb.out)
    have Qi8 := Lib.hid ((Qi7.out.bw hbx).still T8 (fun _ _ => trivial) ((Qi7.out.bw hbx).sep (Qb7.out.bw hbx) (by decide)))
    have TS8 := Lib.hid ((TS7.out.trans (hbx.still _)).trans (T8.weaken sub_r))
    have G9 : ∀ k, (Value.slice s8 (M.length + 1) c8).ownBlock = some k → (Value.slice sb M.length cb).ownBlock = some k ∨ w.heap.size ≤ k := fun k hk => by
     rcases G8 k hk with h | h
     ·exact .inl h
     ·exact .inr (Nat.le_trans (Nat.le_trans TS7.out.size hbx.size) h)
    unfold maxLen at hm8
    clear hbx hzx T8 G8 L7 W7
    replace O8 := Lib.hid O8
    replace G9 := Lib.hid G9
    try simp only [Act.put, List.setIfInBounds_toArray, List.set_cons_succ, List.set_cons_zero]
    refine tail 9 rfl (by kernel_rfl) rfl (fun xr => ?_)
    simp only [List.drop_succ_cons, List.drop_zero]
    have C9 := Lib.hid (C8.out.bw xr.bw)
    have Qi9 := Lib.hid (Qi8.out.bw xr.bw)
    have Qb9 := Lib.hid (O8.out.bw xr.bw)
    have TS9 := Lib.hid (TS8.out.trans (xr.bw.still _))
    clear C8 Qi8 O8 TS8 C7 Qi7 Qb7 V7 TS7
    generalize xr.now = w9x at *
    have y3 := hp_frz C9.out 3
    have z3 := hp_cell C9.out 3
    have SS := still_setR w9x g 3 (.slice s8 (M.length + 1) c8)
    have C10 : HpB (w9x.setCell ⟨g, 3, none⟩ (.slice s8 (M.length + 1) c8)) g (.cells #[.int .i64 pk, .int .i64 by_, .slice s6 (M.length + 1) c6, .slice s8 (M.length + 1) c8] 99) := hp_set C9.out 3 _
    have Qi10 := Qi9.out.still SS (fun _ _ => trivial) (fun k hk => by have := Qi9.out.ne C9.out (by decide) k hk; simpa using this)
    have Qb10 := Qb9.out.still SS (fun _ _ => trivial) (fun k hk => by have := Qb9.out.ne C9.out (by decide) k hk; simpa using this)
    have H14 : Hid (RefV (w9x.setCell ⟨g, 3, none⟩ (.slice s8 (M.length + 1) c8)) base g pk by_ (.slice s6 (M.length + 1) c6) (.slice s8 (M.length + 1) c8) (M ++ [(x, b)])) := Lib.hid ⟨C10, by rw [hlm.out, List.map_append]; exact Qi10, by rw [hlm.out, List.map_append]; exact Qb10⟩
    have TS14 := Lib.hid (TS9.out.trans (SS.weaken sub_g))
    have F1 := G7
    have F2 := G9
    clear SS C10 Qi10 Qb10 Qi9 Qb9 C9 TS9 G7 G9
    go_upto_region 9 with (fail)
    generalize w9x.setCell ⟨g, 3, none⟩ (.slice s8 (M.length + 1) c8) = w14 at *
    clear y3 z3
    have hlm2 := hlm.out
    have hls2 := hls.out
    have hR5 : R = (0, trimR pk by_ (M ++ [(x, b)]).length (M ++ [(x, b)])) := by rw [hlm2]; exact hR4.out
    clear hR4 hlm hls
    generalize M ++ [(x, b)] = MI at *
    have hR4 := Lib.hid hR5
    clear hR5
    -- here: H14 : Hid (RefV w14 base g pk by_ vi2 vb2 MI), R = (0, trimR pk by_ MI.length MI), TS14, F1, F2, sizes of MI
    go_loopg [] MI.length (fun m' wx => ∃ (v1 v2 : Value) (M' : PL), m' = M'.length ∧ Hid (R = (0, trimR pk by_ M'.length M')) ∧ M'.length ≤ MI.length ∧ lensL M' ≤ lensL MI ∧ Hid (RefV wx base g pk by_ v1 v2 M') ∧ Hid (∀ k, v1.ownBlock = some k → (Value.slice sv M.length cv).ownBlock = some k ∨ w.heap.size ≤ k) ∧ Hid (∀ k, v2.ownBlock = some k → (Value.slice sb M.length cb).ownBlock = some k ∨ w.heap.size ≤ k) ∧ Hid (Still (g :: ((Value.slice sv M.length cv).ownBlock.toList ++ (Value.slice sb M.length cb).ownBlock.toList)) w wx))
    case atStart => exact ⟨_, _, MI, rfl, hR4, Nat.le_refl _, Nat.le_refl _, H14, F1, F2, TS14⟩
    case round =>
     clear H14 TS14 F1 F2 hR4
     obtain ⟨v1, v2, M', rfl, hR4, hl', hs', HR, F1, F2, TS⟩ := hrel
     obtain ⟨s', c', rfl, hn', hm'⟩ := HR.out.qi.len
     unfold maxLen at hm'
     have z0 : wr.cell? ⟨g, 0, none⟩ = some (.int .i64 pk) := hp_cell HR.out.cells 0
     have z1 : wr.cell? ⟨g, 1, none⟩ = some (.int .i64 by_) := hp_cell HR.out.cells 1
     have z2 : wr.cell? ⟨g, 2, none⟩ = some (.slice s' M'.length c') := hp_cell HR.out.cells 2
     have l0 := fun y : LaterS [] wr => y.cell z0 (by simp)
     have l1 := fun y : LaterS [] wr => y.cell z1 (by simp)
     have l2 := fun y : LaterS [] wr => y.cell z2 (by simp)
     clear z0 z1 z2
     have cZ := fun wz (hb : BW wr wz) => Lib.hid (rsz_any base g pk by_ _ v2 M' wz (HR.out.bw hb) (by omega))
     by_cases hmore : pk < (M'.length : Nat) ∨ by_ < (lensL M' : Nat)
     ·have hne : 0 < M'.length := by
       cases M' with
       | nil => exfalso; have : lensL ([] : PL) = 0 := rfl; simp at hmore; omega
       | cons p M' => simp
      obtain ⟨a, hla, haM⟩ := least_ex M' hne
      have hel : (M'.eraseIdx a).length + 1 = M'.length := by rw [List.length_eraseIdx, if_pos haM]; omega
      have hes := lensL_erase M' a
      have hR5 : R = (0, trimR pk by_ (M'.eraseIdx a).length (M'.eraseIdx a)) := by
       rw [hR4.out]
       conv => lhs; rw [← hel]
       conv => lhs; unfold trimR
       rw [if_pos hmore, hla]
      have hbR := Nat.le_trans hbase TS.out.size
      have key : ∀ wz, BW wr wz → Hid (Calls Try.prog 63 #[.pointer (some ⟨g, 0, none⟩)] wz fun e w' => e = .returned (.int .i64 (a : Nat)) ∧ BW wz w') := fun wz hb => Lib.hid (by
       have := rleast_any base g pk by_ _ v2 M' wz (HR.out.bw hb)
       rw [hla] at this; exact this)
      have key2 : ∀ wz, BW wr wz → Hid (Calls Try.prog 64 #[.pointer (some ⟨g, 0, none⟩), .int .i64 (a : Nat)] wz fun e w' => e = .returned (.tuple #[]) ∧ (∃ vi' vb', RefV w' base g pk by_ vi' vb' (M'.eraseIdx a) ∧ (∀ k, vi'.ownBlock = some k → wz.heap.size ≤ k) ∧ ∀ k, vb'.ownBlock = some k → wz.heap.size ≤ k) ∧ Still [g] wz w') := fun wz hb => Lib.hid (rdrp_any base g pk by_ _ v2 M' a wz (HR.out.bw hb) (by omega) (Nat.le_trans hbR hb.size) haM)
      have hel2 : (M'.eraseIdx a).length < M'.length := by omega
      replace hR5 := Lib.hid hR5
      replace hR4 := Lib.hid hR4
      replace hla := Lib.hid hla
      replace hel := Lib.hid hel
      by_cases hm1 : pk < (M'.length : Int)
      ·have d1 : decide (pk < (M'.length : Int)) = true := by simpa using hm1
       replace hm1 := Lib.hid hm1
       replace hmore := Lib.hid hmore
       go_upto_region 9 with (fail)
       refine wp_region_gg [] [] [] (by kernel_rfl) ?_
       refine hoist [] [] (a1 := ?_) 0 rfl (by kernel_rfl) (.inl ⟨rfl, rfl⟩) rfl rfl rfl (fun x K hK => ?_) ?_
       rotate_left
       ·go_big_quiet_op
        exact hK
       refine hoist [] [] (a1 := ?_) 1 rfl (by kernel_rfl) (.inl ⟨rfl, rfl⟩) rfl rfl rfl (fun x K hK => ?_) ?_
       rotate_left
       ·go_big_quiet_op
        exact hK
       refine hoist [] [] (a1 := ?_) 2 rfl (by kernel_rfl) (.inl ⟨rfl, rfl⟩) rfl rfl rfl (fun x K hK => ?_) ?_
       rotate_left
       ·go_big_quiet_op
        exact hK
       refine hoist [] [] (a1 := ?_) 3 rfl (by kernel_rfl) (.inl ⟨rfl, rfl⟩) rfl rfl rfl (fun x K hK => ?_) ?_
       rotate_left
       ·go_big_quiet_op
        exact hK
       refine hoist [] [] (a1 := ?_) 4 rfl (by kernel_rfl) (.inl ⟨rfl, rfl⟩) rfl rfl rfl (fun x K hK => ?_) ?_
       rotate_left
       ·go_big_quiet_op
        exact hK
       refine hoist [] [] (a1 := ?_) 5 rfl (by kernel_rfl) (.inl ⟨rfl, rfl⟩) rfl rfl rfl (fun x K hK => ?_) ?_
       rotate_left
       ·go_big_quiet_op
        exact hK
       refine hoist [] [] (a1 := ?_) 6 rfl (by kernel_rfl) (.inl ⟨rfl, rfl⟩) rfl rfl rfl (fun x K hK => ?_) ?_
       rotate_left
       ·go_big_quiet_op
        exact hK
       refine hoist [] [] (a1 := ?_) 7 rfl (by kernel_rfl) (.inl ⟨rfl, rfl⟩) rfl rfl rfl (fun x K hK => ?_) ?_
       rotate_left
       ·go_big_quiet_op
        exact hK
       refine hoist [] [] (a1 := ?_) 8 rfl (by kernel_rfl) (.inl ⟨rfl, rfl⟩) rfl rfl rfl (fun x K hK => ?_) ?_
       rotate_left
       ·go_big_quiet_op
        exact hK
       refine hoist [] [] (a1 := ?_) 9 rfl (by kernel_rfl) (.inl ⟨rfl, rfl⟩) rfl rfl rfl (fun x K hK => ?_) ?_
       rotate_left
       ·go_big_quiet_op
        exact hK
       refine hoist [] [] (a1 := ?_) 10 rfl (by kernel_rfl) (.inl ⟨rfl, rfl⟩) rfl rfl rfl (fun x K hK => ?_) ?_
       rotate_left
       ·go_big_quiet_op
        exact hK
       refine hoist_skip [] [] 11 rfl (by kernel_rfl) (.inl ⟨rfl, rfl⟩) rfl (a1 := ?_) ?_ ?_
       rotate_left
       ·simp only [Act.put, List.setIfInBounds_toArray, List.set_cons_succ, List.set_cons_zero]; rfl
       refine hoist_skip [] [] 12 rfl (by kernel_rfl) (.inl ⟨rfl, rfl⟩) rfl (a1 := ?_) ?_ ?_
       rotate_left
       ·simp only [Act.put, List.setIfInBounds_toArray, List.set_cons_succ, List.set_cons_zero]; rfl
       refine hoist_skip [] [] 13 rfl (by kernel_rfl) (.inl ⟨rfl, rfl⟩) rfl (a1 := ?_) ?_ ?_
       rotate_left
       ·simp only [Act.put, List.setIfInBounds_toArray, List.set_cons_succ, List.set_cons_zero]; rfl
       refine hoist_skip [] [] 14 rfl (by kernel_rfl) (.inl ⟨rfl, rfl⟩) rfl (a1 := ?_) ?_ ?_
       rotate_left
       ·simp only [Act.put, List.setIfInBounds_toArray, List.set_cons_succ, List.set_cons_zero]; rfl
       refine hoist_skip [] [] 15 rfl (by kernel_rfl) (.inl ⟨rfl, rfl⟩) rfl (a1 := ?_) ?_ ?_
       rotate_left
       ·simp only [Act.put, List.setIfInBounds_toArray, List.set_cons_succ, List.set_cons_zero]; rfl
       refine hoist_skip [] [] 16 rfl (by kernel_rfl) (.inl ⟨rfl, rfl⟩) rfl (a1 := ?_) ?_ ?_
       rotate_left
       ·simp only [Act.put, List.setIfInBounds_toArray, List.set_cons_succ, List.set_cons_zero]; rfl
       refine hoist_skip [] [] 17 rfl (by kernel_rfl) (.inl ⟨rfl, rfl⟩) rfl (a1 := ?_) ?_ ?_
       rotate_left
       ·simp only [Act.put, List.setIfInBounds_toArray, List.set_cons_succ, List.set_cons_zero]; rfl
       refine hoist [] [] (a1 := ?_) 18 rfl (by kernel_rfl) (.inl ⟨rfl, rfl⟩) rfl rfl rfl (fun x K hK => ?_) ?_
       rotate_left
       ·go_big_quiet_op
        exact hK
       refine done (by kernel_rfl) (fun xr => ?_)
       have WW := xr.bw
       have cL := key xr.now WW
       clear d1 l0 l1 l2 key cZ
       go_wp2_with fail
       refine Calls.mono cL.out ?_
       rintro e w19 ⟨rfl, hb⟩
       have cD := key2 w19 (WW.trans hb)
       have W19 := Lib.hid (WW.trans hb)
       clear cL key2 hb WW
       dsimp only
       go_wp2_with fail
       refine Calls.mono cD.out ?_
       rintro e w20 ⟨rfl, ⟨v3, v4, H20, F3, F4⟩, T20⟩
       have TS20 := Lib.hid ((TS.out.trans (W19.out.still _)).trans (T20.weaken sub_g))
       have F5 : ∀ k, v3.ownBlock = some k → (Value.slice sv M.length cv).ownBlock = some k ∨ w.heap.size ≤ k := fun k hk => .inr (Nat.le_trans (Nat.le_trans TS.out.size W19.out.size) (F3 k hk))
       have F6 : ∀ k, v4.ownBlock = some k → (Value.slice sb M.length cb).ownBlock = some k ∨ w.heap.size ≤ k := fun k hk => .inr (Nat.le_trans (Nat.le_trans TS.out.size W19.out.size) (F4 k hk))
       replace F5 := Lib.hid F5
       replace F6 := Lib.hid F6
       replace H20 := Lib.hid H20
       clear cD F3 F4 T20
       dsimp only
       go_wp2_with fail
       go_roundg (M'.eraseIdx a).length
       case measure => omega
       case rel => exact ⟨v3, v4, M'.eraseIdx a, rfl, hR5, by omega, by omega, H20, F5, F6, TS20⟩
      ·have d1 : decide (pk < (M'.length : Int)) = false := by simpa using hm1
       have d2 : decide (by_ < (lensL M' : Int)) = true := by simp; omega
       replace hm1 := Lib.hid hm1
       replace hmore := Lib.hid hmore
       go_upto_region 9 with (fail)
       refine wp_region_gg [] [] [] (by kernel_rfl) ?_
       refine hoist [] [] (a1 := ?_) 0 rfl (by kernel_rfl) (.inl ⟨rfl, rfl⟩) rfl rfl rfl (fun x K hK => ?_) ?_
       rotate_left
       ·go_big_quiet_op
        exact hK
       refine hoist [] [] (a1 := ?_) 1 rfl (by kernel_rfl) (.inl ⟨rfl, rfl⟩) rfl rfl rfl (fun x K hK => ?_) ?_
       rotate_left
       ·go_big_quiet_op
        exact hK
       refine hoist [] [] (a1 := ?_) 2 rfl (by kernel_rfl) (.inl ⟨rfl, rfl⟩) rfl rfl rfl (fun x K hK => ?_) ?_
       rotate_left
       ·go_big_quiet_op
        exact hK
       refine hoist [] [] (a1 := ?_) 3 rfl (by kernel_rfl) (.inl ⟨rfl, rfl⟩) rfl rfl rfl (fun x K hK => ?_) ?_
       rotate_left
       ·go_big_quiet_op
        exact hK
       refine hoist [] [] (a1 := ?_) 4 rfl (by kernel_rfl) (.inl ⟨rfl, rfl⟩) rfl rfl rfl (fun x K hK => ?_) ?_
       rotate_left
       ·go_big_quiet_op
        exact hK
       refine hoist [] [] (a1 := ?_) 5 rfl (by kernel_rfl) (.inl ⟨rfl, rfl⟩) rfl rfl rfl (fun x K hK => ?_) ?_
       rotate_left
       ·go_big_quiet_op
        exact hK
       refine hoist [] [] (a1 := ?_) 6 rfl (by kernel_rfl) (.inl ⟨rfl, rfl⟩) rfl rfl rfl (fun x K hK => ?_) ?_
       rotate_left
       ·go_big_quiet_op
        exact hK
       refine hoist [] [] (a1 := ?_) 7 rfl (by kernel_rfl) (.inl ⟨rfl, rfl⟩) rfl rfl rfl (fun x K hK => ?_) ?_
       rotate_left
       ·go_big_quiet_op
        exact hK
       refine hoist [] [] (a1 := ?_) 8 rfl (by kernel_rfl) (.inl ⟨rfl, rfl⟩) rfl rfl rfl (fun x K hK => ?_) ?_
       rotate_left
       ·go_big_quiet_op
        exact hK
       refine hoist [] [] (a1 := ?_) 9 rfl (by kernel_rfl) (.inl ⟨rfl, rfl⟩) rfl rfl rfl (fun x K hK => ?_) ?_
       rotate_left
       ·go_big_quiet_op
        exact hK
       refine hoist [] [] (a1 := ?_) 10 rfl (by kernel_rfl) (.inl ⟨rfl, rfl⟩) rfl rfl rfl (fun x K hK => ?_) ?_
       rotate_left
       ·go_big_quiet_op
        exact hK
       refine hoist [] [] (a1 := ?_) 11 rfl (by kernel_rfl) (.inl ⟨rfl, rfl⟩) rfl rfl rfl (fun x K hK => ?_) ?_
       rotate_left
       ·go_big_quiet_op
        exact hK
       refine hoist [] [] (a1 := ?_) 13 rfl (by kernel_rfl) (.inl ⟨rfl, rfl⟩) rfl rfl rfl (fun x K hK => ?_) ?_
       rotate_left
       ·go_big_quiet_op
        exact hK
       refine hoist [] [] (a1 := ?_) 14 rfl (by kernel_rfl) (.inl ⟨rfl, rfl⟩) rfl rfl rfl (fun x K hK => ?_) ?_
       rotate_left
       ·go_big_quiet_op
        exact hK
       refine hoist [] [] (a1 := ?_) 15 rfl (by kernel_rfl) (.inl ⟨rfl, rfl⟩) rfl rfl rfl (fun x K hK => ?_) ?_
       rotate_left
       ·go_big_quiet_op
        exact hK
       refine hoist [] [] (a1 := ?_) 16 rfl (by kernel_rfl) (.inl ⟨rfl, rfl⟩) rfl rfl rfl (fun x K hK => ?_) ?_
       rotate_left
       ·go_big_quiet_op
        exact hK
       refine effect 12 rfl (by kernel_rfl) (by kernel_rfl) rfl (fun x12 K hK => ?_)
       go_simp
       refine Calls.mono (cZ x12.now x12.bw).out ?_
       rintro e wz ⟨rfl, rfl⟩
       refine hK _ _ (Still.refl _ _) ?_
       clear hK K
       have l1 := fun y : LaterS [] x12.now => (x12.up y).cell (HR.out.bw (BW.refl _) |> fun h => hp_cell h.cells 1) (by simp)
       try simp only [List.getElem?_toArray, List.getElem?_cons_succ, List.getElem?_cons_zero] at l1
       have Wz := Lib.hid x12.bw
       try simp only [Act.put, List.setIfInBounds_toArray, List.set_cons_succ, List.set_cons_zero]
       refine hoist [] [] (a1 := ?_) 17 rfl (by kernel_rfl) (.inl ⟨rfl, rfl⟩) rfl rfl rfl (fun x K hK => ?_) ?_
       rotate_left
       ·go_big_quiet_op
        exact hK
       refine hoist [] [] (a1 := ?_) 18 rfl (by kernel_rfl) (.inl ⟨rfl, rfl⟩) rfl rfl rfl (fun x K hK => ?_) ?_
       rotate_left
       ·go_big_quiet_op
        exact hK
       refine done (by kernel_rfl) (fun xr => ?_)
       have WW := Wz.out.trans xr.bw
       clear d2
       have cL := key xr.now WW
       clear d1 l0 l1 l2 key cZ
       go_wp2_with fail
       refine Calls.mono cL.out ?_
       rintro e w19 ⟨rfl, hb⟩
       have cD := key2 w19 (WW.trans hb)
       have W19 := Lib.hid (WW.trans hb)
       clear cL key2 hb WW
       dsimp only
       go_wp2_with fail
       refine Calls.mono cD.out ?_
       rintro e w20 ⟨rfl, ⟨v3, v4, H20, F3, F4⟩, T20⟩
       have TS20 := Lib.hid ((TS.out.trans (W19.out.still _)).trans (T20.weaken sub_g))
       have F5 : ∀ k, v3.ownBlock = some k → (Value.slice sv M.length cv).ownBlock = some k ∨ w.heap.size ≤ k := fun k hk => .inr (Nat.le_trans (Nat.le_trans TS.out.size W19.out.size) (F3 k hk))
       have F6 : ∀ k, v4.ownBlock = some k → (Value.slice sb M.length cb).ownBlock = some k ∨ w.heap.size ≤ k := fun k hk => .inr (Nat.le_trans (Nat.le_trans TS.out.size W19.out.size) (F4 k hk))
       replace F5 := Lib.hid F5
       replace F6 := Lib.hid F6
       replace H20 := Lib.hid H20
       clear cD F3 F4 T20
       dsimp only
       go_wp2_with fail
       go_roundg (M'.eraseIdx a).length
       case measure => omega
       case rel => exact ⟨v3, v4, M'.eraseIdx a, rfl, hR5, by omega, by omega, H20, F5, F6, TS20⟩
     ·have d1 : decide (pk < (M'.length : Int)) = false := by simp; omega
      have d2 : decide (by_ < (lensL M' : Int)) = false := by simp; omega
      have hR5 : R = (0, M') := by
       rw [hR4.out]
       cases hf : M'.length with
       | zero => rfl
       | succ f =>
        unfold trimR
        rw [hf, if_neg (by rw [← hf]; exact hmore)]
      replace hR5 := Lib.hid hR5
      replace hR4 := Lib.hid hR4
      replace hmore := Lib.hid hmore
      go_upto_region 9 with (fail)
      refine wp_region_gg [] [] [] (by kernel_rfl) ?_
      refine hoist [] [] (a1 := ?_) 0 rfl (by kernel_rfl) (.inl ⟨rfl, rfl⟩) rfl rfl rfl (fun x K hK => ?_) ?_
      rotate_left
      ·go_big_quiet_op
       exact hK
      refine hoist [] [] (a1 := ?_) 1 rfl (by kernel_rfl) (.inl ⟨rfl, rfl⟩) rfl rfl rfl (fun x K hK => ?_) ?_
      rotate_left
      ·go_big_quiet_op
       exact hK
      refine hoist [] [] (a1 := ?_) 2 rfl (by kernel_rfl) (.inl ⟨rfl, rfl⟩) rfl rfl rfl (fun x K hK => ?_) ?_
      rotate_left
      ·go_big_quiet_op
       exact hK
      refine hoist [] [] (a1 := ?_) 3 rfl (by kernel_rfl) (.inl ⟨rfl, rfl⟩) rfl rfl rfl (fun x K hK => ?_) ?_
      rotate_left
      ·go_big_quiet_op
       exact hK
      refine hoist [] [] (a1 := ?_) 4 rfl (by kernel_rfl) (.inl ⟨rfl, rfl⟩) rfl rfl rfl (fun x K hK => ?_) ?_
      rotate_left
      ·go_big_quiet_op
       exact hK
      refine hoist [] [] (a1 := ?_) 5 rfl (by kernel_rfl) (.inl ⟨rfl, rfl⟩) rfl rfl rfl (fun x K hK => ?_) ?_
      rotate_left
      ·go_big_quiet_op
       exact hK
      refine hoist [] [] (a1 := ?_) 6 rfl (by kernel_rfl) (.inl ⟨rfl, rfl⟩) rfl rfl rfl (fun x K hK => ?_) ?_
      rotate_left
      ·go_big_quiet_op
       exact hK
      refine hoist [] [] (a1 := ?_) 7 rfl (by kernel_rfl) (.inl ⟨rfl, rfl⟩) rfl rfl rfl (fun x K hK => ?_) ?_
      rotate_left
      ·go_big_quiet_op
       exact hK
      refine hoist [] [] (a1 := ?_) 8 rfl (by kernel_rfl) (.inl ⟨rfl, rfl⟩) rfl rfl rfl (fun x K hK => ?_) ?_
      rotate_left
      ·go_big_quiet_op
       exact hK
      refine hoist [] [] (a1 := ?_) 9 rfl (by kernel_rfl) (.inl ⟨rfl, rfl⟩) rfl rfl rfl (fun x K hK => ?_) ?_
      rotate_left
      ·go_big_quiet_op
       exact hK
      refine hoist [] [] (a1 := ?_) 10 rfl (by kernel_rfl) (.inl ⟨rfl, rfl⟩) rfl rfl rfl (fun x K hK => ?_) ?_
      rotate_left
      ·go_big_quiet_op
       exact hK
      refine hoist [] [] (a1 := ?_) 11 rfl (by kernel_rfl) (.inl ⟨rfl, rfl⟩) rfl rfl rfl (fun x K hK => ?_) ?_
      rotate_left
      ·go_big_quiet_op
       exact hK
      refine hoist [] [] (a1 := ?_) 13 rfl (by kernel_rfl) (.inl ⟨rfl, rfl⟩) rfl rfl rfl (fun x K hK => ?_) ?_
      rotate_left
      ·go_big_quiet_op
       exact hK
      refine hoist [] [] (a1 := ?_) 14 rfl (by kernel_rfl) (.inl ⟨rfl, rfl⟩) rfl rfl rfl (fun x K hK => ?_) ?_
      rotate_left
      ·go_big_quiet_op
       exact hK
      refine hoist [] [] (a1 := ?_) 15 rfl (by kernel_rfl) (.inl ⟨rfl, rfl⟩) rfl rfl rfl (fun x K hK => ?_) ?_
      rotate_left
      ·go_big_quiet_op
       exact hK
      refine hoist [] [] (a1 := ?_) 16 rfl (by kernel_rfl) (.inl ⟨rfl, rfl⟩) rfl rfl rfl (fun x K hK => ?_) ?_
      rotate_left
      ·go_big_quiet_op
       exact hK
      refine effect 12 rfl (by kernel_rfl) (by kernel_rfl) rfl (fun x12 K hK => ?_)
      go_simp
      refine Calls.mono (cZ x12.now x12.bw).out ?_
      rintro e wz ⟨rfl, rfl⟩
      refine hK _ _ (Still.refl _ _) ?_
      clear hK K
      have l1 := fun y : LaterS [] x12.now => (x12.up y).cell (HR.out.bw (BW.refl _) |> fun h => hp_cell h.cells 1) (by simp)
      try simp only [List.getElem?_toArray, List.getElem?_cons_succ, List.getElem?_cons_zero] at l1
      have Wz := Lib.hid x12.bw
      try simp only [Act.put, List.setIfInBounds_toArray, List.set_cons_succ, List.set_cons_zero]
      refine hoist [] [] (a1 := ?_) 17 rfl (by kernel_rfl) (.inl ⟨rfl, rfl⟩) rfl rfl rfl (fun x K hK => ?_) ?_
      rotate_left
      ·go_big_quiet_op
       exact hK
      refine hoist [] [] (a1 := ?_) 18 rfl (by kernel_rfl) (.inl ⟨rfl, rfl⟩) rfl rfl rfl (fun x K hK => ?_) ?_
      rotate_left
      ·go_big_quiet_op
       exact hK
      refine done (by kernel_rfl) (fun xr => ?_)
      have WW := Wz.out.trans xr.bw
      go_wp2_with fail
      go_ret
      rw [hR5.out]
      exact ⟨rfl, ⟨_, _, HR.out.bw WW, F1.out, F2.out⟩, TS.out.trans (WW.still _)⟩
  ·have d4 : ((M.length : Int) == pk) = false := by simpa using hfull
   have hR4 : R = (0, trimR pk by_ (M.length + 1) (M ++ [(x, b)])) := by
    rw [← hR2.out, if_neg (fun h => by rcases h with h | h; rw [hat] at h; cases h; exact hfull h.1)]
   replace hR4 := Lib.hid hR4
   replace hat := Lib.hid hat
   replace hfull := Lib.hid hfull
   go_enter Try.func26, Try.ntmps26
   go_upto_region 5 with (fail)
   refine wp_region_gg [] [] [] (by kernel_rfl) ?_
   refine hoist [] [] (a1 := ?_) 0 rfl (by kernel_rfl) (.inl ⟨rfl, rfl⟩) rfl rfl rfl (fun x K hK => ?_) ?_
   rotate_left
   ·go_big_quiet_op
    exact hK
   refine hoist [] [] (a1 := ?_) 1 rfl (by kernel_rfl) (.inl ⟨rfl, rfl⟩) rfl rfl rfl (fun x K hK => ?_) ?_
   rotate_left
   ·go_big_quiet_op
    exact hK
   refine effect 2 rfl (by kernel_rfl) (by kernel_rfl) rfl (fun x2 K hK => ?_)
   go_simp
   refine Calls.mono (cA x2.now x2.bw).out ?_
   rintro e wz ⟨rfl, rfl⟩
   refine hK _ _ (Still.refl _ _) ?_
   clear hK K
   have Wz := Lib.hid x2.bw
   have l0 := fun y : LaterS [] x2.now => (x2.up y).cell z0.out (by simp)
   have l2 := fun y : LaterS [] x2.now => (x2.up y).cell z2.out (by simp)
   simp only [LaterS.up] at l0 l2
   try simp only [Act.put, List.setIfInBounds_toArray, List.set_cons_succ, List.set_cons_zero]
   refine hoist [] [] (a1 := ?_) 3 rfl (by kernel_rfl) (.inl ⟨rfl, rfl⟩) rfl rfl rfl (fun x K hK => ?_) ?_
   rotate_left
   ·go_big_quiet_op
    exact hK
   refine hoist [] [] (a1 := ?_) 4 rfl (by kernel_rfl) (.inl ⟨rfl, rfl⟩) rfl rfl rfl (fun x K hK => ?_) ?_
   rotate_left
   ·go_big_quiet_op
    exact hK
   refine hoist [] [] (a1 := ?_) 5 rfl (by kernel_rfl) (.inl ⟨rfl, rfl⟩) rfl rfl rfl (fun x K hK => ?_) ?_
   rotate_left
   ·go_big_quiet_op
    exact hK
   refine hoist [] [] (a1 := ?_) 6 rfl (by kernel_rfl) (.inl ⟨rfl, rfl⟩) rfl rfl rfl (fun x K hK => ?_) ?_
   rotate_left
   ·go_big_quiet_op
    exact hK
   refine hoist [] [] (a1 := ?_) 7 rfl (by kernel_rfl) (.inl ⟨rfl, rfl⟩) rfl rfl rfl (fun x K hK => ?_) ?_
   rotate_left
   ·go_big_quiet_op
    exact hK
   refine hoist [] [] (a1 := ?_) 8 rfl (by kernel_rfl) (.inl ⟨rfl, rfl⟩) rfl rfl rfl (fun x K hK => ?_) ?_
   rotate_left
   ·go_big_quiet_op
    exact hK
   refine hoist [] [] (a1 := ?_) 9 rfl (by kernel_rfl) (.inl ⟨rfl, rfl⟩) rfl rfl rfl (fun x K hK => ?_) ?_
   rotate_left
   ·go_big_quiet_op
    exact hK
   refine hoist [] [] (a1 := ?_) 10 rfl (by kernel_rfl) (.inl ⟨rfl, rfl⟩) rfl rfl rfl (fun x K hK => ?_) ?_
   rotate_left
   ·go_big_quiet_op
    exact hK
   refine hoist [] [] (a1 := ?_) 11 rfl (by kernel_rfl) (.inl ⟨rfl, rfl⟩) rfl rfl rfl (fun x K hK => ?_) ?_
   rotate_left
   ·go_big_quiet_op
    exact hK
   refine hoist [] [] (a1 := ?_) 12 rfl (by kernel_rfl) (.inl ⟨rfl, rfl⟩) rfl rfl rfl (fun x K hK => ?_) ?_
   rotate_left
   ·go_big_quiet_op
    exact hK
   refine hoist [] [] (a1 := ?_) 13 rfl (by kernel_rfl) (.inl ⟨rfl, rfl⟩) rfl rfl rfl (fun x K hK => ?_) ?_
   rotate_left
   ·go_big_quiet_op
    exact hK
   refine hoist [] [] (a1 := ?_) 14 rfl (by kernel_rfl) (.inl ⟨rfl, rfl⟩) rfl rfl rfl (fun x K hK => ?_) ?_
   rotate_left
   ·go_big_quiet_op
    exact hK
   refine hoist [] [] (a1 := ?_) 15 rfl (by kernel_rfl) (.inl ⟨rfl, rfl⟩) rfl rfl rfl (fun x K hK => ?_) ?_
   rotate_left
   ·go_big_quiet_op
    exact hK
   refine hoist_skip [] [] 16 rfl (by kernel_rfl) (.inl ⟨rfl, rfl⟩) rfl (a1 := ?_) ?_ ?_
   rotate_left
   ·simp only [Act.put, List.setIfInBounds_toArray, List.set_cons_succ, List.set_cons_zero]; rfl
   refine hoist_skip [] [] 17 rfl (by kernel_rfl) (.inl ⟨rfl, rfl⟩) rfl (a1 := ?_) ?_ ?_
   rotate_left
   ·simp only [Act.put, List.setIfInBounds_toArray, List.set_cons_succ, List.set_cons_zero]; rfl
   refine hoist_skip [] [] 18 rfl (by kernel_rfl) (.inl ⟨rfl, rfl⟩) rfl (a1 := ?_) ?_ ?_
   rotate_left
   ·simp only [Act.put, List.setIfInBounds_toArray, List.set_cons_succ, List.set_cons_zero]; rfl
   refine hoist_skip [] [] 19 rfl (by kernel_rfl) (.inl ⟨rfl, rfl⟩) rfl (a1 := ?_) ?_ ?_
   rotate_left
   ·simp only [Act.put, List.setIfInBounds_toArray, List.set_cons_succ, List.set_cons_zero]; rfl
   refine hoist_skip [] [] 20 rfl (by kernel_rfl) (.inl ⟨rfl, rfl⟩) rfl (a1 := ?_) ?_ ?_
   rotate_left
   ·simp only [Act.put, List.setIfInBounds_toArray, List.set_cons_succ, List.set_cons_zero]; rfl
   refine hoist_skip [] [] 21 rfl (by kernel_rfl) (.inl ⟨rfl, rfl⟩) rfl (a1 := ?_) ?_ ?_
   rotate_left
   ·simp only [Act.put, List.setIfInBounds_toArray, List.set_cons_succ, List.set_cons_zero]; rfl
   refine hoist_skip [] [] 22 rfl (by kernel_rfl) (.inl ⟨rfl, rfl⟩) rfl (a1 := ?_) ?_ ?_
   rotate_left
   ·simp only [Act.put, List.setIfInBounds_toArray, List.set_cons_succ, List.set_cons_zero]; rfl
   refine hoist_skip [] [] 23 rfl (by kernel_rfl) (.inl ⟨rfl, rfl⟩) rfl (a1 := ?_) ?_ ?_
   rotate_left
   ·simp only [Act.put, List.setIfInBounds_toArray, List.set_cons_succ, List.set_cons_zero]; rfl
   refine hoist_skip [] [] 24 rfl (by kernel_rfl) (.inl ⟨rfl, rfl⟩) rfl (a1 := ?_) ?_ ?_
   rotate_left
   ·simp only [Act.put, List.setIfInBounds_toArray, List.set_cons_succ, List.set_cons_zero]; rfl
   refine hoist_skip [] [] 25 rfl (by kernel_rfl) (.inl ⟨rfl, rfl⟩) rfl (a1 := ?_) ?_ ?_
   rotate_left
   ·simp only [Act.put, List.setIfInBounds_toArray, List.set_cons_succ, List.set_cons_zero]; rfl
   refine hoist [] [] (a1 := ?_) 26 rfl (by kernel_rfl) (.inl ⟨rfl, rfl⟩) rfl rfl rfl (fun x K hK => ?_) ?_
   rotate_left
   ·go_big_quiet_op
    exact hK
   refine hoist [] [] (a1 := ?_) 27 rfl (by kernel_rfl) (.inl ⟨rfl, rfl⟩) rfl rfl rfl (fun x K hK => ?_) ?_
   rotate_left
   ·go_big_quiet_op
    exact hK
   refine done (by kernel_rfl) (fun xr => ?_)
   have B2 := Lib.hid (Wz.out.trans xr.bw)
   clear d1 d2 d3 d4 l0 l2 cA z1 z2
   have hls : lensL (M ++ [(x, b)]) = lensL M + n := by rw [lensL_snoc, hnl.out]
   have hlm : (M ++ [(x, b)]).length = M.length + 1 := by simp
   have hH2 := Lib.hid (hH.out.bw B2.out)
   have V2 := Lib.hid (hV.out.bw B2.out)
   generalize xr.now = w2 at *
   have hgi : g ∉ (Value.slice sv M.length cv).ownBlock.toList := fun hm => hH2.out.qi.ne hH2.out.cells (by decide) g (by simpa using hm) rfl
   have hgb : g ∉ (Value.slice sb M.length cb).ownBlock.toList := fun hm => hH2.out.qb.ne hH2.out.cells (by decide) g (by simpa using hm) rfl
   have hgei := Lib.hid hH2.out.qi.ge'
   have hgeb := Lib.hid hH2.out.qb.ge'
   have z2 : w2.cell? ⟨g, 2, none⟩ = some (.slice sv M.length cv) := hp_cell hH2.out.cells 2
   have BA : BW w2 (w2.alloc (.cells #[.int .i64 x] 2)) := (BW.refl _).alloc
   have L4 := Lib.hid (Sls.new1 (E := I1) w2 2 [.int .i64 x] rfl)
   have Qi := Lib.hid (hH2.out.qi.bw BA)
   have Qb := Lib.hid (hH2.out.qb.bw BA)
   have C2 := Lib.hid (hH2.out.cells.bw BA)
   have V3 := Lib.hid (V2.out.bw BA)
   have Ba := Lib.hid (B2.out.trans BA)
   have hza := Nat.le_trans hbase Ba.out.size
   have hgw2 := HpB.lt hH.out.cells
   clear BA V2
   replace hgi := Lib.hid hgi
   replace hgb := Lib.hid hgb
   replace hls := Lib.hid hls
   replace hlm := Lib.hid hlm
   go_upto_region 8 with (at_builtin; go_must (refine wpList_apEQ slI64 rfl _ _ rfl base (.slice sv M.length cv) M.length _ rfl Qi.out _ rfl 1 [x] [.int .i64 x] L4.out (EL.single rfl) rfl (by omega) hza (fun _ _ => trivial) ?_; intro s6 c6 w6 hc6 hm6 O6 T6 hb6 G6; unfold maxLen at hm6; replace O6 := Lib.hid O6; replace T6 := Lib.hid T6; replace G6 := Lib.hid G6; clear hb6; have C6 := Lib.hid (C2.out.st T6.out hgi.out); have y6 := hp_frz C6.out 2; have z6 := hp_cell C6.out 2))
   have Qb6 := Lib.hid (Qb.out.still T6.out (fun _ _ => trivial) (Qb.out.sep Qi.out (by decide)))
   have hltB := Ba.out.size
   have V6 := Lib.hid (V3.out.stillB T6.out (fun h0 k hk hm => (hvo.out h0 k hk).elim (fun h5 => by have := hgei.out k (by simpa using hm); omega) (fun ⟨cs, f, h5⟩ => Qi.out.ne (Ba.out.heap h5) (by decide) k (by simpa using hm) rfl)))
   have G7 : ∀ k, (Value.slice s6 (M.length + 1) c6).ownBlock = some k → (Value.slice sv M.length cv).ownBlock = some k ∨ w.heap.size ≤ k := fun k hk => by
    rcases G6.out k hk with h | h
    ·exact .inl h
    ·exact .inr (Nat.le_trans hltB h)
   have SS := still_setR w6 g 2 (.slice s6 (M.length + 1) c6)
   have C7 : Hid (HpB (w6.setCell ⟨g, 2, none⟩ (.slice s6 (M.length + 1) c6)) g (.cells #[.int .i64 pk, .int .i64 by_, .slice s6 (M.length + 1) c6, .slice sb M.length cb] 99)) := Lib.hid (hp_set C6.out 2 _)
   have Qi7 := Lib.hid (O6.out.still SS (fun _ _ => trivial) (fun k hk => by have := O6.out.ne C6.out (by decide) k hk; simpa using this))
   have Qb7 := Lib.hid (Qb6.out.still SS (fun _ _ => trivial) (fun k hk => by have := Qb6.out.ne C6.out (by decide) k hk; simpa using this))
   have V7 := Lib.hid (V6.out.stillB SS (fun h0 k hk hm => (hvo.out h0 k hk).elim (fun h7 => by have h5 : k = g := (by simpa using hm); have := hgB; omega) (fun ⟨cs, f, h7⟩ => hp_ne hH.out.cells h7 (by decide) (show k = g by simpa using hm).symm)))
   have TS7 := Lib.hid (((Ba.out.still (g :: ((Value.slice sv M.length cv).ownBlock.toList ++ (Value.slice sb M.length cb).ownBlock.toList))).trans (T6.out.weaken sub_l)).trans (SS.weaken sub_g))
   generalize w6.setCell ⟨g, 2, none⟩ (.slice s6 (M.length + 1) c6) = w7 at *
   clear y6 z6 z2 SS V6 V3 Qb6 O6 T6 G6 C6 Qb C2 L4 Ba Qi hza hH2
   replace G7 := Lib.hid G7
   have z3 : w7.cell? ⟨g, 3, none⟩ = some (.slice sb M.length cb) := hp_cell C7.out 3
   have l3 := fun y : LaterS [] w7 => y.cell z3 (by simp)
   have E1 : ∀ y : LaterS [] w7, _ := fun y => conv_sb (V7.out.bw y.bw)
   obtain ⟨bs, hbs⟩ : ∃ s, bstr b = s := ⟨_, rfl⟩
   rw [hbs] at E1
   replace hbs := Lib.hid hbs
   clear z3
   refine wp_region_gg ((Value.slice sb M.length cb).ownBlock.toList) [8] [9] (by kernel_rfl) ?_
   refine hoist ((Value.slice sb M.length cb).ownBlock.toList) [] (a1 := ?_) 0 rfl (by kernel_rfl) (.inr rfl) rfl rfl rfl (fun x K hK => ?_) ?_
   rotate_left
   ·go_big_quiet_op
    exact hK
   refine hoist [] [8] (a1 := ?_) 1 rfl (by kernel_rfl) (.inl ⟨rfl, rfl⟩) rfl rfl rfl (fun x K hK => ?_) ?_
   rotate_left
   ·go_big_quiet_op
    exact hK
   refine hoist [] [8] (a1 := ?_) 2 rfl (by kernel_rfl) (.inl ⟨rfl, rfl⟩) rfl rfl rfl (fun x K hK => ?_) ?_
   rotate_left
   ·go_big_quiet_op
    exact hK
   refine hoist [] [8] (a1 := ?_) 3 rfl (by kernel_rfl) (.inl ⟨rfl, rfl⟩) rfl rfl rfl (fun x K hK => ?_) ?_
   rotate_left
   ·go_big_quiet_op
    exact hK
   refine hoist [] [8] (a1 := ?_) 4 rfl (by kernel_rfl) (.inl ⟨rfl, rfl⟩) rfl rfl rfl (fun x K hK => ?_) ?_
   rotate_left
   ·go_big_quiet_op
    exact hK
   refine hoist [] [8] (a1 := ?_) 5 rfl (by kernel_rfl) (.inl ⟨rfl, rfl⟩) rfl rfl rfl (fun x K hK => ?_) ?_
   rotate_left
   ·go_big_quiet_op
    exact hK
   refine hoist [] [8] (a1 := ?_) 6 rfl (by kernel_rfl) (.inl ⟨rfl, rfl⟩) rfl rfl rfl (fun x K hK => ?_) ?_
   rotate_left
   ·go_big_quiet_op
    exact hK
   refine effect 7 rfl (by kernel_rfl) (by kernel_rfl) rfl (fun x7 K hK => ?_)
   go_simp
   refine hK _ _ (Still.of_below ((Below.refl _ _).alloc (Nat.le_refl _) _)) ?_
   clear hK K l3 E1
   have hb := x7.bw.trans ((BW.refl x7.now).alloc (o := .cells #[.string bs] 9))
   have L7 := Lib.hid (Sls.new1 (E := S1) x7.now 9 [.string bs] rfl)
   have W7 := Lib.hid hb
   clear hb
   generalize x7.now.alloc (.cells #[.string bs] 9) = w8 at *
   generalize x7.now.heap.size = xb at *
   try simp only [Act.put, List.setIfInBounds_toArray, List.set_cons_succ, List.set_cons_zero]
   refine effect 8 rfl (by kernel_rfl) (by kernel_rfl) rfl (fun x8 K hK => ?_)
   have hbx := W7.out.trans x8.bw
   have hzx := Nat.le_trans (Nat.le_trans hbase TS7.out.size) hbx.size
   refine wp_apEQ slStr _ _ rfl base (.slice sb M.length cb) M.length _ rfl (Qb7.out.bw hbx) _ rfl 1 [b] [.string bs] (L7.out.bw x8.bw) (EL.single (by rw [← hbs.out]; rfl)) rfl (by omega) hzx (fun _ _ => trivial) ?_
   intro s8 c8 w9 hc8 hm8 O8 T8 hb8 G8
   refine hK _ _ T8 ?_
   clear hK K hb8
   have C8 := Lib.hid ((C7.out.bw hbx).st T8 hgb.out)
   have Qi8 := Lib.hid ((Qi7.out.bw hbx).still T8 (fun _ _ => trivial) ((Qi7.out.bw hbx).sep (Qb7.out.bw hbx) (by decide)))
   have TS8 := Lib.hid ((TS7.out.trans (hbx.still _)).trans (T8.weaken sub_r))
   have G9 : ∀ k, (Value.slice s8 (M.length + 1) c8).ownBlock = some k → (Value.slice sb M.length cb).ownBlock = some k ∨ w.heap.size ≤ k := fun k hk => by
    rcases G8 k hk with h | h
    ·exact .inl h
    ·exact .inr (Nat.le_trans (Nat.le_trans TS7.out.size hbx.size) h)
   unfold maxLen at hm8
   clear hbx hzx T8 G8 L7 W7
   replace O8 := Lib.hid O8
   replace G9 := Lib.hid G9
   try simp only [Act.put, List.setIfInBounds_toArray, List.set_cons_succ, List.set_cons_zero]
   refine tail 9 rfl (by kernel_rfl) rfl (fun xr => ?_)
   simp only [List.drop_succ_cons, List.drop_zero]
   have C9 := Lib.hid (C8.out.bw xr.bw)
   have Qi9 := Lib.hid (Qi8.out.bw xr.bw)
   have Qb9 := Lib.hid (O8.out.bw xr.bw)
   have TS9 := Lib.hid (TS8.out.trans (xr.bw.still _))
   clear C8 Qi8 O8 TS8 C7 Qi7 Qb7 V7 TS7
   generalize xr.now = w9x at *
   have y3 := hp_frz C9.out 3
   have z3 := hp_cell C9.out 3
   have SS := still_setR w9x g 3 (.slice s8 (M.length + 1) c8)
   have C10 : HpB (w9x.setCell ⟨g, 3, none⟩ (.slice s8 (M.length + 1) c8)) g (.cells #[.int .i64 pk, .int .i64 by_, .slice s6 (M.length + 1) c6, .slice s8 (M.length + 1) c8] 99) := hp_set C9.out 3 _
   have Qi10 := Qi9.out.still SS (fun _ _ => trivial) (fun k hk => by have := Qi9.out.ne C9.out (by decide) k hk; simpa using this)
   have Qb10 := Qb9.out.still SS (fun _ _ => trivial) (fun k hk => by have := Qb9.out.ne C9.out (by decide) k hk; simpa using this)
   have H14 : Hid (RefV (w9x.setCell ⟨g, 3, none⟩ (.slice s8 (M.length + 1) c8)) base g pk by_ (.slice s6 (M.length + 1) c6) (.slice s8 (M.length + 1) c8) (M ++ [(x, b)])) := Lib.hid ⟨C10, by rw [hlm.out, List.map_append]; exact Qi10, by rw [hlm.out, List.map_append]; exact Qb10⟩
   have TS14 := Lib.hid (TS9.out.trans (SS.weaken sub_g))
   have F1 := G7
   have F2 := G9
   clear SS C10 Qi10 Qb10 Qi9 Qb9 C9 TS9 G7 G9
   go_upto_region 9 with (fail)
   generalize w9x.setCell ⟨g, 3, none⟩ (.slice s8 (M.length + 1) c8) = w14 at *
   clear y3 z3
   have hlm2 := hlm.out
   have hls2 := hls.out
   have hR5 : R = (0, trimR pk by_ (M ++ [(x, b)]).length (M ++ [(x, b)])) := by rw [hlm2]; exact hR4.out
   clear hR4 hlm hls
   generalize M ++ [(x, b)] = MI at *
   have hR4 := Lib.hid hR5
   clear hR5
   -- here: H14 : Hid (RefV w14 base g pk by_ vi2 vb2 MI), R = (0, trimR pk by_ MI.length MI), TS14, F1, F2, sizes of MI
   go_loopg [] MI.length (fun m' wx => ∃ (v1 v2 : Value) (M' : PL), m' = M'.length ∧ Hid (R = (0, trimR pk by_ M'.length M')) ∧ M'.length ≤ MI.length ∧ lensL M' ≤ lensL MI ∧ Hid (RefV wx base g pk by_ v1 v2 M') ∧ Hid (∀ k, v1.ownBlock = some k → (Value.slice sv M.length cv).ownBlock = some k ∨ w.heap.size ≤ k) ∧ Hid (∀ k, v2.ownBlock = some k → (Value.slice sb M.length cb).ownBlock = some k ∨ w.heap.size ≤ k) ∧ Hid (Still (g :: ((Value.slice sv M.length cv).ownBlock.toList ++ (Value.slice sb M.length cb).ownBlock.toList)) w wx))
   case atStart => exact ⟨_, _, MI, rfl, hR4, Nat.le_refl _, Nat.le_refl _, H14, F1, F2, TS14⟩
   case round =>
    clear H14 TS14 F1 F2 hR4
    obtain ⟨v1, v2, M', rfl, hR4, hl', hs', HR, F1, F2, TS⟩ := hrel
    obtain ⟨s', c', rfl, hn', hm'⟩ := HR.out.qi.len
    unfold maxLen at hm'
    have z0 : wr.cell? ⟨g, 0, none⟩ = some (.int .i64 pk) := hp_cell HR.out.cells 0
    have z1 : wr.cell? ⟨g, 1, none⟩ = some (.int .i64 by_) := hp_cell HR.out.cells 1
    have z2 : wr.cell? ⟨g, 2, none⟩ = some (.slice s' M'.length c') := hp_cell HR.out.cells 2
    have l0 := fun y : LaterS [] wr => y.cell z0 (by simp)
    have l1 := fun y : LaterS [] wr => y.cell z1 (by simp)
    have l2 := fun y : LaterS [] wr => y.cell z2 (by simp)
    clear z0 z1 z2
    have cZ := fun wz (hb : BW wr wz) => Lib.hid (rsz_any base g pk by_ _ v2 M' wz (HR.out.bw hb) (by omega))
    by_cases hmore : pk < (M'.length : Nat) ∨ by_ < (lensL M' : Nat)
    ·have hne : 0 < M'.length := by
      cases M' with
      | nil => exfalso; have : lensL ([] : PL) = 0 := rfl; simp at hmore; omega
      | cons p M' => simp
     obtain ⟨a, hla, haM⟩ := least_ex M' hne
     have hel : (M'.eraseIdx a).length + 1 = M'.length := by rw [List.length_eraseIdx, if_pos haM]; omega
     have hes := lensL_erase M' a
     have hR5 : R = (0, trimR pk by_ (M'.eraseIdx a).length (M'.eraseIdx a)) := by
      rw [hR4.out]
      conv => lhs; rw [← hel]
      conv => lhs; unfold trimR
      rw [if_pos hmore, hla]
     have hbR := Nat.le_trans hbase TS.out.size
     have key : ∀ wz, BW wr wz → Hid (Calls Try.prog 63 #[.pointer (some ⟨g, 0, none⟩)] wz fun e w' => e = .returned (.int .i64 (a : Nat)) ∧ BW wz w') := fun wz hb => Lib.hid (by
      have := rleast_any base g pk by_ _ v2 M' wz (HR.out.bw hb)
      rw [hla] at this; exact this)
     have key2 : ∀ wz, BW wr wz → Hid (Calls Try.prog 64 #[.pointer (some ⟨g, 0, none⟩), .int .i64 (a : Nat)] wz fun e w' => e = .returned (.tuple #[]) ∧ (∃ vi' vb', RefV w' base g pk by_ vi' vb' (M'.eraseIdx a) ∧ (∀ k, vi'.ownBlock = some k → wz.heap.size ≤ k) ∧ ∀ k, vb'.ownBlock = some k → wz.heap.size ≤ k) ∧ Still [g] wz w') := fun wz hb => Lib.hid (rdrp_any base g pk by_ _ v2 M' a wz (HR.out.bw hb) (by omega) (Nat.le_trans hbR hb.size) haM)
     have hel2 : (M'.eraseIdx a).length < M'.length := by omega
     replace hR5 := Lib.hid hR5
     replace hR4 := Lib.hid hR4
     replace hla := Lib.hid hla
     replace hel := Lib.hid hel
     by_cases hm1 : pk < (M'.length : Int)
     ·have d1 : decide (pk < (M'.length : Int)) = true := by simpa using hm1
      replace hm1 := Lib.hid hm1
      replace hmore := Lib.hid hmore
      go_upto_region 9 with (fail)
      refine wp_region_gg [] [] [] (by kernel_rfl) ?_
      refine hoist [] [] (a1 := ?_) 0 rfl (by kernel_rfl) (.inl ⟨rfl, rfl⟩) rfl rfl rfl (fun x K hK => ?_) ?_
      rotate_left
      ·go_big_quiet_op
       exact hK
      refine hoist [] [] (a1 := ?_) 1 rfl (by kernel_rfl) (.inl ⟨rfl, rfl⟩) rfl rfl rfl (fun x K hK => ?_) ?_
      rotate_left
      ·go_big_quiet_op
       exact hK
      refine hoist [] [] (a1 := ?_) 2 rfl (by kernel_rfl) (.inl ⟨rfl, rfl⟩) rfl rfl rfl (fun x K hK => ?_) ?_
      rotate_left
      ·go_big_quiet_op
       exact hK
      refine hoist [] [] (a1 := ?_) 3 rfl (by kernel_rfl) (.inl ⟨rfl, rfl⟩) rfl rfl rfl (fun x K hK => ?_) ?_
      rotate_left
      ·go_big_quiet_op
       exact hK
      refine hoist [] [] (a1 := ?_) 4 rfl (by kernel_rfl) (.inl ⟨rfl, rfl⟩) rfl rfl rfl (fun x K hK => ?_) ?_
      rotate_left
      ·go_big_quiet_op
       exact hK
      refine hoist [] [] (a1 := ?_) 5 rfl (by kernel_rfl) (.inl ⟨rfl, rfl⟩) rfl rfl rfl (fun x K hK => ?_) ?_
      rotate_left
      ·go_big_quiet_op
       exact hK
      refine hoist [] [] (a1 := ?_) 6 rfl (by kernel_rfl) (.inl ⟨rfl, rfl⟩) rfl rfl rfl (fun x K hK => ?_) ?_
      rotate_left
      ·go_big_quiet_op
       exact hK
      refine hoist [] [] (a1 := ?_) 7 rfl (by kernel_rfl) (.inl ⟨rfl, rfl⟩) rfl rfl rfl (fun x K hK => ?_) ?_
      rotate_left
      ·go_big_quiet_op
       exact hK
      refine hoist [] [] (a1 := ?_) 8 rfl (by kernel_rfl) (.inl ⟨rfl, rfl⟩) rfl rfl rfl (fun x K hK => ?_) ?_
      rotate_left
      ·go_big_quiet_op
       exact hK
      refine hoist [] [] (a1 := ?_) 9 rfl (by kernel_rfl) (.inl ⟨rfl, rfl⟩) rfl rfl rfl (fun x K hK => ?_) ?_
      rotate_left
      ·go_big_quiet_op
       exact hK
      refine hoist [] [] (a1 := ?_) 10 rfl (by kernel_rfl) (.inl ⟨rfl, rfl⟩) rfl rfl rfl (fun x K hK => ?_) ?_
      rotate_left
      ·go_big_quiet_op
       exact hK
      refine hoist_skip [] [] 11 rfl (by kernel_rfl) (.inl ⟨rfl, rfl⟩) rfl (a1 := ?_) ?_ ?_
      rotate_left
      ·simp only [Act.put, List.setIfInBounds_toArray, List.set_cons_succ, List.set_cons_zero]; rfl
      refine hoist_skip [] [] 12 rfl (by kernel_rfl) (.inl ⟨rfl, rfl⟩) rfl (a1 := ?_) ?_ ?_
      rotate_left
      ·simp only [Act.put, List.setIfInBounds_toArray, List.set_cons_succ, List.set_cons_zero]; rfl
      refine hoist_skip [] [] 13 rfl (by kernel_rfl) (.inl ⟨rfl, rfl⟩) rfl (a1 := ?_) ?_ ?_
      rotate_left
      ·simp only [Act.put, List.setIfInBounds_toArray, List.set_cons_succ, List.set_cons_zero]; rfl
      refine hoist_skip [] [] 14 rfl (by kernel_rfl) (.inl ⟨rfl, rfl⟩) rfl (a1 := ?_) ?_ ?_
      rotate_left
      ·simp only [Act.put, List.setIfInBounds_toArray, List.set_cons_succ, List.set_cons_zero]; rfl
      refine hoist_skip [] [] 15 rfl (by kernel_rfl) (.inl ⟨rfl, rfl⟩) rfl (a1 := ?_) ?_ ?_
      rotate_left
      ·simp only [Act.put, List.setIfInBounds_toArray, List.set_cons_succ, List.set_cons_zero]; rfl
      refine hoist_skip [] [] 16 rfl (by kernel_rfl) (.inl ⟨rfl, rfl⟩) rfl (a1 := ?_) ?_ ?_
      rotate_left
      ·simp only [Act.put, List.setIfInBounds_toArray, List.set_cons_succ, List.set_cons_zero]; rfl
      refine hoist_skip [] [] 17 rfl (by kernel_rfl) (.inl ⟨rfl, rfl⟩) rfl (a1 := ?_) ?_ ?_
      rotate_left
      ·simp only [Act.put, List.setIfInBounds_toArray, List.set_cons_succ, List.set_cons_zero]; rfl
      refine hoist [] [] (a1 := ?_) 18 rfl (by kernel_rfl) (.inl ⟨rfl, rfl⟩) rfl rfl rfl (fun x K hK => ?_) ?_
      rotate_left
      ·go_big_quiet_op
       exact hK
      refine done (by kernel_rfl) (fun xr => ?_)
      have WW := xr.bw
      have cL := key xr.now WW
      clear d1 l0 l1 l2 key cZ
      go_wp2_with fail
      refine Calls.mono cL.out ?_
      rintro e w19 ⟨rfl, hb⟩
      have cD := key2 w19 (WW.trans hb)
      have W19 := Lib.hid (WW.trans hb)
      clear cL key2 hb WW
      dsimp only
      go_wp2_with fail
      refine Calls.mono cD.out ?_
      rintro e w20 ⟨rfl, ⟨v3, v4, H20, F3, F4⟩, T20⟩
      have TS20 := Lib.hid ((TS.out.trans (W19.out.still _)).trans (T20.weaken sub_g))
      have F5 : ∀ k, v3.ownBlock = some k → (Value.slice sv M.length cv).ownBlock = some k ∨ w.heap.size ≤ k := fun k hk => .inr (Nat.le_trans (Nat.le_trans TS.out.size W19.out.size) (F3 k hk))
      have F6 : ∀ k, v4.ownBlock = some k → (Value.slice sb M.length cb).ownBlock = some k ∨ w.heap.size ≤ k := fun k hk => .inr (Nat.le_trans (Nat.le_trans TS.out.size W19.out.size) (F4 k hk))
      replace F5 := Lib.hid F5
      replace F6 := Lib.hid F6
      replace H20 := Lib.hid H20
      clear cD F3 F4 T20
      dsimp only
      go_wp2_with fail
      go_roundg (M'.eraseIdx a).length
      case measure => omega
      case rel => exact ⟨v3, v4, M'.eraseIdx a, rfl, hR5, by omega, by omega, H20, F5, F6, TS20⟩
     ·have d1 : decide (pk < (M'.length : Int)) = false := by simpa using hm1
      have d2 : decide (by_ < (lensL M' : Int)) = true := by simp; omega
      replace hm1 := Lib.hid hm1
      replace hmore := Lib.hid hmore
      go_upto_region 9 with (fail)
      refine wp_region_gg [] [] [] (by kernel_rfl) ?_
      refine hoist [] [] (a1 := ?_) 0 rfl (by kernel_rfl) (.inl ⟨rfl, rfl⟩) rfl rfl rfl (fun x K hK => ?_) ?_
      rotate_left
      ·go_big_quiet_op
       exact hK
      refine hoist [] [] (a1 := ?_) 1 rfl (by kernel_rfl) (.inl ⟨rfl, rfl⟩) rfl rfl rfl (fun x K hK => ?_) ?_
      rotate_left
      ·go_big_quiet_op
       exact hK
      refine hoist [] [] (a1 := ?_) 2 rfl (by kernel_rfl) (.inl ⟨rfl, rfl⟩) rfl rfl rfl (fun x K hK => ?_) ?_
      rotate_left
      ·go_big_quiet_op
       exact hK
      refine hoist [] [] (a1 := ?_) 3 rfl (by kernel_rfl) (.inl ⟨rfl, rfl⟩) rfl rfl rfl (fun x K hK => ?_) ?_
      rotate_left
      ·go_big_quiet_op
       exact hK
      refine hoist [] [] (a1 := ?_) 4 rfl (by kernel_rfl) (.inl ⟨rfl, rfl⟩) rfl rfl rfl (fun x K hK => ?_) ?_
      rotate_left
      ·go_big_quiet_op
       exact hK
      refine hoist [] [] (a1 := ?_) 5 rfl (by kernel_rfl) (.inl ⟨rfl, rfl⟩) rfl rfl rfl (fun x K hK => ?_) ?_
      rotate_left
      ·go_big_quiet_op
       exact hK
      refine hoist [] [] (a1 := ?_) 6 rfl (by kernel_rfl) (.inl ⟨rfl, rfl⟩) rfl rfl rfl (fun x K hK => ?_) ?_
      rotate_left
      ·go_big_quiet_op
       exact hK
      refine hoist [] [] (a1 := ?_) 7 rfl (by kernel_rfl) (.inl ⟨rfl, rfl⟩) rfl rfl rfl (fun x K hK => ?_) ?_
      rotate_left
      ·go_big_quiet_op
       exact hK
      refine hoist [] [] (a1 := ?_) 8 rfl (by kernel_rfl) (.inl ⟨rfl, rfl⟩) rfl rfl rfl (fun x K hK => ?_) ?_
      rotate_left
      ·go_big_quiet_op
       exact hK
      refine hoist [] [] (a1 := ?_) 9 rfl (by kernel_rfl) (.inl ⟨rfl, rfl⟩) rfl rfl rfl (fun x K hK => ?_) ?_
      rotate_left
      ·go_big_quiet_op
       exact hK
      refine hoist [] [] (a1 := ?_) 10 rfl (by kernel_rfl) (.inl ⟨rfl, rfl⟩) rfl rfl rfl (fun x K hK => ?_) ?_
      rotate_left
      ·go_big_quiet_op
       exact hK
      refine hoist [] [] (a1 := ?_) 11 rfl (by kernel_rfl) (.inl ⟨rfl, rfl⟩) rfl rfl rfl (fun x K hK => ?_) ?_
      rotate_left
      ·go_big_quiet_op
       exact hK
      refine hoist [] [] (a1 := ?_) 13 rfl (by kernel_rfl) (.inl ⟨rfl, rfl⟩) rfl rfl rfl (fun x K hK => ?_) ?_
      rotate_left
      ·go_big_quiet_op
       exact hK
      refine hoist [] [] (a1 := ?_) 14 rfl (by kernel_rfl) (.inl ⟨rfl, rfl⟩) rfl rfl rfl (fun x K hK => ?_) ?_
      rotate_left
      ·go_big_quiet_op
       exact hK
      refine hoist [] [] (a1 := ?_) 15 rfl (by kernel_rfl) (.inl ⟨rfl, rfl⟩) rfl rfl rfl (fun x K hK => ?_) ?_
      rotate_left
      ·go_big_quiet_op
       exact hK
      refine hoist [] [] (a1 := ?_) 16 rfl (by kernel_rfl) (.inl ⟨rfl, rfl⟩) rfl rfl rfl (fun x K hK => ?_) ?_
      rotate_left
      ·go_big_quiet_op
       exact hK
      refine effect 12 rfl (by kernel_rfl) (by kernel_rfl) rfl (fun x12 K hK => ?_)
      go_simp
      refine Calls.mono (cZ x12.now x12.bw).out ?_
      rintro e wz ⟨rfl, rfl⟩
      refine hK _ _ (Still.refl _ _) ?_
      clear hK K
      have l1 := fun y : LaterS [] x12.now => (x12.up y).cell (HR.out.bw (BW.refl _) |> fun h => hp_cell h.cells 1) (by simp)
      try simp only [List.getElem?_toArray, List.getElem?_cons_succ, List.getElem?_cons_zero] at l1
      have Wz := Lib.hid x12.bw
      try simp only [Act.put, List.setIfInBounds_toArray, List.set_cons_succ, List.set_cons_zero]
      refine hoist [] [] (a1 := ?_) 17 rfl (by kernel_rfl) (.inl ⟨rfl, rfl⟩) rfl rfl rfl (fun x K hK => ?_) ?_
      rotate_left
      ·go_big_quiet_op
       exact hK
      refine hoist [] [] (a1 := ?_) 18 rfl (by kernel_rfl) (.inl ⟨rfl, rfl⟩) rfl rfl rfl (fun x K hK => ?_) ?_
      rotate_left
      ·go_big_quiet_op
       exact hK
      refine done (by kernel_rfl) (fun xr => ?_)
      have WW := Wz.out.trans xr.bw
      clear d2
      have cL := key xr.now WW
      clear d1 l0 l1 l2 key cZ
      go_wp2_with fail
      refine Calls.mono cL.out ?_
      rintro e w19 ⟨rfl, hb⟩
      have cD := key2 w19 (WW.trans hb)
      have W19 := Lib.hid (WW.trans hb)
      clear cL key2 hb WW
      dsimp only
      go_wp2_with fail
      refine Calls.mono cD.out ?_
      rintro e w20 ⟨rfl, ⟨v3, v4, H20, F3, F4⟩, T20⟩
      have TS20 := Lib.hid ((TS.out.trans (W19.out.still _)).trans (T20.weaken sub_g))
      have F5 : ∀ k, v3.ownBlock = some k → (Value.slice sv M.length cv).ownBlock = some k ∨ w.heap.size ≤ k := fun k hk => .inr (Nat.le_trans (Nat.le_trans TS.out.size W19.out.size) (F3 k hk))
      have F6 : ∀ k, v4.ownBlock = some k → (Value.slice sb M.length cb).ownBlock = some k ∨ w.heap.size ≤ k := fun k hk => .inr (Nat.le_trans (Nat.le_trans TS.out.size W19.out.size) (F4 k hk))
      replace F5 := Lib.hid F5
      replace F6 := Lib.hid F6
      replace H20 := Lib.hid H20
      clear cD F3 F4 T20
      dsimp only
      go_wp2_with fail
      go_roundg (M'.eraseIdx a).length
      case measure => omega
      case rel => exact ⟨v3, v4, M'.eraseIdx a, rfl, hR5, by omega, by omega, H20, F5, F6, TS20⟩
    ·have d1 : decide (pk < (M'.length : Int)) = false := by simp; omega
     have d2 : decide (by_ < (lensL M' : Int)) = false := by simp; omega
     have hR5 : R = (0, M') := by
      rw [hR4.out]
      cases hf : M'.length with
      | zero => rfl
      | succ f =>
       unfold trimR
       rw [hf, if_neg (by rw [← hf]; exact hmore)]
     replace hR5 := Lib.hid hR5
     replace hR4 := Lib.hid hR4
     replace hmore := Lib.hid hmore
     go_upto_region 9 with (fail)
     refine wp_region_gg [] [] [] (by kernel_rfl) ?_
     refine hoist [] [] (a1 := ?_) 0 rfl (by kernel_rfl) (.inl ⟨rfl, rfl⟩) rfl rfl rfl (fun x K hK => ?_) ?_
     rotate_left
     ·go_big_quiet_op
      exact hK
     refine hoist [] [] (a1 := ?_) 1 rfl (by kernel_rfl) (.inl ⟨rfl, rfl⟩) rfl rfl rfl (fun x K hK => ?_) ?_
     rotate_left
     ·go_big_quiet_op
      exact hK
     refine hoist [] [] (a1 := ?_) 2 rfl (by kernel_rfl) (.inl ⟨rfl, rfl⟩) rfl rfl rfl (fun x K hK => ?_) ?_
     rotate_left
     ·go_big_quiet_op
      exact hK
     refine hoist [] [] (a1 := ?_) 3 rfl (by kernel_rfl) (.inl ⟨rfl, rfl⟩) rfl rfl rfl (fun x K hK => ?_) ?_
     rotate_left
     ·go_big_quiet_op
      exact hK
     refine hoist [] [] (a1 := ?_) 4 rfl (by kernel_rfl) (.inl ⟨rfl, rfl⟩) rfl rfl rfl (fun x K hK => ?_) ?_
     rotate_left
     ·go_big_quiet_op
      exact hK
     refine hoist [] [] (a1 := ?_) 5 rfl (by kernel_rfl) (.inl ⟨rfl, rfl⟩) rfl rfl rfl (fun x K hK => ?_) ?_
     rotate_left
     ·go_big_quiet_op
      exact hK
     refine hoist [] [] (a1 := ?_) 6 rfl (by kernel_rfl) (.inl ⟨rfl, rfl⟩) rfl rfl rfl (fun x K hK => ?_) ?_
     rotate_left
     ·go_big_quiet_op
      exact hK
     refine hoist [] [] (a1 := ?_) 7 rfl (by kernel_rfl) (.inl ⟨rfl, rfl⟩) rfl rfl rfl (fun x K hK => ?_) ?_
     rotate_left
     ·go_big_quiet_op
      exact hK
     refine hoist [] [] (a1 := ?_) 8 rfl (by kernel_rfl) (.inl ⟨rfl, rfl⟩) rfl rfl rfl (fun x K hK => ?_) ?_
     rotate_left
     ·go_big_quiet_op
      exact hK
     refine hoist [] [] (a1 := ?_) 9 rfl (by kernel_rfl) (.inl ⟨rfl, rfl⟩) rfl rfl rfl (fun x K hK => ?_) ?_
     rotate_left
     ·go_big_quiet_op
      exact hK
     refine hoist [] [] (a1 := ?_) 10 rfl (by kernel_rfl) (.inl ⟨rfl, rfl⟩) rfl rfl rfl (fun x K hK => ?_) ?_
     rotate_left
     ·go_big_quiet_op
      exact hK
     refine hoist [] [] (a1 := ?_) 11 rfl (by kernel_rfl) (.inl ⟨rfl, rfl⟩) rfl rfl rfl (fun x K hK => ?_) ?_
     rotate_left
     ·go_big_quiet_op
      exact hK
     refine hoist [] [] (a1 := ?_) 13 rfl (by kernel_rfl) (.inl ⟨rfl, rfl⟩) rfl rfl rfl (fun x K hK => ?_) ?_
     rotate_left
     ·go_big_quiet_op
      exact hK
     refine hoist [] [] (a1 := ?_) 14 rfl (by kernel_rfl) (.inl ⟨rfl, rfl⟩) rfl rfl rfl (fun x K hK => ?_) ?_
     rotate_left
     ·go_big_quiet_op
      exact hK
     refine hoist [] [] (a1 := ?_) 15 rfl (by kernel_rfl) (.inl ⟨rfl, rfl⟩) rfl rfl rfl (fun x K hK => ?_) ?_
     rotate_left
     ·go_big_quiet_op
      exact hK
     refine hoist [] [] (a1 := ?_) 16 rfl (by kernel_rfl) (.inl ⟨rfl, rfl⟩) rfl rfl rfl (fun x K hK => ?_) ?_
     rotate_left
     ·go_big_quiet_op
      exact hK
     refine effect 12 rfl (by kernel_rfl) (by kernel_rfl) rfl (fun x12 K hK => ?_)
     go_simp
     refine Calls.mono (cZ x12.now x12.bw).out ?_
     rintro e wz ⟨rfl, rfl⟩
     refine hK _ _ (Still.refl _ _) ?_
     clear hK K
     have l1 := fun y : LaterS [] x12.now => (x12.up y).cell (HR.out.bw (BW.refl _) |> fun h => hp_cell h.cells 1) (by simp)
     try simp only [List.getElem?_toArray, List.getElem?_cons_succ, List.getElem?_cons_zero] at l1
     have Wz := Lib.hid x12.bw
     try simp only [Act.put, List.setIfInBounds_toArray, List.set_cons_succ, List.set_cons_zero]
     refine hoist [] [] (a1 := ?_) 17 rfl (by kernel_rfl) (.inl ⟨rfl, rfl⟩) rfl rfl rfl (fun x K hK => ?_) ?_
     rotate_left
     ·go_big_quiet_op
      exact hK
     refine hoist [] [] (a1 := ?_) 18 rfl (by kernel_rfl) (.inl ⟨rfl, rfl⟩) rfl rfl rfl (fun x K hK => ?_) ?_
     rotate_left
     ·go_big_quiet_op
      exact hK
     refine done (by kernel_rfl) (fun xr => ?_)
     have WW := Wz.out.trans xr.bw
     go_wp2_with fail
     go_ret
     rw [hR5.out]
     exact ⟨rfl, ⟨_, _, HR.out.bw WW, F1.out, F2.out⟩, TS.out.trans (WW.still _)⟩
end Go.Proofs.Ytojedpahaifjgaa
