/- slices.insertionSortOrdered of numbers of 32 bits: sorted, and the same numbers (printed by wip/gen/genOfE.py). No condition but the sizes'. -/
import Derived.Test.YtafhnlnhflehhaaGreatDoorOfD
namespace Go.Proofs.YtafhnlnhflehhaaGreatDoor
open Go.RowKit
def SrtR (l : List Nat) (a b : Nat) : Prop := ∀ p q, a ≤ p → p < q → q < b → l.getD p 0 ≤ l.getD q 0
def InsI (l : List Nat) (a i j : Nat) : Prop := (∀ p q, a ≤ p → p < q → q ≤ i → p ≠ j → q ≠ j → l.getD p 0 ≤ l.getD q 0) ∧ (∀ q, j < q → q ≤ i → l.getD j 0 ≤ l.getD q 0)
theorem ins_start {l : List Nat} {a i : Nat} (h : SrtR l a i) : InsI l a i i := ⟨fun p q h1 h2 h3 _ h5 => h p q h1 h2 (by omega), fun q h1 h2 => by omega⟩
theorem ins_done {l : List Nat} {a i j : Nat} (h : InsI l a i j) (hj : j ≤ i) (hd : j ≤ a ∨ l.getD (j - 1) 0 ≤ l.getD j 0) : SrtR l a (i + 1) := by
 intro p q h1 h2 h3
 by_cases hp : p = j
 ·subst hp; exact h.2 q h2 (by omega)
 by_cases hq : q = j
 ·subst hq
  rcases hd with hd | hd
  ·omega
  ·by_cases e : p = q - 1
   ·rw [e]; exact hd
   ·exact Nat.le_trans (h.1 p (q - 1) h1 (by omega) (by omega) hp (by omega)) hd
 ·exact h.1 p q h1 h2 (by omega) hp hq
theorem ins_step {l : List Nat} {a i j : Nat} (h : InsI l a i (j + 1)) (hj : j + 1 ≤ i) (ha : a ≤ j) (hi : i < l.length) (hd : l.getD (j + 1) 0 < l.getD j 0) : InsI (swp l (j + 1) j) a i j := by
 have e := fun k hk => swp_get l (j + 1) j k (by omega) (by omega) hk
 constructor
 ·intro p q h1 h2 h3 h4 h5
  rw [e p (by omega), e q (by omega), if_neg h4, if_neg h5]
  by_cases hp : p = j + 1
  ·rw [if_pos hp]
   by_cases hq : q = j + 1
   ·omega
   ·rw [if_neg hq]
    exact h.1 j q ha (by omega) h3 (by omega) hq
  ·rw [if_neg hp]
   by_cases hq : q = j + 1
   ·rw [if_pos hq]
    exact h.1 p j h1 (by omega) (by omega) hp (by omega)
   ·rw [if_neg hq]
    exact h.1 p q h1 h2 h3 hp hq
 ·intro q h1 h2
  rw [e j (by omega), e q (by omega), if_pos rfl, if_neg (by omega)]
  by_cases hq : q = j + 1
  ·rw [if_pos hq]; omega
  ·rw [if_neg hq]
   exact h.2 q (by omega) h2
def IsR (w : World) (base g o n cap a b : Nat) (l : List Nat) : Prop := ∃ l', EQ EU4 38 w base (.slice (some ⟨g, o, none⟩) n cap) n l' ∧ l'.Perm l ∧ SrtR l' a b
set_option maxRecDepth 100000 in
set_option maxHeartbeats 8000000 in
theorem isort_any (base g o n cap a b : Nat) (l : List Nat) (hab : a ≤ b) (hbn : b ≤ n) (hn : n ≤ 1000000) (w : World) (h : EQ EU4 38 w base (.slice (some ⟨g, o, none⟩) n cap) n l) :
  Calls Tryz.prog 79 #[.slice (some ⟨g, o, none⟩) n cap, .int .i64 (a : Nat), .int .i64 (b : Nat)] w fun e w' => e = .returned (.tuple #[]) ∧ IsR w' base g o n cap a b l ∧ Still [g] w w' := by
 have hl0 := h.1
 obtain ⟨_, _, he, hcn, hcm⟩ := h.len
 cases he
 unfold maxLen at hcm
 have Q0 := Lib.hid h
 clear h
 go_enter Tryz.func79, Tryz.ntmps79
 go_upto_region 1 with (fail)
 go_loopg [6] (b - (a + 1)) (fun m' i wx => ∃ (k : Nat) (lc : List Nat), m' = b - k ∧ a + 1 ≤ k ∧ (k ≤ b ∨ k = a + 1) ∧ i = .int .i64 (k : Nat) ∧ lc.length = n ∧ Hid (EQ EU4 38 wx base (.slice (some ⟨g, o, none⟩) n cap) n lc) ∧ Hid (lc.Perm l) ∧ Hid (SrtR lc a k) ∧ Hid (Still [g] w wx))
 case atStart => exact ⟨a + 1, l, by omega, by omega, by omega, by push_cast; rfl, hl0, Q0, Lib.hid (List.Perm.refl _), Lib.hid (fun p q h1 h2 h3 => by omega), Still.refl _ _⟩
 case round =>
  clear Q0
  obtain ⟨k, lc, rfl, hk1, hk2, rfl, hlc, Q, hP, hS, T⟩ := hrel
  by_cases hkb : k < b
  ·have d : decide ((k : Int) < (b : Int)) = true := by simp; omega
   go_upto_region 4 with (fail)
   rename World => wo
   go_loopg [7] k (fun m' i wx => ∃ (j : Nat) (ld : List Nat), j = m' ∧ a ≤ j ∧ j ≤ k ∧ i = .int .i64 (j : Nat) ∧ ld.length = n ∧ Hid (EQ EU4 38 wx base (.slice (some ⟨g, o, none⟩) n cap) n ld) ∧ Hid (ld.Perm l) ∧ Hid (InsI ld a k j) ∧ Hid (Still [g] w wx))
   case atStart => exact ⟨k, lc, rfl, by omega, by omega, rfl, hlc, Q, hP, Lib.hid (ins_start hS.out), T⟩
   case round =>
    clear Q hP hS T
    obtain ⟨j, ld, rfl, hj1, hj2, rfl, hld, Q, hP, hI, T⟩ := hrel
    by_cases hja : a < j
    ·have d2 : decide ((a : Int) < (j : Int)) = true := by simp; omega
     obtain ⟨j1, hj⟩ : ∃ j1, j = j1 + 1 := ⟨j - 1, by omega⟩
     have ej : (j : Int) - 1 = (j1 : Int) := by omega
     have hjn : j < n := by omega
     have hj1n : j1 < n := by omega
     have hja1 : a ≤ j1 := by omega
     have ci := u4_cell Q.out j hjn
     have cj := u4_cell Q.out j1 hj1n
     obtain ⟨vi, hvi⟩ : ∃ v, ld.getD j 0 = v := ⟨_, rfl⟩
     obtain ⟨vj, hvj⟩ : ∃ v, ld.getD j1 0 = v := ⟨_, rfl⟩
     rw [hvi] at ci
     rw [hvj] at cj
     replace ci := Lib.hid ci
     replace cj := Lib.hid cj
     have mi : ∀ y : LaterS [] wr, _ := fun y => y.bw.cell ci.out
     have mj : ∀ y : LaterS [] wr, _ := fun y => y.bw.cell cj.out
     replace hvi := Lib.hid hvi
     replace hvj := Lib.hid hvj
     replace hj := Lib.hid hj
     go_upto_region 4 with (fail)
     refine wp_region_gg [] [] [] (by kernel_rfl) ?_
     refine hoist [] [] (a1 := ?_) 0 rfl (by kernel_rfl) (.inl ⟨rfl, rfl⟩) rfl rfl rfl (fun x K hK => ?_) ?_
     rotate_left
     ·go_big_quiet_op
      exact hK
     refine hoist [] [] (a1 := ?_) 1 rfl (by kernel_rfl) (.inl ⟨rfl, rfl⟩) rfl rfl rfl (fun x K hK => ?_) ?_
     rotate_left
     ·go_big_quiet_op
      exact hK
     refine hoist [] [] (a1 := ?_) 2 rfl (by kernel_rfl) (.inl ⟨rfl, rfl⟩) rfl rfl rfl (fun x K hK => ?_) ?_
     rotate_left
     ·go_big_quiet_op
      exact hK
     refine hoist [] [] (a1 := ?_) 3 rfl (by kernel_rfl) (.inl ⟨rfl, rfl⟩) rfl rfl rfl (fun x K hK => ?_) ?_
     rotate_left
     ·go_big_quiet_op
      exact hK
     refine hoist [] [] (a1 := ?_) 4 rfl (by kernel_rfl) (.inl ⟨rfl, rfl⟩) rfl rfl rfl (fun x K hK => ?_) ?_
     rotate_left
     ·go_big_quiet_op
      exact hK
     refine hoist [] [] (a1 := ?_) 5 rfl (by kernel_rfl) (.inl ⟨rfl, rfl⟩) rfl rfl rfl (fun x K hK => ?_) ?_
     rotate_left
     ·go_big_quiet_op
      exact hK
     refine hoist [] [] (a1 := ?_) 6 rfl (by kernel_rfl) (.inl ⟨rfl, rfl⟩) rfl rfl rfl (fun x K hK => ?_) ?_
     rotate_left
     ·go_big_quiet_op
      exact hK
     refine hoist [] [] (a1 := ?_) 7 rfl (by kernel_rfl) (.inl ⟨rfl, rfl⟩) rfl rfl rfl (fun x K hK => ?_) ?_
     rotate_left
     ·go_big_quiet_op
      exact hK
     refine hoist [] [] (a1 := ?_) 8 rfl (by kernel_rfl) (.inl ⟨rfl, rfl⟩) rfl rfl rfl (fun x K hK => ?_) ?_
     rotate_left
     ·go_big_quiet_op
      exact hK
     refine hoist [] [] (a1 := ?_) 9 rfl (by kernel_rfl) (.inl ⟨rfl, rfl⟩) rfl rfl rfl (fun x K hK => ?_) ?_
     rotate_left
     ·go_big_quiet_op
      exact hK
     refine hoist [] [] (a1 := ?_) 10 rfl (by kernel_rfl) (.inl ⟨rfl, rfl⟩) rfl rfl rfl (fun x K hK => ?_) ?_
     rotate_left
     ·go_big_quiet_op
      exact hK
     refine hoist [] [] (a1 := ?_) 11 rfl (by kernel_rfl) (.inl ⟨rfl, rfl⟩) rfl rfl rfl (fun x K hK => ?_) ?_
     rotate_left
     ·go_big_quiet_op
      exact hK
     refine hoist [] [] (a1 := ?_) 12 rfl (by kernel_rfl) (.inl ⟨rfl, rfl⟩) rfl rfl rfl (fun x K hK => ?_) ?_
     rotate_left
     ·go_big_quiet_op
      exact hK
     refine effect 13 rfl (by kernel_rfl) (by kernel_rfl) rfl (fun x13 K hK => ?_)
     go_simp
     refine Calls.mono (less_any vi vj x13.now) ?_
     rintro e w2 ⟨rfl, hb⟩
     refine hK _ _ (hb.still _) ?_
     clear hK K mi mj
     have b2 := Lib.hid (x13.bw.trans hb)
     clear hb
     try simp only [Act.put, List.setIfInBounds_toArray, List.set_cons_succ, List.set_cons_zero]
     refine hoist [] [] (a1 := ?_) 14 rfl (by kernel_rfl) (.inl ⟨rfl, rfl⟩) rfl rfl rfl (fun x K hK => ?_) ?_
     rotate_left
     ·go_big_quiet_op
      exact hK
     refine done (by kernel_rfl) (fun xr => ?_)
     have hb := b2.out.trans xr.bw
     replace Q := Lib.hid (Q.out.bw hb)
     replace T := Lib.hid (T.out.trans (hb.still [g]))
     have ci := hb.cell ci.out
     have cj := hb.cell cj.out
     clear hb b2
     generalize xr.now = w3 at *
     clear xr
     by_cases hlt : vi < vj
     ·have d3 : decide (vi < vj) = true := decide_eq_true hlt
      go_upto_region 6 with (fail)
      have mi : ∀ y : LaterS [] w3, _ := fun y => y.bw.cell ci
      have mj : ∀ y : LaterS [] w3, _ := fun y => y.bw.cell cj
      clear ci cj
      refine wp_region_gg ([g]) [15] [16] (by kernel_rfl) ?_
      refine hoist [] [15] (a1 := ?_) 0 rfl (by kernel_rfl) (.inl ⟨rfl, rfl⟩) rfl rfl rfl (fun x K hK => ?_) ?_
      rotate_left
      ·go_big_quiet_op
       exact hK
      refine hoist [] [15] (a1 := ?_) 1 rfl (by kernel_rfl) (.inl ⟨rfl, rfl⟩) rfl rfl rfl (fun x K hK => ?_) ?_
      rotate_left
      ·go_big_quiet_op
       exact hK
      refine hoist ([g]) [] (a1 := ?_) 2 rfl (by kernel_rfl) (.inr rfl) rfl rfl rfl (fun x K hK => ?_) ?_
      rotate_left
      ·go_big_quiet_op
       exact hK
      refine hoist ([g]) [] (a1 := ?_) 3 rfl (by kernel_rfl) (.inr rfl) rfl rfl rfl (fun x K hK => ?_) ?_
      rotate_left
      ·go_big_quiet_op
       exact hK
      refine hoist ([g]) [] (a1 := ?_) 4 rfl (by kernel_rfl) (.inr rfl) rfl rfl rfl (fun x K hK => ?_) ?_
      rotate_left
      ·go_big_quiet_op
       exact hK
      refine hoist [] [15] (a1 := ?_) 5 rfl (by kernel_rfl) (.inl ⟨rfl, rfl⟩) rfl rfl rfl (fun x K hK => ?_) ?_
      rotate_left
      ·go_big_quiet_op
       exact hK
      refine hoist [] [15] (a1 := ?_) 6 rfl (by kernel_rfl) (.inl ⟨rfl, rfl⟩) rfl rfl rfl (fun x K hK => ?_) ?_
      rotate_left
      ·go_big_quiet_op
       exact hK
      refine hoist [] [15] (a1 := ?_) 7 rfl (by kernel_rfl) (.inl ⟨rfl, rfl⟩) rfl rfl rfl (fun x K hK => ?_) ?_
      rotate_left
      ·go_big_quiet_op
       exact hK
      refine hoist [] [15] (a1 := ?_) 8 rfl (by kernel_rfl) (.inl ⟨rfl, rfl⟩) rfl rfl rfl (fun x K hK => ?_) ?_
      rotate_left
      ·go_big_quiet_op
       exact hK
      refine hoist [] [15] (a1 := ?_) 9 rfl (by kernel_rfl) (.inl ⟨rfl, rfl⟩) rfl rfl rfl (fun x K hK => ?_) ?_
      rotate_left
      ·go_big_quiet_op
       exact hK
      refine hoist [] [15] (a1 := ?_) 10 rfl (by kernel_rfl) (.inl ⟨rfl, rfl⟩) rfl rfl rfl (fun x K hK => ?_) ?_
      rotate_left
      ·go_big_quiet_op
       exact hK
      refine hoist [] [15] (a1 := ?_) 11 rfl (by kernel_rfl) (.inl ⟨rfl, rfl⟩) rfl rfl rfl (fun x K hK => ?_) ?_
      rotate_left
      ·go_big_quiet_op
       exact hK
      refine hoist [] [15] (a1 := ?_) 12 rfl (by kernel_rfl) (.inl ⟨rfl, rfl⟩) rfl rfl rfl (fun x K hK => ?_) ?_
      rotate_left
      ·go_big_quiet_op
       exact hK
      refine hoist [] [15] (a1 := ?_) 13 rfl (by kernel_rfl) (.inl ⟨rfl, rfl⟩) rfl rfl rfl (fun x K hK => ?_) ?_
      rotate_left
      ·go_big_quiet_op
       exact hK
      refine hoist [] [15] (a1 := ?_) 14 rfl (by kernel_rfl) (.inl ⟨rfl, rfl⟩) rfl rfl rfl (fun x K hK => ?_) ?_
      rotate_left
      ·go_big_quiet_op
       exact hK
      refine effect 15 rfl (by kernel_rfl) (by kernel_rfl) rfl (fun x15 K hK => ?_)
      have Qx := Lib.hid (Q.out.bw x15.bw)
      have zi := u4_cell Qx.out (j) (by omega)
      have fi := Qx.out.frz (by omega) (o + (j))
      replace T := Lib.hid (T.out.trans ((x15.bw.still [g]).trans (still_sc x15.now g (o + (j)) (.int .u32 (vj : Nat)))))
      have Q1 := Lib.hid (u4_set Qx.out (j) (by omega) vj)
      go_simp
      refine hK _ _ (still_sc x15.now g (o + (j)) (.int .u32 (vj : Nat))) ?_
      clear hK K mi mj zi fi Qx Q
      generalize x15.now.setCell _ _ = w15 at *
      try simp only [Act.put, List.setIfInBounds_toArray, List.set_cons_succ, List.set_cons_zero]
      refine tail 16 rfl (by kernel_rfl) rfl (fun xr => ?_)
      simp only [List.drop_succ_cons, List.drop_zero]
      have Q := Lib.hid (Q1.out.bw xr.bw)
      clear Q1
      replace T := Lib.hid (T.out.trans (xr.bw.still [g]))
      generalize xr.now = wq at *
      clear xr
      have zj := u4_cell Q.out (j1) (by omega)
      have fj := Q.out.frz (by omega) (o + (j1))
      replace T := Lib.hid (T.out.trans (still_sc wq g (o + (j1)) (.int .u32 (vi : Nat))))
      have Q2 := Lib.hid (u4_set Q.out (j1) (by omega) vi)
      go_upto_region 5 with (fail)
      clear zj fj Q
      generalize wq.setCell _ _ = w4 at *
      have Q := Q2
      clear Q2
      have hsw : (ld.set j vj).set j1 vi = swp ld j j1 := by rw [← hvi.out, ← hvj.out]; rfl
      rw [hsw] at Q
      have hP2 := Lib.hid ((swp_perm ld j j1 (by omega) (by omega)).trans hP.out)
      have hI2 : Hid (InsI (swp ld j j1) a k j1) := Lib.hid (by
       have e := hj.out
       subst e
       exact ins_step hI.out hj2 hja1 (by omega) (by rw [hvi.out, hvj.out]; exact hlt))
      have hl2 : (swp ld j j1).length = n := by rw [swp_len]; exact hld
      have hjj : j1 < j := by have := hj.out; omega
      clear hsw hP hI hvi hvj d3 hlt
      go_wp2_with fail
      go_roundg j1
      case measure => omega
      case rel => exact ⟨j1, swp ld j j1, rfl, by omega, by omega, by first | rfl | (congr 1; omega), hl2, Q, hP2, hI2, T⟩
     ·have d3 : decide (vi < vj) = false := decide_eq_false hlt
      have hS2 : Hid (SrtR ld a (k + 1)) := Lib.hid (ins_done hI.out (by omega) (.inr (by
       have e : j - 1 = j1 := by have := hj.out; omega
       rw [e, hvi.out, hvj.out]
       omega)))
      clear ci cj hI hvi hvj
      go_wp2_with fail
      go_roundg (b - (k + 1))
      case measure => omega
      case rel => exact ⟨k + 1, ld, rfl, by omega, by omega, by first | rfl | (push_cast; rfl), hld, Q, hP, hS2, T⟩
    ·have d2 : decide ((a : Int) < (j : Int)) = false := by simp; omega
     have hS2 : Hid (SrtR ld a (k + 1)) := Lib.hid (ins_done hI.out (by omega) (.inl (by omega)))
     go_upto_region 4 with (fail)
     refine wp_region_gg [] [] [] (by kernel_rfl) ?_
     refine hoist [] [] (a1 := ?_) 0 rfl (by kernel_rfl) (.inl ⟨rfl, rfl⟩) rfl rfl rfl (fun x K hK => ?_) ?_
     rotate_left
     ·go_big_quiet_op
      exact hK
     refine hoist [] [] (a1 := ?_) 1 rfl (by kernel_rfl) (.inl ⟨rfl, rfl⟩) rfl rfl rfl (fun x K hK => ?_) ?_
     rotate_left
     ·go_big_quiet_op
      exact hK
     refine hoist [] [] (a1 := ?_) 2 rfl (by kernel_rfl) (.inl ⟨rfl, rfl⟩) rfl rfl rfl (fun x K hK => ?_) ?_
     rotate_left
     ·go_big_quiet_op
      exact hK
     refine hoist [] [] (a1 := ?_) 3 rfl (by kernel_rfl) (.inl ⟨rfl, rfl⟩) rfl rfl rfl (fun x K hK => ?_) ?_
     rotate_left
     ·go_big_quiet_op
      exact hK
     refine hoist_skip [] [] 4 rfl (by kernel_rfl) (.inl ⟨rfl, rfl⟩) rfl (a1 := ?_) ?_ ?_
     rotate_left
     ·simp only [Act.put, List.setIfInBounds_toArray, List.set_cons_succ, List.set_cons_zero]; rfl
     refine hoist_skip [] [] 5 rfl (by kernel_rfl) (.inl ⟨rfl, rfl⟩) rfl (a1 := ?_) ?_ ?_
     rotate_left
     ·simp only [Act.put, List.setIfInBounds_toArray, List.set_cons_succ, List.set_cons_zero]; rfl
     refine hoist_skip [] [] 6 rfl (by kernel_rfl) (.inl ⟨rfl, rfl⟩) rfl (a1 := ?_) ?_ ?_
     rotate_left
     ·simp only [Act.put, List.setIfInBounds_toArray, List.set_cons_succ, List.set_cons_zero]; rfl
     refine hoist_skip [] [] 7 rfl (by kernel_rfl) (.inl ⟨rfl, rfl⟩) rfl (a1 := ?_) ?_ ?_
     rotate_left
     ·simp only [Act.put, List.setIfInBounds_toArray, List.set_cons_succ, List.set_cons_zero]; rfl
     refine hoist_skip [] [] 8 rfl (by kernel_rfl) (.inl ⟨rfl, rfl⟩) rfl (a1 := ?_) ?_ ?_
     rotate_left
     ·simp only [Act.put, List.setIfInBounds_toArray, List.set_cons_succ, List.set_cons_zero]; rfl
     refine hoist_skip [] [] 9 rfl (by kernel_rfl) (.inl ⟨rfl, rfl⟩) rfl (a1 := ?_) ?_ ?_
     rotate_left
     ·simp only [Act.put, List.setIfInBounds_toArray, List.set_cons_succ, List.set_cons_zero]; rfl
     refine hoist_skip [] [] 10 rfl (by kernel_rfl) (.inl ⟨rfl, rfl⟩) rfl (a1 := ?_) ?_ ?_
     rotate_left
     ·simp only [Act.put, List.setIfInBounds_toArray, List.set_cons_succ, List.set_cons_zero]; rfl
     refine hoist_skip [] [] 11 rfl (by kernel_rfl) (.inl ⟨rfl, rfl⟩) rfl (a1 := ?_) ?_ ?_
     rotate_left
     ·simp only [Act.put, List.setIfInBounds_toArray, List.set_cons_succ, List.set_cons_zero]; rfl
     refine hoist_skip [] [] 12 rfl (by kernel_rfl) (.inl ⟨rfl, rfl⟩) rfl (a1 := ?_) ?_ ?_
     rotate_left
     ·simp only [Act.put, List.setIfInBounds_toArray, List.set_cons_succ, List.set_cons_zero]; rfl
     refine hoist_skip [] [] 13 rfl (by kernel_rfl) (.inl ⟨rfl, rfl⟩) rfl (a1 := ?_) ?_ ?_
     rotate_left
     ·simp only [Act.put, List.setIfInBounds_toArray, List.set_cons_succ, List.set_cons_zero]; rfl
     refine hoist [] [] (a1 := ?_) 14 rfl (by kernel_rfl) (.inl ⟨rfl, rfl⟩) rfl rfl rfl (fun x K hK => ?_) ?_
     rotate_left
     ·go_big_quiet_op
      exact hK
     refine done (by kernel_rfl) (fun xr => ?_)
     have hb := xr.bw
     replace Q := Lib.hid (Q.out.bw hb)
     replace T := Lib.hid (T.out.trans (hb.still [g]))
     clear hb hI
     generalize xr.now = w3 at *
     clear xr
     go_wp2_with fail
     go_roundg (b - (k + 1))
     case measure => omega
     case rel => exact ⟨k + 1, ld, rfl, by omega, by omega, by first | rfl | (push_cast; rfl), hld, Q, hP, hS2, T⟩
  ·have d : decide ((k : Int) < (b : Int)) = false := by simp; omega
   have hS2 : Hid (SrtR lc a b) := Lib.hid (fun p q h1 h2 h3 => hS.out p q h1 h2 (by omega))
   go_wp2_with fail
   go_end0
   exact ⟨rfl, ⟨lc, Q.out, hP.out, hS2.out⟩, T.out⟩
end Go.Proofs.YtafhnlnhflehhaaGreatDoor
