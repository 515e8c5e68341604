/- slices: breakPatterns of numbers of 32 bits: the row stays a row (printed by wip/gen/genOfK.py). No condition but the sizes'. -/
import Derived.Test.YtafhnlnhflehhaaGreatDoorOfJ
namespace Go.Proofs.YtafhnlnhflehhaaGreatDoor
open Go.RowKit
set_option maxRecDepth 100000 in
set_option maxHeartbeats 8000000 in
theorem brk_any (base g o n cap a b : Nat) (hab : a + 8 ≤ b) (hbn : b ≤ n) (hn : n ≤ 1000000) (w : World) (h : SR w base g o n cap) :
  Calls Tryz.prog 81 #[.slice (some ⟨g, o, none⟩) n cap, .int .i64 (a : Nat), .int .i64 (b : Nat)] w fun e w' => e = .returned (.tuple #[]) ∧ SR w' base g o n cap ∧ Still [g] w w' := by
 have hcm : cap ≤ 9223372036854775807 ∧ n ≤ cap := by
  obtain ⟨l, q⟩ := h
  obtain ⟨_, _, he, hcn, hcm⟩ := q.len
  cases he
  exact ⟨hcm, hcn⟩
 obtain ⟨hcm, hcn⟩ := hcm
 have Q := Lib.hid h
 have T := Lib.hid (Still.refl [g] w)
 clear h
 go_enter Tryz.func81, Tryz.ntmps81
 obtain ⟨l, hl⟩ : ∃ l, b - a = l := ⟨_, rfl⟩
 have el : (b : Int) - (a : Int) = (l : Int) := by omega
 obtain ⟨l4, hl4⟩ : ∃ z, l / 4 = z := ⟨_, rfl⟩
 have e4 : (l : Int).tdiv 4 = (l4 : Int) := by rw [← hl4]; rfl
 obtain ⟨x, hx⟩ : ∃ x, a + l4 * 2 = x := ⟨_, rfl⟩
 have ex : (a : Int) + (l4 : Int) * 2 = (x : Int) := by omega
 obtain ⟨i0, hi0⟩ : ∃ z, x = z + 1 := ⟨x - 1, by omega⟩
 have ei0 : (x : Int) - 1 = (i0 : Int) := by omega
 obtain ⟨x1, hx1⟩ : ∃ z, x + 1 = z := ⟨_, rfl⟩
 have ex1 : (x : Int) + 1 = (x1 : Int) := by omega
 have hb1 : x1 < b ∧ i0 ≤ x1 := by omega
 replace hx := Lib.hid hx
 replace hi0 := Lib.hid hi0
 replace hx1 := Lib.hid hx1
 replace hl4 := Lib.hid hl4
 have d8 : decide ((8 : Int) ≤ (l : Int)) = true := by simp; omega
 have hgw : g < w.heap.size := by
  obtain ⟨_, q⟩ := Q.out
  exact q.lt' g rfl
 go_upto_region 3 with (fail)
 have BA := Lib.hid ((BW.refl w).alloc (o := .cells #[.int .u64 (l : Nat)] 129))
 replace Q := Lib.hid (Q.out.bw BA.out)
 replace T := Lib.hid (T.out.trans (BA.out.still [g]))
 have P : Hid (XB (w.alloc (.cells #[.int .u64 (l : Nat)] 129)) w.heap.size l) := Lib.hid (HpB.new w _)
 have hgr : g ≠ w.heap.size := by omega
 obtain ⟨r, hr⟩ : ∃ r, w.heap.size = r := ⟨_, rfl⟩
 rw [hr] at P hgr ⊢
 clear BA hgw
 generalize w.alloc _ = w1 at *
 go_wp2_with fail
 refine Calls.mono (npow_any l (by omega) (by omega) _) ?_
 rintro e w2 ⟨m, hm1, hm2, rfl, rfl⟩
 dsimp only
 obtain ⟨m1, hm⟩ : ∃ z, m = z + 1 := ⟨m - 1, by omega⟩
 have em : (m : Int) - 1 = (m1 : Int) := by omega
 have hm1l : m1 < 2 * l := by omega
 replace hm := Lib.hid hm
 go_upto_region 5 with (fail)
 have hll : l < 18446744073709551616 := by omega
 clear e4 ex ei0 d8
 go_loopg [9] (x1 + 1 - i0) (fun m' v wx => ∃ (i X : Nat), m' = x1 + 1 - i ∧ i0 ≤ i ∧ i ≤ x1 + 1 ∧ X < 18446744073709551616 ∧ v = .int .i64 (i : Nat) ∧ Hid (SR wx base g o n cap) ∧ Hid (XB wx r X) ∧ Hid (Still [g] w wx))
 case atStart => exact ⟨i0, l, rfl, by omega, by omega, hll, rfl, Q, P, T⟩
 case round =>
  clear Q T P
  have e4 : (l : Int).tdiv 4 = (l4 : Int) := by rw [← hl4.out]; rfl
  have ex : (a : Int) + (l4 : Int) * 2 = (x : Int) := by have := hx.out; omega
  obtain ⟨i, X, rfl, hi1, hi2, hX, rfl, Q, P, T⟩ := hrel
  by_cases hix : i ≤ x1
  ·have d : decide ((i : Int) ≤ (x1 : Int)) = true := by simp; omega
   go_wp2_with fail
   refine Calls.mono (xor_any r X hX _ P.out) ?_
   rintro e w3 ⟨Y, hY, hp, rfl, ht⟩
   replace Q := Lib.hid (Q.out.st ht (by simp; exact hgr))
   replace T := Lib.hid (T.out.own3 ht (by intro k hk; right; simp at hk; omega))
   replace P := Lib.hid hp
   clear hp ht
   dsimp only
   obtain ⟨O, hO⟩ : ∃ O : Nat, O = Y &&& m1 := ⟨_, rfl⟩
   have lO : O ≤ m1 := by rw [hO]; exact Nat.and_le_right
   have eA : bits .and .u64 (Y : Int) (m1 : Int) = (O : Int) := by rw [bits_and_u64_nat _ _ hY (by omega), hO]
   clear hO
   by_cases hlo : l ≤ O
   ·have d8 : decide ((l : Int) ≤ (O : Int)) = true := by simp; omega
    obtain ⟨O1, hO1⟩ : ∃ z, O = z + l := ⟨O - l, by omega⟩
    have eO : (O : Int) - (l : Int) = (O1 : Int) := by omega
    have lO1 : O1 < l := by omega
    replace hO1 := Lib.hid hO1
    obtain ⟨ao, hao⟩ : ∃ z, a + O1 = z := ⟨_, rfl⟩
    have eao : (a : Int) + (O1 : Int) = (ao : Int) := by omega
    have haon : ao < n := by omega
    have hin : i < n := by omega
    have T0 := T
    clear T
    have T := Lib.hid (Still.refl [g] w3)
    go_upto_region 10 with (fail)
    obtain ⟨vi, ci⟩ := Q.out.cell (i) (by omega)
    obtain ⟨vj, cj⟩ := Q.out.cell (ao) (by omega)
    have mi : ∀ y : LaterS [] w3, _ := fun y => y.bw.cell ci
    have mj : ∀ y : LaterS [] w3, _ := fun y => y.bw.cell cj
    clear ci cj
    refine wp_region_gg ([g]) [17] [18] (by kernel_rfl) ?_
    refine hoist [] [17] (a1 := ?_) 0 rfl (by kernel_rfl) (.inl ⟨rfl, rfl⟩) rfl rfl rfl (fun x K hK => ?_) ?_
    rotate_left
    ·go_big_quiet_op
     exact hK
    refine hoist [] [17] (a1 := ?_) 1 rfl (by kernel_rfl) (.inl ⟨rfl, rfl⟩) rfl rfl rfl (fun x K hK => ?_) ?_
    rotate_left
    ·go_big_quiet_op
     exact hK
    refine hoist ([g]) [] (a1 := ?_) 2 rfl (by kernel_rfl) (.inr rfl) rfl rfl rfl (fun x K hK => ?_) ?_
    rotate_left
    ·go_big_quiet_op
     exact hK
    refine hoist ([g]) [] (a1 := ?_) 3 rfl (by kernel_rfl) (.inr rfl) rfl rfl rfl (fun x K hK => ?_) ?_
    rotate_left
    ·go_big_quiet_op
     exact hK
    refine hoist ([g]) [] (a1 := ?_) 4 rfl (by kernel_rfl) (.inr rfl) rfl rfl rfl (fun x K hK => ?_) ?_
    rotate_left
    ·go_big_quiet_op
     exact hK
    refine hoist ([g]) [] (a1 := ?_) 5 rfl (by kernel_rfl) (.inr rfl) rfl rfl rfl (fun x K hK => ?_) ?_
    rotate_left
    ·go_big_quiet_op
     exact hK
    refine hoist [] [17] (a1 := ?_) 6 rfl (by kernel_rfl) (.inl ⟨rfl, rfl⟩) rfl rfl rfl (fun x K hK => ?_) ?_
    rotate_left
    ·go_big_quiet_op
     exact hK
    refine hoist [] [17] (a1 := ?_) 7 rfl (by kernel_rfl) (.inl ⟨rfl, rfl⟩) rfl rfl rfl (fun x K hK => ?_) ?_
    rotate_left
    ·go_big_quiet_op
     exact hK
    refine hoist [] [17] (a1 := ?_) 8 rfl (by kernel_rfl) (.inl ⟨rfl, rfl⟩) rfl rfl rfl (fun x K hK => ?_) ?_
    rotate_left
    ·go_big_quiet_op
     exact hK
    refine hoist [] [17] (a1 := ?_) 9 rfl (by kernel_rfl) (.inl ⟨rfl, rfl⟩) rfl rfl rfl (fun x K hK => ?_) ?_
    rotate_left
    ·go_big_quiet_op
     exact hK
    refine hoist [] [17] (a1 := ?_) 10 rfl (by kernel_rfl) (.inl ⟨rfl, rfl⟩) rfl rfl rfl (fun x K hK => ?_) ?_
    rotate_left
    ·go_big_quiet_op
     exact hK
    refine hoist [] [17] (a1 := ?_) 11 rfl (by kernel_rfl) (.inl ⟨rfl, rfl⟩) rfl rfl rfl (fun x K hK => ?_) ?_
    rotate_left
    ·go_big_quiet_op
     exact hK
    refine hoist [] [17] (a1 := ?_) 12 rfl (by kernel_rfl) (.inl ⟨rfl, rfl⟩) rfl rfl rfl (fun x K hK => ?_) ?_
    rotate_left
    ·go_big_quiet_op
     exact hK
    refine hoist [] [17] (a1 := ?_) 13 rfl (by kernel_rfl) (.inl ⟨rfl, rfl⟩) rfl rfl rfl (fun x K hK => ?_) ?_
    rotate_left
    ·go_big_quiet_op
     exact hK
    refine hoist [] [17] (a1 := ?_) 14 rfl (by kernel_rfl) (.inl ⟨rfl, rfl⟩) rfl rfl rfl (fun x K hK => ?_) ?_
    rotate_left
    ·go_big_quiet_op
     exact hK
    refine hoist [] [17] (a1 := ?_) 15 rfl (by kernel_rfl) (.inl ⟨rfl, rfl⟩) rfl rfl rfl (fun x K hK => ?_) ?_
    rotate_left
    ·go_big_quiet_op
     exact hK
    refine hoist [] [17] (a1 := ?_) 16 rfl (by kernel_rfl) (.inl ⟨rfl, rfl⟩) rfl rfl rfl (fun x K hK => ?_) ?_
    rotate_left
    ·go_big_quiet_op
     exact hK
    refine effect 17 rfl (by kernel_rfl) (by kernel_rfl) rfl (fun x17 K hK => ?_)
    have Qx := Lib.hid (Q.out.bw x17.bw)
    obtain ⟨zz, zi⟩ := Qx.out.cell (i) (by omega)
    have fi := Qx.out.frz (by omega) (o + (i))
    replace T := Lib.hid (T.out.trans ((x17.bw.still [g]).trans (still_sc x17.now g (o + (i)) (.int .u32 (vj : Nat)))))
    have Q1 := Lib.hid (Qx.out.set (i) (by omega) vj)
    go_simp
    refine hK _ _ (still_sc x17.now g (o + (i)) (.int .u32 (vj : Nat))) ?_
    clear hK K mi mj zi fi Qx Q
    generalize x17.now.setCell _ _ = wy at *
    try simp only [Act.put, List.setIfInBounds_toArray, List.set_cons_succ, List.set_cons_zero]
    refine tail 18 rfl (by kernel_rfl) rfl (fun xr => ?_)
    simp only [List.drop_succ_cons, List.drop_zero]
    have Q := Lib.hid (Q1.out.bw xr.bw)
    clear Q1
    replace T := Lib.hid (T.out.trans (xr.bw.still [g]))
    generalize xr.now = wq at *
    clear xr
    obtain ⟨zz2, zj⟩ := Q.out.cell (ao) (by omega)
    have fj := Q.out.frz (by omega) (o + (ao))
    replace T := Lib.hid (T.out.trans (still_sc wq g (o + (ao)) (.int .u32 (vi : Nat))))
    have Q2 := Lib.hid (Q.out.set (ao) (by omega) vi)
    go_upto_region 6 with (fail)
    clear zj fj Q
    generalize wq.setCell _ _ = w7 at *
    have Q := Q2
    clear Q2
    replace P := Lib.hid (P.out.st T.out (by simp; exact Ne.symm hgr))
    replace T := Lib.hid (T0.out.trans T.out)
    clear T0
    go_wp2_with fail
    go_roundg (x1 + 1 - (i + 1))
    case measure => omega
    case rel => exact ⟨i + 1, Y, rfl, by omega, by omega, hY, by first | rfl | (push_cast; rfl), Q, P, T⟩
   ·have d8 : decide ((l : Int) ≤ (O : Int)) = false := by simp; omega
    obtain ⟨ao, hao⟩ : ∃ z, a + O = z := ⟨_, rfl⟩
    have eao : (a : Int) + (O : Int) = (ao : Int) := by omega
    have haon : ao < n := by omega
    have hin : i < n := by omega
    have T0 := T
    clear T
    have T := Lib.hid (Still.refl [g] w3)
    go_upto_region 10 with (fail)
    obtain ⟨vi, ci⟩ := Q.out.cell (i) (by omega)
    obtain ⟨vj, cj⟩ := Q.out.cell (ao) (by omega)
    have mi : ∀ y : LaterS [] w3, _ := fun y => y.bw.cell ci
    have mj : ∀ y : LaterS [] w3, _ := fun y => y.bw.cell cj
    clear ci cj
    refine wp_region_gg ([g]) [17] [18] (by kernel_rfl) ?_
    refine hoist [] [17] (a1 := ?_) 0 rfl (by kernel_rfl) (.inl ⟨rfl, rfl⟩) rfl rfl rfl (fun x K hK => ?_) ?_
    rotate_left
    ·go_big_quiet_op
     exact hK
    refine hoist [] [17] (a1 := ?_) 1 rfl (by kernel_rfl) (.inl ⟨rfl, rfl⟩) rfl rfl rfl (fun x K hK => ?_) ?_
    rotate_left
    ·go_big_quiet_op
     exact hK
    refine hoist ([g]) [] (a1 := ?_) 2 rfl (by kernel_rfl) (.inr rfl) rfl rfl rfl (fun x K hK => ?_) ?_
    rotate_left
    ·go_big_quiet_op
     exact hK
    refine hoist ([g]) [] (a1 := ?_) 3 rfl (by kernel_rfl) (.inr rfl) rfl rfl rfl (fun x K hK => ?_) ?_
    rotate_left
    ·go_big_quiet_op
     exact hK
    refine hoist ([g]) [] (a1 := ?_) 4 rfl (by kernel_rfl) (.inr rfl) rfl rfl rfl (fun x K hK => ?_) ?_
    rotate_left
    ·go_big_quiet_op
     exact hK
    refine hoist ([g]) [] (a1 := ?_) 5 rfl (by kernel_rfl) (.inr rfl) rfl rfl rfl (fun x K hK => ?_) ?_
    rotate_left
    ·go_big_quiet_op
     exact hK
    refine hoist [] [17] (a1 := ?_) 6 rfl (by kernel_rfl) (.inl ⟨rfl, rfl⟩) rfl rfl rfl (fun x K hK => ?_) ?_
    rotate_left
    ·go_big_quiet_op
     exact hK
    refine hoist [] [17] (a1 := ?_) 7 rfl (by kernel_rfl) (.inl ⟨rfl, rfl⟩) rfl rfl rfl (fun x K hK => ?_) ?_
    rotate_left
    ·go_big_quiet_op
     exact hK
    refine hoist [] [17] (a1 := ?_) 8 rfl (by kernel_rfl) (.inl ⟨rfl, rfl⟩) rfl rfl rfl (fun x K hK => ?_) ?_
    rotate_left
    ·go_big_quiet_op
     exact hK
    refine hoist [] [17] (a1 := ?_) 9 rfl (by kernel_rfl) (.inl ⟨rfl, rfl⟩) rfl rfl rfl (fun x K hK => ?_) ?_
    rotate_left
    ·go_big_quiet_op
     exact hK
    refine hoist [] [17] (a1 := ?_) 10 rfl (by kernel_rfl) (.inl ⟨rfl, rfl⟩) rfl rfl rfl (fun x K hK => ?_) ?_
    rotate_left
    ·go_big_quiet_op
     exact hK
    refine hoist [] [17] (a1 := ?_) 11 rfl (by kernel_rfl) (.inl ⟨rfl, rfl⟩) rfl rfl rfl (fun x K hK => ?_) ?_
    rotate_left
    ·go_big_quiet_op
     exact hK
    refine hoist [] [17] (a1 := ?_) 12 rfl (by kernel_rfl) (.inl ⟨rfl, rfl⟩) rfl rfl rfl (fun x K hK => ?_) ?_
    rotate_left
    ·go_big_quiet_op
     exact hK
    refine hoist [] [17] (a1 := ?_) 13 rfl (by kernel_rfl) (.inl ⟨rfl, rfl⟩) rfl rfl rfl (fun x K hK => ?_) ?_
    rotate_left
    ·go_big_quiet_op
     exact hK
    refine hoist [] [17] (a1 := ?_) 14 rfl (by kernel_rfl) (.inl ⟨rfl, rfl⟩) rfl rfl rfl (fun x K hK => ?_) ?_
    rotate_left
    ·go_big_quiet_op
     exact hK
    refine hoist [] [17] (a1 := ?_) 15 rfl (by kernel_rfl) (.inl ⟨rfl, rfl⟩) rfl rfl rfl (fun x K hK => ?_) ?_
    rotate_left
    ·go_big_quiet_op
     exact hK
    refine hoist [] [17] (a1 := ?_) 16 rfl (by kernel_rfl) (.inl ⟨rfl, rfl⟩) rfl rfl rfl (fun x K hK => ?_) ?_
    rotate_left
    ·go_big_quiet_op
     exact hK
    refine effect 17 rfl (by kernel_rfl) (by kernel_rfl) rfl (fun x17 K hK => ?_)
    have Qx := Lib.hid (Q.out.bw x17.bw)
    obtain ⟨zz, zi⟩ := Qx.out.cell (i) (by omega)
    have fi := Qx.out.frz (by omega) (o + (i))
    replace T := Lib.hid (T.out.trans ((x17.bw.still [g]).trans (still_sc x17.now g (o + (i)) (.int .u32 (vj : Nat)))))
    have Q1 := Lib.hid (Qx.out.set (i) (by omega) vj)
    go_simp
    refine hK _ _ (still_sc x17.now g (o + (i)) (.int .u32 (vj : Nat))) ?_
    clear hK K mi mj zi fi Qx Q
    generalize x17.now.setCell _ _ = wy at *
    try simp only [Act.put, List.setIfInBounds_toArray, List.set_cons_succ, List.set_cons_zero]
    refine tail 18 rfl (by kernel_rfl) rfl (fun xr => ?_)
    simp only [List.drop_succ_cons, List.drop_zero]
    have Q := Lib.hid (Q1.out.bw xr.bw)
    clear Q1
    replace T := Lib.hid (T.out.trans (xr.bw.still [g]))
    generalize xr.now = wq at *
    clear xr
    obtain ⟨zz2, zj⟩ := Q.out.cell (ao) (by omega)
    have fj := Q.out.frz (by omega) (o + (ao))
    replace T := Lib.hid (T.out.trans (still_sc wq g (o + (ao)) (.int .u32 (vi : Nat))))
    have Q2 := Lib.hid (Q.out.set (ao) (by omega) vi)
    go_upto_region 6 with (fail)
    clear zj fj Q
    generalize wq.setCell _ _ = w7 at *
    have Q := Q2
    clear Q2
    replace P := Lib.hid (P.out.st T.out (by simp; exact Ne.symm hgr))
    replace T := Lib.hid (T0.out.trans T.out)
    clear T0
    go_wp2_with fail
    go_roundg (x1 + 1 - (i + 1))
    case measure => omega
    case rel => exact ⟨i + 1, Y, rfl, by omega, by omega, hY, by first | rfl | (push_cast; rfl), Q, P, T⟩
  ·have d : decide ((i : Int) ≤ (x1 : Int)) = false := by simp; omega
   go_wp2_with fail
   go_end0
   exact ⟨rfl, Q.out, T.out⟩
end Go.Proofs.YtafhnlnhflehhaaGreatDoor
