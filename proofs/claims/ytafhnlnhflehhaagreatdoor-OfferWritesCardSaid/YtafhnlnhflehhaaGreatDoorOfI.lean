/- slices: partialInsertionSort of numbers of 32 bits: the row stays a row (printed by wip/gen/genOfI.py). No condition but the sizes'. -/
import Derived.Test.YtafhnlnhflehhaaGreatDoorOfH
namespace Go.Proofs.YtafhnlnhflehhaaGreatDoor
open Go.RowKit
def PisR (w w' : World) (base g o n cap : Nat) (e : Ending) : Prop := ∃ f : Bool, e = .returned (.bool f) ∧ SR w' base g o n cap ∧ Still [g] w w'
set_option maxRecDepth 100000 in
set_option maxHeartbeats 8000000 in
theorem pis_any (base g o n cap a b : Nat) (hab : a < b) (hbn : b ≤ n) (hn : n ≤ 1000000) (w : World) (h : SR w base g o n cap) :
  Calls Tryz.prog 84 #[.slice (some ⟨g, o, none⟩) n cap, .int .i64 (a : Nat), .int .i64 (b : Nat)] w fun e w' => PisR w w' base g o n cap e := by
 have hcm : cap ≤ 9223372036854775807 ∧ n ≤ cap := by
  obtain ⟨l, q⟩ := h
  obtain ⟨_, _, he, hcn, hcm⟩ := q.len
  cases he
  exact ⟨hcm, hcn⟩
 obtain ⟨hcm, hcn⟩ := hcm
 have Q := Lib.hid h
 have T := Lib.hid (Still.refl [g] w)
 clear h
 go_enter Tryz.func84, Tryz.ntmps84
 obtain ⟨a1, ha1⟩ : ∃ a1, a + 1 = a1 := ⟨_, rfl⟩
 have ea : (a : Int) + 1 = (a1 : Int) := by omega
 obtain ⟨ba, hba⟩ : ∃ x, b - a = x := ⟨_, rfl⟩
 have eba : (b : Int) - (a : Int) = (ba : Int) := by omega
 have ha1b : a1 ≤ b ∧ a + 1 ≤ a1 := by omega
 replace ha1 := Lib.hid ha1
 replace hba := Lib.hid hba
 go_upto_region 3 with (fail)
 go_loopg [7, 8] (5 - 0) (fun m' i j wx => ∃ (p s : Nat), m' = 5 - s ∧ s ≤ 5 ∧ a + 1 ≤ p ∧ p ≤ b ∧ i = .int .i64 (p : Nat) ∧ j = .int .i64 (s : Nat) ∧ Hid (SR wx base g o n cap) ∧ Hid (Still [g] w wx))
 case atStart => exact ⟨a1, 0, rfl, by omega, by omega, by omega, rfl, rfl, Q, T⟩
 case round =>
  clear Q T ea
  obtain ⟨p, s, rfl, hs, hp, hpb, rfl, rfl, Q, T⟩ := hrel
  by_cases hs5 : s < 5
  ·have ds : decide ((s : Int) < 5) = true := by simp; omega
   go_upto_region 5 with (fail)
   go_loopg [7] (b - p) (fun m' i wx => ∃ (p' : Nat), m' = b - p' ∧ p ≤ p' ∧ p' ≤ b ∧ i = .int .i64 (p' : Nat) ∧ Hid (SR wx base g o n cap) ∧ Hid (Still [g] w wx))
   case atStart => exact ⟨p, rfl, by omega, by omega, rfl, Q, T⟩
   case round =>
    clear Q T
    obtain ⟨p1, rfl, hp1, hp1b, rfl, Q, T⟩ := hrel
    by_cases hpq : p1 < b
    ·have d : decide ((p1 : Int) < (b : Int)) = true := by simp; omega
     obtain ⟨p0, hp0⟩ : ∃ z, p1 = z + 1 := ⟨p1 - 1, by omega⟩
     have ep0 : (p1 : Int) - 1 = (p0 : Int) := by omega
     have hp0n : p0 < n := by omega
     have hp1n : p1 < n := by omega
     replace hp0 := Lib.hid hp0
     go_upto_region 5 with (fail)
     obtain ⟨vi, ci⟩ := Q.out.cell (p1) (by omega)
     obtain ⟨vj, cj⟩ := Q.out.cell (p0) (by omega)
     have mi : ∀ y : LaterS [] wr, _ := fun y => y.bw.cell ci
     have mj : ∀ y : LaterS [] wr, _ := fun y => y.bw.cell cj
     clear ci cj
     refine wp_region_gg [] [] [] (by kernel_rfl) ?_
     refine hoist [] [] (a1 := ?_) 0 rfl (by kernel_rfl) (.inl ⟨rfl, rfl⟩) rfl rfl rfl (fun x K hK => ?_) ?_
     rotate_left
     ·go_big_quiet_op
      exact hK
     refine hoist [] [] (a1 := ?_) 1 rfl (by kernel_rfl) (.inl ⟨rfl, rfl⟩) rfl rfl rfl (fun x K hK => ?_) ?_
     rotate_left
     ·go_big_quiet_op
      exact hK
     refine hoist [] [] (a1 := ?_) 2 rfl (by kernel_rfl) (.inl ⟨rfl, rfl⟩) rfl rfl rfl (fun x K hK => ?_) ?_
     rotate_left
     ·go_big_quiet_op
      exact hK
     refine hoist [] [] (a1 := ?_) 3 rfl (by kernel_rfl) (.inl ⟨rfl, rfl⟩) rfl rfl rfl (fun x K hK => ?_) ?_
     rotate_left
     ·go_big_quiet_op
      exact hK
     refine hoist [] [] (a1 := ?_) 4 rfl (by kernel_rfl) (.inl ⟨rfl, rfl⟩) rfl rfl rfl (fun x K hK => ?_) ?_
     rotate_left
     ·go_big_quiet_op
      exact hK
     refine hoist [] [] (a1 := ?_) 5 rfl (by kernel_rfl) (.inl ⟨rfl, rfl⟩) rfl rfl rfl (fun x K hK => ?_) ?_
     rotate_left
     ·go_big_quiet_op
      exact hK
     refine hoist [] [] (a1 := ?_) 6 rfl (by kernel_rfl) (.inl ⟨rfl, rfl⟩) rfl rfl rfl (fun x K hK => ?_) ?_
     rotate_left
     ·go_big_quiet_op
      exact hK
     refine hoist [] [] (a1 := ?_) 7 rfl (by kernel_rfl) (.inl ⟨rfl, rfl⟩) rfl rfl rfl (fun x K hK => ?_) ?_
     rotate_left
     ·go_big_quiet_op
      exact hK
     refine hoist [] [] (a1 := ?_) 8 rfl (by kernel_rfl) (.inl ⟨rfl, rfl⟩) rfl rfl rfl (fun x K hK => ?_) ?_
     rotate_left
     ·go_big_quiet_op
      exact hK
     refine hoist [] [] (a1 := ?_) 9 rfl (by kernel_rfl) (.inl ⟨rfl, rfl⟩) rfl rfl rfl (fun x K hK => ?_) ?_
     rotate_left
     ·go_big_quiet_op
      exact hK
     refine hoist [] [] (a1 := ?_) 10 rfl (by kernel_rfl) (.inl ⟨rfl, rfl⟩) rfl rfl rfl (fun x K hK => ?_) ?_
     rotate_left
     ·go_big_quiet_op
      exact hK
     refine hoist [] [] (a1 := ?_) 11 rfl (by kernel_rfl) (.inl ⟨rfl, rfl⟩) rfl rfl rfl (fun x K hK => ?_) ?_
     rotate_left
     ·go_big_quiet_op
      exact hK
     refine hoist [] [] (a1 := ?_) 12 rfl (by kernel_rfl) (.inl ⟨rfl, rfl⟩) rfl rfl rfl (fun x K hK => ?_) ?_
     rotate_left
     ·go_big_quiet_op
      exact hK
     refine effect 13 rfl (by kernel_rfl) (by kernel_rfl) rfl (fun x13 K hK => ?_)
     go_simp
     refine Calls.mono (less_any vi vj x13.now) ?_
     rintro e wl ⟨rfl, hb⟩
     refine hK _ _ (hb.still _) ?_
     clear hK K mi mj
     have b2 := Lib.hid (x13.bw.trans hb)
     clear hb
     try simp only [Act.put, List.setIfInBounds_toArray, List.set_cons_succ, List.set_cons_zero]
     refine hoist [] [] (a1 := ?_) 14 rfl (by kernel_rfl) (.inl ⟨rfl, rfl⟩) rfl rfl rfl (fun x K hK => ?_) ?_
     rotate_left
     ·go_big_quiet_op
      exact hK
     refine hoist [] [] (a1 := ?_) 15 rfl (by kernel_rfl) (.inl ⟨rfl, rfl⟩) rfl rfl rfl (fun x K hK => ?_) ?_
     rotate_left
     ·go_big_quiet_op
      exact hK
     refine done (by kernel_rfl) (fun xr => ?_)
     have hb := b2.out.trans xr.bw
     replace Q := Lib.hid (Q.out.bw hb)
     replace T := Lib.hid (T.out.trans (hb.still [g]))
     clear hb b2
     generalize xr.now = w3 at *
     clear xr
     by_cases hlt : vi < vj
     ·rw [decide_eq_true hlt, Bool.not_true]
      have i7 : ¬ ((p1 : Int) = (b : Int)) := by omega
      have d7 : decide ((p1 : Int) = (b : Int)) = false := decide_eq_false i7
      have b7 : ((p1 : Int) == (b : Int)) = false := by simp; omega
      by_cases h50 : ba < 50
      ·have d50 : decide ((ba : Int) < 50) = true := by simp; omega
       go_wp2_with fail
       go_ret
       exact ⟨_, rfl, Q.out, T.out⟩
      ·have d50 : decide ((ba : Int) < 50) = false := by simp; omega
       go_upto_region 11 with (fail)
       obtain ⟨vi, ci⟩ := Q.out.cell (p1) (by omega)
       obtain ⟨vj, cj⟩ := Q.out.cell (p0) (by omega)
       have mi : ∀ y : LaterS [] w3, _ := fun y => y.bw.cell ci
       have mj : ∀ y : LaterS [] w3, _ := fun y => y.bw.cell cj
       clear ci cj
       refine wp_region_gg ([g]) [15] [16] (by kernel_rfl) ?_
       refine hoist [] [15] (a1 := ?_) 0 rfl (by kernel_rfl) (.inl ⟨rfl, rfl⟩) rfl rfl rfl (fun x K hK => ?_) ?_
       rotate_left
       ·go_big_quiet_op
        exact hK
       refine hoist [] [15] (a1 := ?_) 1 rfl (by kernel_rfl) (.inl ⟨rfl, rfl⟩) rfl rfl rfl (fun x K hK => ?_) ?_
       rotate_left
       ·go_big_quiet_op
        exact hK
       refine hoist ([g]) [] (a1 := ?_) 2 rfl (by kernel_rfl) (.inr rfl) rfl rfl rfl (fun x K hK => ?_) ?_
       rotate_left
       ·go_big_quiet_op
        exact hK
       refine hoist ([g]) [] (a1 := ?_) 3 rfl (by kernel_rfl) (.inr rfl) rfl rfl rfl (fun x K hK => ?_) ?_
       rotate_left
       ·go_big_quiet_op
        exact hK
       refine hoist ([g]) [] (a1 := ?_) 4 rfl (by kernel_rfl) (.inr rfl) rfl rfl rfl (fun x K hK => ?_) ?_
       rotate_left
       ·go_big_quiet_op
        exact hK
       refine hoist [] [15] (a1 := ?_) 5 rfl (by kernel_rfl) (.inl ⟨rfl, rfl⟩) rfl rfl rfl (fun x K hK => ?_) ?_
       rotate_left
       ·go_big_quiet_op
        exact hK
       refine hoist [] [15] (a1 := ?_) 6 rfl (by kernel_rfl) (.inl ⟨rfl, rfl⟩) rfl rfl rfl (fun x K hK => ?_) ?_
       rotate_left
       ·go_big_quiet_op
        exact hK
       refine hoist [] [15] (a1 := ?_) 7 rfl (by kernel_rfl) (.inl ⟨rfl, rfl⟩) rfl rfl rfl (fun x K hK => ?_) ?_
       rotate_left
       ·go_big_quiet_op
        exact hK
       refine hoist [] [15] (a1 := ?_) 8 rfl (by kernel_rfl) (.inl ⟨rfl, rfl⟩) rfl rfl rfl (fun x K hK => ?_) ?_
       rotate_left
       ·go_big_quiet_op
        exact hK
       refine hoist [] [15] (a1 := ?_) 9 rfl (by kernel_rfl) (.inl ⟨rfl, rfl⟩) rfl rfl rfl (fun x K hK => ?_) ?_
       rotate_left
       ·go_big_quiet_op
        exact hK
       refine hoist [] [15] (a1 := ?_) 10 rfl (by kernel_rfl) (.inl ⟨rfl, rfl⟩) rfl rfl rfl (fun x K hK => ?_) ?_
       rotate_left
       ·go_big_quiet_op
        exact hK
       refine hoist [] [15] (a1 := ?_) 11 rfl (by kernel_rfl) (.inl ⟨rfl, rfl⟩) rfl rfl rfl (fun x K hK => ?_) ?_
       rotate_left
       ·go_big_quiet_op
        exact hK
       refine hoist [] [15] (a1 := ?_) 12 rfl (by kernel_rfl) (.inl ⟨rfl, rfl⟩) rfl rfl rfl (fun x K hK => ?_) ?_
       rotate_left
       ·go_big_quiet_op
        exact hK
       refine hoist [] [15] (a1 := ?_) 13 rfl (by kernel_rfl) (.inl ⟨rfl, rfl⟩) rfl rfl rfl (fun x K hK => ?_) ?_
       rotate_left
       ·go_big_quiet_op
        exact hK
       refine hoist [] [15] (a1 := ?_) 14 rfl (by kernel_rfl) (.inl ⟨rfl, rfl⟩) rfl rfl rfl (fun x K hK => ?_) ?_
       rotate_left
       ·go_big_quiet_op
        exact hK
       refine effect 15 rfl (by kernel_rfl) (by kernel_rfl) rfl (fun x15 K hK => ?_)
       have Qx := Lib.hid (Q.out.bw x15.bw)
       obtain ⟨zz, zi⟩ := Qx.out.cell (p1) (by omega)
       have fi := Qx.out.frz (by omega) (o + (p1))
       replace T := Lib.hid (T.out.trans ((x15.bw.still [g]).trans (still_sc x15.now g (o + (p1)) (.int .u32 (vj : Nat)))))
       have Q1 := Lib.hid (Qx.out.set (p1) (by omega) vj)
       go_simp
       refine hK _ _ (still_sc x15.now g (o + (p1)) (.int .u32 (vj : Nat))) ?_
       clear hK K mi mj zi fi Qx Q
       generalize x15.now.setCell _ _ = wy at *
       try simp only [Act.put, List.setIfInBounds_toArray, List.set_cons_succ, List.set_cons_zero]
       refine tail 16 rfl (by kernel_rfl) rfl (fun xr => ?_)
       simp only [List.drop_succ_cons, List.drop_zero]
       have Q := Lib.hid (Q1.out.bw xr.bw)
       clear Q1
       replace T := Lib.hid (T.out.trans (xr.bw.still [g]))
       generalize xr.now = wq at *
       clear xr
       obtain ⟨zz2, zj⟩ := Q.out.cell (p0) (by omega)
       have fj := Q.out.frz (by omega) (o + (p0))
       replace T := Lib.hid (T.out.trans (still_sc wq g (o + (p0)) (.int .u32 (vi : Nat))))
       have Q2 := Lib.hid (Q.out.set (p0) (by omega) vi)
       go_upto_region 12 with (fail)
       clear zj fj Q
       generalize wq.setCell _ _ = w4 at *
       have Q := Q2
       clear Q2
       clear i7 d7 b7 d50
       obtain ⟨pa, hpa⟩ : ∃ x, p1 - a = x := ⟨_, rfl⟩
       have epa : (p1 : Int) - (a : Int) = (pa : Int) := by omega
       by_cases ha2 : 2 ≤ pa
       ·have da : decide ((2 : Int) ≤ (pa : Int)) = true := by simp; omega
        go_upto_region 14 with (fail)
        go_loopg [9] p0 (fun m' i wx => ∃ (y : Nat), y = m' ∧ y ≤ p0 ∧ i = .int .i64 (y : Nat) ∧ Hid (SR wx base g o n cap) ∧ Hid (Still [g] w wx))
        case atStart => exact ⟨p0, rfl, by omega, rfl, Q, T⟩
        case round =>
         clear Q T
         obtain ⟨y, rfl, hy, rfl, Q, T⟩ := hrel
         by_cases hy1 : 1 ≤ y
         ·have d : decide ((1 : Int) ≤ (y : Int)) = true := by simp; omega
          obtain ⟨y0, hy0⟩ : ∃ z, y = z + 1 := ⟨y - 1, by omega⟩
          have ey0 : (y : Int) - 1 = (y0 : Int) := by omega
          have hy0n : y0 < n := by omega
          have hyn : y < n := by omega
          replace hy0 := Lib.hid hy0
          go_upto_region 16 with (fail)
          obtain ⟨vi, ci⟩ := Q.out.cell (y) (by omega)
          obtain ⟨vj, cj⟩ := Q.out.cell (y0) (by omega)
          have mi : ∀ y : LaterS [] wr, _ := fun y => y.bw.cell ci
          have mj : ∀ y : LaterS [] wr, _ := fun y => y.bw.cell cj
          clear ci cj
          refine wp_region_gg [] [] [] (by kernel_rfl) ?_
          refine hoist [] [] (a1 := ?_) 0 rfl (by kernel_rfl) (.inl ⟨rfl, rfl⟩) rfl rfl rfl (fun x K hK => ?_) ?_
          rotate_left
          ·go_big_quiet_op
           exact hK
          refine hoist [] [] (a1 := ?_) 1 rfl (by kernel_rfl) (.inl ⟨rfl, rfl⟩) rfl rfl rfl (fun x K hK => ?_) ?_
          rotate_left
          ·go_big_quiet_op
           exact hK
          refine hoist [] [] (a1 := ?_) 2 rfl (by kernel_rfl) (.inl ⟨rfl, rfl⟩) rfl rfl rfl (fun x K hK => ?_) ?_
          rotate_left
          ·go_big_quiet_op
           exact hK
          refine hoist [] [] (a1 := ?_) 3 rfl (by kernel_rfl) (.inl ⟨rfl, rfl⟩) rfl rfl rfl (fun x K hK => ?_) ?_
          rotate_left
          ·go_big_quiet_op
           exact hK
          refine hoist [] [] (a1 := ?_) 4 rfl (by kernel_rfl) (.inl ⟨rfl, rfl⟩) rfl rfl rfl (fun x K hK => ?_) ?_
          rotate_left
          ·go_big_quiet_op
           exact hK
          refine hoist [] [] (a1 := ?_) 5 rfl (by kernel_rfl) (.inl ⟨rfl, rfl⟩) rfl rfl rfl (fun x K hK => ?_) ?_
          rotate_left
          ·go_big_quiet_op
           exact hK
          refine hoist [] [] (a1 := ?_) 6 rfl (by kernel_rfl) (.inl ⟨rfl, rfl⟩) rfl rfl rfl (fun x K hK => ?_) ?_
          rotate_left
          ·go_big_quiet_op
           exact hK
          refine hoist [] [] (a1 := ?_) 7 rfl (by kernel_rfl) (.inl ⟨rfl, rfl⟩) rfl rfl rfl (fun x K hK => ?_) ?_
          rotate_left
          ·go_big_quiet_op
           exact hK
          refine hoist [] [] (a1 := ?_) 8 rfl (by kernel_rfl) (.inl ⟨rfl, rfl⟩) rfl rfl rfl (fun x K hK => ?_) ?_
          rotate_left
          ·go_big_quiet_op
           exact hK
          refine effect 9 rfl (by kernel_rfl) (by kernel_rfl) rfl (fun x9 K hK => ?_)
          go_simp
          refine Calls.mono (less_any vi vj x9.now) ?_
          rintro e wl ⟨rfl, hb⟩
          refine hK _ _ (hb.still _) ?_
          clear hK K mi mj
          have b2 := Lib.hid (x9.bw.trans hb)
          clear hb
          try simp only [Act.put, List.setIfInBounds_toArray, List.set_cons_succ, List.set_cons_zero]
          refine hoist [] [] (a1 := ?_) 10 rfl (by kernel_rfl) (.inl ⟨rfl, rfl⟩) rfl rfl rfl (fun x K hK => ?_) ?_
          rotate_left
          ·go_big_quiet_op
           exact hK
          refine done (by kernel_rfl) (fun xr => ?_)
          have hb := b2.out.trans xr.bw
          replace Q := Lib.hid (Q.out.bw hb)
          replace T := Lib.hid (T.out.trans (hb.still [g]))
          clear hb b2
          generalize xr.now = w5 at *
          clear xr
          by_cases hlt : vi < vj
          ·rw [decide_eq_true hlt, Bool.not_true]
           go_upto_region 17 with (fail)
           obtain ⟨vi, ci⟩ := Q.out.cell (y) (by omega)
           obtain ⟨vj, cj⟩ := Q.out.cell (y0) (by omega)
           have mi : ∀ y : LaterS [] w5, _ := fun y => y.bw.cell ci
           have mj : ∀ y : LaterS [] w5, _ := fun y => y.bw.cell cj
           clear ci cj
           refine wp_region_gg ([g]) [15] [16] (by kernel_rfl) ?_
           refine hoist [] [15] (a1 := ?_) 0 rfl (by kernel_rfl) (.inl ⟨rfl, rfl⟩) rfl rfl rfl (fun x K hK => ?_) ?_
           rotate_left
           ·go_big_quiet_op
            exact hK
           refine hoist [] [15] (a1 := ?_) 1 rfl (by kernel_rfl) (.inl ⟨rfl, rfl⟩) rfl rfl rfl (fun x K hK => ?_) ?_
           rotate_left
           ·go_big_quiet_op
            exact hK
           refine hoist ([g]) [] (a1 := ?_) 2 rfl (by kernel_rfl) (.inr rfl) rfl rfl rfl (fun x K hK => ?_) ?_
           rotate_left
           ·go_big_quiet_op
            exact hK
           refine hoist ([g]) [] (a1 := ?_) 3 rfl (by kernel_rfl) (.inr rfl) rfl rfl rfl (fun x K hK => ?_) ?_
           rotate_left
           ·go_big_quiet_op
            exact hK
           refine hoist ([g]) [] (a1 := ?_) 4 rfl (by kernel_rfl) (.inr rfl) rfl rfl rfl (fun x K hK => ?_) ?_
           rotate_left
           ·go_big_quiet_op
            exact hK
           refine hoist [] [15] (a1 := ?_) 5 rfl (by kernel_rfl) (.inl ⟨rfl, rfl⟩) rfl rfl rfl (fun x K hK => ?_) ?_
           rotate_left
           ·go_big_quiet_op
            exact hK
           refine hoist [] [15] (a1 := ?_) 6 rfl (by kernel_rfl) (.inl ⟨rfl, rfl⟩) rfl rfl rfl (fun x K hK => ?_) ?_
           rotate_left
           ·go_big_quiet_op
            exact hK
           refine hoist [] [15] (a1 := ?_) 7 rfl (by kernel_rfl) (.inl ⟨rfl, rfl⟩) rfl rfl rfl (fun x K hK => ?_) ?_
           rotate_left
           ·go_big_quiet_op
            exact hK
           refine hoist [] [15] (a1 := ?_) 8 rfl (by kernel_rfl) (.inl ⟨rfl, rfl⟩) rfl rfl rfl (fun x K hK => ?_) ?_
           rotate_left
           ·go_big_quiet_op
            exact hK
           refine hoist [] [15] (a1 := ?_) 9 rfl (by kernel_rfl) (.inl ⟨rfl, rfl⟩) rfl rfl rfl (fun x K hK => ?_) ?_
           rotate_left
           ·go_big_quiet_op
            exact hK
           refine hoist [] [15] (a1 := ?_) 10 rfl (by kernel_rfl) (.inl ⟨rfl, rfl⟩) rfl rfl rfl (fun x K hK => ?_) ?_
           rotate_left
           ·go_big_quiet_op
            exact hK
           refine hoist [] [15] (a1 := ?_) 11 rfl (by kernel_rfl) (.inl ⟨rfl, rfl⟩) rfl rfl rfl (fun x K hK => ?_) ?_
           rotate_left
           ·go_big_quiet_op
            exact hK
           refine hoist [] [15] (a1 := ?_) 12 rfl (by kernel_rfl) (.inl ⟨rfl, rfl⟩) rfl rfl rfl (fun x K hK => ?_) ?_
           rotate_left
           ·go_big_quiet_op
            exact hK
           refine hoist [] [15] (a1 := ?_) 13 rfl (by kernel_rfl) (.inl ⟨rfl, rfl⟩) rfl rfl rfl (fun x K hK => ?_) ?_
           rotate_left
           ·go_big_quiet_op
            exact hK
           refine hoist [] [15] (a1 := ?_) 14 rfl (by kernel_rfl) (.inl ⟨rfl, rfl⟩) rfl rfl rfl (fun x K hK => ?_) ?_
           rotate_left
           ·go_big_quiet_op
            exact hK
           refine effect 15 rfl (by kernel_rfl) (by kernel_rfl) rfl (fun x15 K hK => ?_)
           have Qx := Lib.hid (Q.out.bw x15.bw)
           obtain ⟨zz, zi⟩ := Qx.out.cell (y) (by omega)
           have fi := Qx.out.frz (by omega) (o + (y))
           replace T := Lib.hid (T.out.trans ((x15.bw.still [g]).trans (still_sc x15.now g (o + (y)) (.int .u32 (vj : Nat)))))
           have Q1 := Lib.hid (Qx.out.set (y) (by omega) vj)
           go_simp
           refine hK _ _ (still_sc x15.now g (o + (y)) (.int .u32 (vj : Nat))) ?_
           clear hK K mi mj zi fi Qx Q
           generalize x15.now.setCell _ _ = wy at *
           try simp only [Act.put, List.setIfInBounds_toArray, List.set_cons_succ, List.set_cons_zero]
           refine tail 16 rfl (by kernel_rfl) rfl (fun xr => ?_)
           simp only [List.drop_succ_cons, List.drop_zero]
           have Q := Lib.hid (Q1.out.bw xr.bw)
           clear Q1
           replace T := Lib.hid (T.out.trans (xr.bw.still [g]))
           generalize xr.now = wq at *
           clear xr
           obtain ⟨zz2, zj⟩ := Q.out.cell (y0) (by omega)
           have fj := Q.out.frz (by omega) (o + (y0))
           replace T := Lib.hid (T.out.trans (still_sc wq g (o + (y0)) (.int .u32 (vi : Nat))))
           have Q2 := Lib.hid (Q.out.set (y0) (by omega) vi)
           go_upto_region 15 with (fail)
           clear zj fj Q
           generalize wq.setCell _ _ = w7 at *
           have Q := Q2
           clear Q2
           go_wp2_with fail
           go_roundg y0
           case measure => have := hy0.out; omega
           case rel => exact ⟨y0, rfl, by have := hy0.out; omega, by first | rfl | (congr 1; omega), Q, T⟩
          ·rw [decide_eq_false hlt, Bool.not_false]
           go_upto_region 18 with (fail)
           obtain ⟨br, hbr⟩ : ∃ x, b - p1 = x := ⟨_, rfl⟩
           have ebr : (b : Int) - (p1 : Int) = (br : Int) := by omega
           by_cases hb2 : 2 ≤ br
           ·have d2 : decide ((2 : Int) ≤ (br : Int)) = true := by simp; omega
            obtain ⟨x2, hx2⟩ : ∃ x, p1 + 1 = x := ⟨_, rfl⟩
            have ex2 : (p1 : Int) + 1 = (x2 : Int) := by omega
            have hx2g : 1 ≤ x2 ∧ x2 ≤ b := by omega
            replace hx2 := Lib.hid hx2
            go_upto_region 20 with (fail)
            go_loopg [10] (b - x2) (fun m' i wx => ∃ (x : Nat), m' = b - x ∧ x2 ≤ x ∧ x ≤ b ∧ i = .int .i64 (x : Nat) ∧ Hid (SR wx base g o n cap) ∧ Hid (Still [g] w wx))
            case atStart => exact ⟨x2, rfl, by omega, by omega, rfl, Q, T⟩
            case round =>
             clear Q T
             obtain ⟨x, rfl, hx1, hx2b, rfl, Q, T⟩ := hrel
             by_cases hxb : x < b
             ·have d : decide ((x : Int) < (b : Int)) = true := by simp; omega
              obtain ⟨x0, hx0⟩ : ∃ z, x = z + 1 := ⟨x - 1, by omega⟩
              have ex0 : (x : Int) - 1 = (x0 : Int) := by omega
              have hx0n : x0 < n := by omega
              have hxn : x < n := by omega
              replace hx0 := Lib.hid hx0
              go_upto_region 22 with (fail)
              obtain ⟨vi, ci⟩ := Q.out.cell (x) (by omega)
              obtain ⟨vj, cj⟩ := Q.out.cell (x0) (by omega)
              have mi : ∀ y : LaterS [] wr, _ := fun y => y.bw.cell ci
              have mj : ∀ y : LaterS [] wr, _ := fun y => y.bw.cell cj
              clear ci cj
              refine wp_region_gg [] [] [] (by kernel_rfl) ?_
              refine hoist [] [] (a1 := ?_) 0 rfl (by kernel_rfl) (.inl ⟨rfl, rfl⟩) rfl rfl rfl (fun x K hK => ?_) ?_
              rotate_left
              ·go_big_quiet_op
               exact hK
              refine hoist [] [] (a1 := ?_) 1 rfl (by kernel_rfl) (.inl ⟨rfl, rfl⟩) rfl rfl rfl (fun x K hK => ?_) ?_
              rotate_left
              ·go_big_quiet_op
               exact hK
              refine hoist [] [] (a1 := ?_) 2 rfl (by kernel_rfl) (.inl ⟨rfl, rfl⟩) rfl rfl rfl (fun x K hK => ?_) ?_
              rotate_left
              ·go_big_quiet_op
               exact hK
              refine hoist [] [] (a1 := ?_) 3 rfl (by kernel_rfl) (.inl ⟨rfl, rfl⟩) rfl rfl rfl (fun x K hK => ?_) ?_
              rotate_left
              ·go_big_quiet_op
               exact hK
              refine hoist [] [] (a1 := ?_) 4 rfl (by kernel_rfl) (.inl ⟨rfl, rfl⟩) rfl rfl rfl (fun x K hK => ?_) ?_
              rotate_left
              ·go_big_quiet_op
               exact hK
              refine hoist [] [] (a1 := ?_) 5 rfl (by kernel_rfl) (.inl ⟨rfl, rfl⟩) rfl rfl rfl (fun x K hK => ?_) ?_
              rotate_left
              ·go_big_quiet_op
               exact hK
              refine hoist [] [] (a1 := ?_) 6 rfl (by kernel_rfl) (.inl ⟨rfl, rfl⟩) rfl rfl rfl (fun x K hK => ?_) ?_
              rotate_left
              ·go_big_quiet_op
               exact hK
              refine hoist [] [] (a1 := ?_) 7 rfl (by kernel_rfl) (.inl ⟨rfl, rfl⟩) rfl rfl rfl (fun x K hK => ?_) ?_
              rotate_left
              ·go_big_quiet_op
               exact hK
              refine hoist [] [] (a1 := ?_) 8 rfl (by kernel_rfl) (.inl ⟨rfl, rfl⟩) rfl rfl rfl (fun x K hK => ?_) ?_
              rotate_left
              ·go_big_quiet_op
               exact hK
              refine effect 9 rfl (by kernel_rfl) (by kernel_rfl) rfl (fun x9 K hK => ?_)
              go_simp
              refine Calls.mono (less_any vi vj x9.now) ?_
              rintro e wl ⟨rfl, hb⟩
              refine hK _ _ (hb.still _) ?_
              clear hK K mi mj
              have b2 := Lib.hid (x9.bw.trans hb)
              clear hb
              try simp only [Act.put, List.setIfInBounds_toArray, List.set_cons_succ, List.set_cons_zero]
              refine hoist [] [] (a1 := ?_) 10 rfl (by kernel_rfl) (.inl ⟨rfl, rfl⟩) rfl rfl rfl (fun x K hK => ?_) ?_
              rotate_left
              ·go_big_quiet_op
               exact hK
              refine done (by kernel_rfl) (fun xr => ?_)
              have hb := b2.out.trans xr.bw
              replace Q := Lib.hid (Q.out.bw hb)
              replace T := Lib.hid (T.out.trans (hb.still [g]))
              clear hb b2
              generalize xr.now = w6 at *
              clear xr
              by_cases hlt : vi < vj
              ·rw [decide_eq_true hlt, Bool.not_true]
               go_upto_region 23 with (fail)
               obtain ⟨vi, ci⟩ := Q.out.cell (x) (by omega)
               obtain ⟨vj, cj⟩ := Q.out.cell (x0) (by omega)
               have mi : ∀ y : LaterS [] w6, _ := fun y => y.bw.cell ci
               have mj : ∀ y : LaterS [] w6, _ := fun y => y.bw.cell cj
               clear ci cj
               refine wp_region_gg ([g]) [15] [16] (by kernel_rfl) ?_
               refine hoist [] [15] (a1 := ?_) 0 rfl (by kernel_rfl) (.inl ⟨rfl, rfl⟩) rfl rfl rfl (fun x K hK => ?_) ?_
               rotate_left
               ·go_big_quiet_op
                exact hK
               refine hoist [] [15] (a1 := ?_) 1 rfl (by kernel_rfl) (.inl ⟨rfl, rfl⟩) rfl rfl rfl (fun x K hK => ?_) ?_
               rotate_left
               ·go_big_quiet_op
                exact hK
               refine hoist ([g]) [] (a1 := ?_) 2 rfl (by kernel_rfl) (.inr rfl) rfl rfl rfl (fun x K hK => ?_) ?_
               rotate_left
               ·go_big_quiet_op
                exact hK
               refine hoist ([g]) [] (a1 := ?_) 3 rfl (by kernel_rfl) (.inr rfl) rfl rfl rfl (fun x K hK => ?_) ?_
               rotate_left
               ·go_big_quiet_op
                exact hK
               refine hoist ([g]) [] (a1 := ?_) 4 rfl (by kernel_rfl) (.inr rfl) rfl rfl rfl (fun x K hK => ?_) ?_
               rotate_left
               ·go_big_quiet_op
                exact hK
               refine hoist [] [15] (a1 := ?_) 5 rfl (by kernel_rfl) (.inl ⟨rfl, rfl⟩) rfl rfl rfl (fun x K hK => ?_) ?_
               rotate_left
               ·go_big_quiet_op
                exact hK
               refine hoist [] [15] (a1 := ?_) 6 rfl (by kernel_rfl) (.inl ⟨rfl, rfl⟩) rfl rfl rfl (fun x K hK => ?_) ?_
               rotate_left
               ·go_big_quiet_op
                exact hK
               refine hoist [] [15] (a1 := ?_) 7 rfl (by kernel_rfl) (.inl ⟨rfl, rfl⟩) rfl rfl rfl (fun x K hK => ?_) ?_
               rotate_left
               ·go_big_quiet_op
                exact hK
               refine hoist [] [15] (a1 := ?_) 8 rfl (by kernel_rfl) (.inl ⟨rfl, rfl⟩) rfl rfl rfl (fun x K hK => ?_) ?_
               rotate_left
               ·go_big_quiet_op
                exact hK
               refine hoist [] [15] (a1 := ?_) 9 rfl (by kernel_rfl) (.inl ⟨rfl, rfl⟩) rfl rfl rfl (fun x K hK => ?_) ?_
               rotate_left
               ·go_big_quiet_op
                exact hK
               refine hoist [] [15] (a1 := ?_) 10 rfl (by kernel_rfl) (.inl ⟨rfl, rfl⟩) rfl rfl rfl (fun x K hK => ?_) ?_
               rotate_left
               ·go_big_quiet_op
                exact hK
               refine hoist [] [15] (a1 := ?_) 11 rfl (by kernel_rfl) (.inl ⟨rfl, rfl⟩) rfl rfl rfl (fun x K hK => ?_) ?_
               rotate_left
               ·go_big_quiet_op
                exact hK
               refine hoist [] [15] (a1 := ?_) 12 rfl (by kernel_rfl) (.inl ⟨rfl, rfl⟩) rfl rfl rfl (fun x K hK => ?_) ?_
               rotate_left
               ·go_big_quiet_op
                exact hK
               refine hoist [] [15] (a1 := ?_) 13 rfl (by kernel_rfl) (.inl ⟨rfl, rfl⟩) rfl rfl rfl (fun x K hK => ?_) ?_
               rotate_left
               ·go_big_quiet_op
                exact hK
               refine hoist [] [15] (a1 := ?_) 14 rfl (by kernel_rfl) (.inl ⟨rfl, rfl⟩) rfl rfl rfl (fun x K hK => ?_) ?_
               rotate_left
               ·go_big_quiet_op
                exact hK
               refine effect 15 rfl (by kernel_rfl) (by kernel_rfl) rfl (fun x15 K hK => ?_)
               have Qx := Lib.hid (Q.out.bw x15.bw)
               obtain ⟨zz, zi⟩ := Qx.out.cell (x) (by omega)
               have fi := Qx.out.frz (by omega) (o + (x))
               replace T := Lib.hid (T.out.trans ((x15.bw.still [g]).trans (still_sc x15.now g (o + (x)) (.int .u32 (vj : Nat)))))
               have Q1 := Lib.hid (Qx.out.set (x) (by omega) vj)
               go_simp
               refine hK _ _ (still_sc x15.now g (o + (x)) (.int .u32 (vj : Nat))) ?_
               clear hK K mi mj zi fi Qx Q
               generalize x15.now.setCell _ _ = wy at *
               try simp only [Act.put, List.setIfInBounds_toArray, List.set_cons_succ, List.set_cons_zero]
               refine tail 16 rfl (by kernel_rfl) rfl (fun xr => ?_)
               simp only [List.drop_succ_cons, List.drop_zero]
               have Q := Lib.hid (Q1.out.bw xr.bw)
               clear Q1
               replace T := Lib.hid (T.out.trans (xr.bw.still [g]))
               generalize xr.now = wq at *
               clear xr
               obtain ⟨zz2, zj⟩ := Q.out.cell (x0) (by omega)
               have fj := Q.out.frz (by omega) (o + (x0))
               replace T := Lib.hid (T.out.trans (still_sc wq g (o + (x0)) (.int .u32 (vi : Nat))))
               have Q2 := Lib.hid (Q.out.set (x0) (by omega) vi)
               go_upto_region 21 with (fail)
               clear zj fj Q
               generalize wq.setCell _ _ = w8 at *
               have Q := Q2
               clear Q2
               go_wp2_with fail
               go_roundg (b - (x + 1))
               case measure => omega
               case rel => exact ⟨x + 1, rfl, by omega, by omega, by first | rfl | (push_cast; rfl), Q, T⟩
              ·rw [decide_eq_false hlt, Bool.not_false]
               go_wp2_with fail
               go_roundg (5 - (s + 1))
               case measure => omega
               case rel => exact ⟨p1, s + 1, rfl, by omega, by omega, by omega, rfl, by first | rfl | (push_cast; rfl), Q, T⟩
             ·have d : decide ((x : Int) < (b : Int)) = false := by simp; omega
              go_wp2_with fail
              go_roundg (5 - (s + 1))
              case measure => omega
              case rel => exact ⟨p1, s + 1, rfl, by omega, by omega, by omega, rfl, by first | rfl | (push_cast; rfl), Q, T⟩
           ·have d2 : decide ((2 : Int) ≤ (br : Int)) = false := by simp; omega
            go_wp2_with fail
            go_roundg (5 - (s + 1))
            case measure => omega
            case rel => exact ⟨p1, s + 1, rfl, by omega, by omega, by omega, rfl, by first | rfl | (push_cast; rfl), Q, T⟩
         ·have d : decide ((1 : Int) ≤ (y : Int)) = false := by simp; omega
          go_upto_region 18 with (fail)
          obtain ⟨br, hbr⟩ : ∃ x, b - p1 = x := ⟨_, rfl⟩
          have ebr : (b : Int) - (p1 : Int) = (br : Int) := by omega
          by_cases hb2 : 2 ≤ br
          ·have d2 : decide ((2 : Int) ≤ (br : Int)) = true := by simp; omega
           obtain ⟨x2, hx2⟩ : ∃ x, p1 + 1 = x := ⟨_, rfl⟩
           have ex2 : (p1 : Int) + 1 = (x2 : Int) := by omega
           have hx2g : 1 ≤ x2 ∧ x2 ≤ b := by omega
           replace hx2 := Lib.hid hx2
           go_upto_region 20 with (fail)
           go_loopg [10] (b - x2) (fun m' i wx => ∃ (x : Nat), m' = b - x ∧ x2 ≤ x ∧ x ≤ b ∧ i = .int .i64 (x : Nat) ∧ Hid (SR wx base g o n cap) ∧ Hid (Still [g] w wx))
           case atStart => exact ⟨x2, rfl, by omega, by omega, rfl, Q, T⟩
           case round =>
            clear Q T
            obtain ⟨x, rfl, hx1, hx2b, rfl, Q, T⟩ := hrel
            by_cases hxb : x < b
            ·have d : decide ((x : Int) < (b : Int)) = true := by simp; omega
             obtain ⟨x0, hx0⟩ : ∃ z, x = z + 1 := ⟨x - 1, by omega⟩
             have ex0 : (x : Int) - 1 = (x0 : Int) := by omega
             have hx0n : x0 < n := by omega
             have hxn : x < n := by omega
             replace hx0 := Lib.hid hx0
             go_upto_region 22 with (fail)
             obtain ⟨vi, ci⟩ := Q.out.cell (x) (by omega)
             obtain ⟨vj, cj⟩ := Q.out.cell (x0) (by omega)
             have mi : ∀ y : LaterS [] wr, _ := fun y => y.bw.cell ci
             have mj : ∀ y : LaterS [] wr, _ := fun y => y.bw.cell cj
             clear ci cj
             refine wp_region_gg [] [] [] (by kernel_rfl) ?_
             refine hoist [] [] (a1 := ?_) 0 rfl (by kernel_rfl) (.inl ⟨rfl, rfl⟩) rfl rfl rfl (fun x K hK => ?_) ?_
             rotate_left
             ·go_big_quiet_op
              exact hK
             refine hoist [] [] (a1 := ?_) 1 rfl (by kernel_rfl) (.inl ⟨rfl, rfl⟩) rfl rfl rfl (fun x K hK => ?_) ?_
             rotate_left
             ·go_big_quiet_op
              exact hK
             refine hoist [] [] (a1 := ?_) 2 rfl (by kernel_rfl) (.inl ⟨rfl, rfl⟩) rfl rfl rfl (fun x K hK => ?_) ?_
             rotate_left
             ·go_big_quiet_op
              exact hK
             refine hoist [] [] (a1 := ?_) 3 rfl (by kernel_rfl) (.inl ⟨rfl, rfl⟩) rfl rfl rfl (fun x K hK => ?_) ?_
             rotate_left
             ·go_big_quiet_op
              exact hK
             refine hoist [] [] (a1 := ?_) 4 rfl (by kernel_rfl) (.inl ⟨rfl, rfl⟩) rfl rfl rfl (fun x K hK => ?_) ?_
             rotate_left
             ·go_big_quiet_op
              exact hK
             refine hoist [] [] (a1 := ?_) 5 rfl (by kernel_rfl) (.inl ⟨rfl, rfl⟩) rfl rfl rfl (fun x K hK => ?_) ?_
             rotate_left
             ·go_big_quiet_op
              exact hK
             refine hoist [] [] (a1 := ?_) 6 rfl (by kernel_rfl) (.inl ⟨rfl, rfl⟩) rfl rfl rfl (fun x K hK => ?_) ?_
             rotate_left
             ·go_big_quiet_op
              exact hK
             refine hoist [] [] (a1 := ?_) 7 rfl (by kernel_rfl) (.inl ⟨rfl, rfl⟩) rfl rfl rfl (fun x K hK => ?_) ?_
             rotate_left
             ·go_big_quiet_op
              exact hK
             refine hoist [] [] (a1 := ?_) 8 rfl (by kernel_rfl) (.inl ⟨rfl, rfl⟩) rfl rfl rfl (fun x K hK => ?_) ?_
             rotate_left
             ·go_big_quiet_op
              exact hK
             refine effect 9 rfl (by kernel_rfl) (by kernel_rfl) rfl (fun x9 K hK => ?_)
             go_simp
             refine Calls.mono (less_any vi vj x9.now) ?_
             rintro e wl ⟨rfl, hb⟩
             refine hK _ _ (hb.still _) ?_
             clear hK K mi mj
             have b2 := Lib.hid (x9.bw.trans hb)
             clear hb
             try simp only [Act.put, List.setIfInBounds_toArray, List.set_cons_succ, List.set_cons_zero]
             refine hoist [] [] (a1 := ?_) 10 rfl (by kernel_rfl) (.inl ⟨rfl, rfl⟩) rfl rfl rfl (fun x K hK => ?_) ?_
             rotate_left
             ·go_big_quiet_op
              exact hK
             refine done (by kernel_rfl) (fun xr => ?_)
             have hb := b2.out.trans xr.bw
             replace Q := Lib.hid (Q.out.bw hb)
             replace T := Lib.hid (T.out.trans (hb.still [g]))
             clear hb b2
             generalize xr.now = w6 at *
             clear xr
             by_cases hlt : vi < vj
             ·rw [decide_eq_true hlt, Bool.not_true]
              go_upto_region 23 with (fail)
              obtain ⟨vi, ci⟩ := Q.out.cell (x) (by omega)
              obtain ⟨vj, cj⟩ := Q.out.cell (x0) (by omega)
              have mi : ∀ y : LaterS [] w6, _ := fun y => y.bw.cell ci
              have mj : ∀ y : LaterS [] w6, _ := fun y => y.bw.cell cj
              clear ci cj
              refine wp_region_gg ([g]) [15] [16] (by kernel_rfl) ?_
              refine hoist [] [15] (a1 := ?_) 0 rfl (by kernel_rfl) (.inl ⟨rfl, rfl⟩) rfl rfl rfl (fun x K hK => ?_) ?_
              rotate_left
              ·go_big_quiet_op
               exact hK
              refine hoist [] [15] (a1 := ?_) 1 rfl (by kernel_rfl) (.inl ⟨rfl, rfl⟩) rfl rfl rfl (fun x K hK => ?_) ?_
              rotate_left
              ·go_big_quiet_op
               exact hK
              refine hoist ([g]) [] (a1 := ?_) 2 rfl (by kernel_rfl) (.inr rfl) rfl rfl rfl (fun x K hK => ?_) ?_
              rotate_left
              ·go_big_quiet_op
               exact hK
              refine hoist ([g]) [] (a1 := ?_) 3 rfl (by kernel_rfl) (.inr rfl) rfl rfl rfl (fun x K hK => ?_) ?_
              rotate_left
              ·go_big_quiet_op
               exact hK
              refine hoist ([g]) [] (a1 := ?_) 4 rfl (by kernel_rfl) (.inr rfl) rfl rfl rfl (fun x K hK => ?_) ?_
              rotate_left
              ·go_big_quiet_op
               exact hK
              refine hoist [] [15] (a1 := ?_) 5 rfl (by kernel_rfl) (.inl ⟨rfl, rfl⟩) rfl rfl rfl (fun x K hK => ?_) ?_
              rotate_left
              ·go_big_quiet_op
               exact hK
              refine hoist [] [15] (a1 := ?_) 6 rfl (by kernel_rfl) (.inl ⟨rfl, rfl⟩) rfl rfl rfl (fun x K hK => ?_) ?_
              rotate_left
              ·go_big_quiet_op
               exact hK
              refine hoist [] [15] (a1 := ?_) 7 rfl (by kernel_rfl) (.inl ⟨rfl, rfl⟩) rfl rfl rfl (fun x K hK => ?_) ?_
              rotate_left
              ·go_big_quiet_op
               exact hK
              refine hoist [] [15] (a1 := ?_) 8 rfl (by kernel_rfl) (.inl ⟨rfl, rfl⟩) rfl rfl rfl (fun x K hK => ?_) ?_
              rotate_left
              ·go_big_quiet_op
               exact hK
              refine hoist [] [15] (a1 := ?_) 9 rfl (by kernel_rfl) (.inl ⟨rfl, rfl⟩) rfl rfl rfl (fun x K hK => ?_) ?_
              rotate_left
              ·go_big_quiet_op
               exact hK
              refine hoist [] [15] (a1 := ?_) 10 rfl (by kernel_rfl) (.inl ⟨rfl, rfl⟩) rfl rfl rfl (fun x K hK => ?_) ?_
              rotate_left
              ·go_big_quiet_op
               exact hK
              refine hoist [] [15] (a1 := ?_) 11 rfl (by kernel_rfl) (.inl ⟨rfl, rfl⟩) rfl rfl rfl (fun x K hK => ?_) ?_
              rotate_left
              ·go_big_quiet_op
               exact hK
              refine hoist [] [15] (a1 := ?_) 12 rfl (by kernel_rfl) (.inl ⟨rfl, rfl⟩) rfl rfl rfl (fun x K hK => ?_) ?_
              rotate_left
              ·go_big_quiet_op
               exact hK
              refine hoist [] [15] (a1 := ?_) 13 rfl (by kernel_rfl) (.inl ⟨rfl, rfl⟩) rfl rfl rfl (fun x K hK => ?_) ?_
              rotate_left
              ·go_big_quiet_op
               exact hK
              refine hoist [] [15] (a1 := ?_) 14 rfl (by kernel_rfl) (.inl ⟨rfl, rfl⟩) rfl rfl rfl (fun x K hK => ?_) ?_
              rotate_left
              ·go_big_quiet_op
               exact hK
              refine effect 15 rfl (by kernel_rfl) (by kernel_rfl) rfl (fun x15 K hK => ?_)
              have Qx := Lib.hid (Q.out.bw x15.bw)
              obtain ⟨zz, zi⟩ := Qx.out.cell (x) (by omega)
              have fi := Qx.out.frz (by omega) (o + (x))
              replace T := Lib.hid (T.out.trans ((x15.bw.still [g]).trans (still_sc x15.now g (o + (x)) (.int .u32 (vj : Nat)))))
              have Q1 := Lib.hid (Qx.out.set (x) (by omega) vj)
              go_simp
              refine hK _ _ (still_sc x15.now g (o + (x)) (.int .u32 (vj : Nat))) ?_
              clear hK K mi mj zi fi Qx Q
              generalize x15.now.setCell _ _ = wy at *
              try simp only [Act.put, List.setIfInBounds_toArray, List.set_cons_succ, List.set_cons_zero]
              refine tail 16 rfl (by kernel_rfl) rfl (fun xr => ?_)
              simp only [List.drop_succ_cons, List.drop_zero]
              have Q := Lib.hid (Q1.out.bw xr.bw)
              clear Q1
              replace T := Lib.hid (T.out.trans (xr.bw.still [g]))
              generalize xr.now = wq at *
              clear xr
              obtain ⟨zz2, zj⟩ := Q.out.cell (x0) (by omega)
              have fj := Q.out.frz (by omega) (o + (x0))
              replace T := Lib.hid (T.out.trans (still_sc wq g (o + (x0)) (.int .u32 (vi : Nat))))
              have Q2 := Lib.hid (Q.out.set (x0) (by omega) vi)
              go_upto_region 21 with (fail)
              clear zj fj Q
              generalize wq.setCell _ _ = w8 at *
              have Q := Q2
              clear Q2
              go_wp2_with fail
              go_roundg (b - (x + 1))
              case measure => omega
              case rel => exact ⟨x + 1, rfl, by omega, by omega, by first | rfl | (push_cast; rfl), Q, T⟩
             ·rw [decide_eq_false hlt, Bool.not_false]
              go_wp2_with fail
              go_roundg (5 - (s + 1))
              case measure => omega
              case rel => exact ⟨p1, s + 1, rfl, by omega, by omega, by omega, rfl, by first | rfl | (push_cast; rfl), Q, T⟩
            ·have d : decide ((x : Int) < (b : Int)) = false := by simp; omega
             go_wp2_with fail
             go_roundg (5 - (s + 1))
             case measure => omega
             case rel => exact ⟨p1, s + 1, rfl, by omega, by omega, by omega, rfl, by first | rfl | (push_cast; rfl), Q, T⟩
          ·have d2 : decide ((2 : Int) ≤ (br : Int)) = false := by simp; omega
           go_wp2_with fail
           go_roundg (5 - (s + 1))
           case measure => omega
           case rel => exact ⟨p1, s + 1, rfl, by omega, by omega, by omega, rfl, by first | rfl | (push_cast; rfl), Q, T⟩
       ·have da : decide ((2 : Int) ≤ (pa : Int)) = false := by simp; omega
        go_upto_region 18 with (fail)
        obtain ⟨br, hbr⟩ : ∃ x, b - p1 = x := ⟨_, rfl⟩
        have ebr : (b : Int) - (p1 : Int) = (br : Int) := by omega
        by_cases hb2 : 2 ≤ br
        ·have d2 : decide ((2 : Int) ≤ (br : Int)) = true := by simp; omega
         obtain ⟨x2, hx2⟩ : ∃ x, p1 + 1 = x := ⟨_, rfl⟩
         have ex2 : (p1 : Int) + 1 = (x2 : Int) := by omega
         have hx2g : 1 ≤ x2 ∧ x2 ≤ b := by omega
         replace hx2 := Lib.hid hx2
         go_upto_region 20 with (fail)
         go_loopg [10] (b - x2) (fun m' i wx => ∃ (x : Nat), m' = b - x ∧ x2 ≤ x ∧ x ≤ b ∧ i = .int .i64 (x : Nat) ∧ Hid (SR wx base g o n cap) ∧ Hid (Still [g] w wx))
         case atStart => exact ⟨x2, rfl, by omega, by omega, rfl, Q, T⟩
         case round =>
          clear Q T
          obtain ⟨x, rfl, hx1, hx2b, rfl, Q, T⟩ := hrel
          by_cases hxb : x < b
          ·have d : decide ((x : Int) < (b : Int)) = true := by simp; omega
           obtain ⟨x0, hx0⟩ : ∃ z, x = z + 1 := ⟨x - 1, by omega⟩
           have ex0 : (x : Int) - 1 = (x0 : Int) := by omega
           have hx0n : x0 < n := by omega
           have hxn : x < n := by omega
           replace hx0 := Lib.hid hx0
           go_upto_region 22 with (fail)
           obtain ⟨vi, ci⟩ := Q.out.cell (x) (by omega)
           obtain ⟨vj, cj⟩ := Q.out.cell (x0) (by omega)
           have mi : ∀ y : LaterS [] wr, _ := fun y => y.bw.cell ci
           have mj : ∀ y : LaterS [] wr, _ := fun y => y.bw.cell cj
           clear ci cj
           refine wp_region_gg [] [] [] (by kernel_rfl) ?_
           refine hoist [] [] (a1 := ?_) 0 rfl (by kernel_rfl) (.inl ⟨rfl, rfl⟩) rfl rfl rfl (fun x K hK => ?_) ?_
           rotate_left
           ·go_big_quiet_op
            exact hK
           refine hoist [] [] (a1 := ?_) 1 rfl (by kernel_rfl) (.inl ⟨rfl, rfl⟩) rfl rfl rfl (fun x K hK => ?_) ?_
           rotate_left
           ·go_big_quiet_op
            exact hK
           refine hoist [] [] (a1 := ?_) 2 rfl (by kernel_rfl) (.inl ⟨rfl, rfl⟩) rfl rfl rfl (fun x K hK => ?_) ?_
           rotate_left
           ·go_big_quiet_op
            exact hK
           refine hoist [] [] (a1 := ?_) 3 rfl (by kernel_rfl) (.inl ⟨rfl, rfl⟩) rfl rfl rfl (fun x K hK => ?_) ?_
           rotate_left
           ·go_big_quiet_op
            exact hK
           refine hoist [] [] (a1 := ?_) 4 rfl (by kernel_rfl) (.inl ⟨rfl, rfl⟩) rfl rfl rfl (fun x K hK => ?_) ?_
           rotate_left
           ·go_big_quiet_op
            exact hK
           refine hoist [] [] (a1 := ?_) 5 rfl (by kernel_rfl) (.inl ⟨rfl, rfl⟩) rfl rfl rfl (fun x K hK => ?_) ?_
           rotate_left
           ·go_big_quiet_op
            exact hK
           refine hoist [] [] (a1 := ?_) 6 rfl (by kernel_rfl) (.inl ⟨rfl, rfl⟩) rfl rfl rfl (fun x K hK => ?_) ?_
           rotate_left
           ·go_big_quiet_op
            exact hK
           refine hoist [] [] (a1 := ?_) 7 rfl (by kernel_rfl) (.inl ⟨rfl, rfl⟩) rfl rfl rfl (fun x K hK => ?_) ?_
           rotate_left
           ·go_big_quiet_op
            exact hK
           refine hoist [] [] (a1 := ?_) 8 rfl (by kernel_rfl) (.inl ⟨rfl, rfl⟩) rfl rfl rfl (fun x K hK => ?_) ?_
           rotate_left
           ·go_big_quiet_op
            exact hK
           refine effect 9 rfl (by kernel_rfl) (by kernel_rfl) rfl (fun x9 K hK => ?_)
           go_simp
           refine Calls.mono (less_any vi vj x9.now) ?_
           rintro e wl ⟨rfl, hb⟩
           refine hK _ _ (hb.still _) ?_
           clear hK K mi mj
           have b2 := Lib.hid (x9.bw.trans hb)
           clear hb
           try simp only [Act.put, List.setIfInBounds_toArray, List.set_cons_succ, List.set_cons_zero]
           refine hoist [] [] (a1 := ?_) 10 rfl (by kernel_rfl) (.inl ⟨rfl, rfl⟩) rfl rfl rfl (fun x K hK => ?_) ?_
           rotate_left
           ·go_big_quiet_op
            exact hK
           refine done (by kernel_rfl) (fun xr => ?_)
           have hb := b2.out.trans xr.bw
           replace Q := Lib.hid (Q.out.bw hb)
           replace T := Lib.hid (T.out.trans (hb.still [g]))
           clear hb b2
           generalize xr.now = w6 at *
           clear xr
           by_cases hlt : vi < vj
           ·rw [decide_eq_true hlt, Bool.not_true]
            go_upto_region 23 with (fail)
            obtain ⟨vi, ci⟩ := Q.out.cell (x) (by omega)
            obtain ⟨vj, cj⟩ := Q.out.cell (x0) (by omega)
            have mi : ∀ y : LaterS [] w6, _ := fun y => y.bw.cell ci
            have mj : ∀ y : LaterS [] w6, _ := fun y => y.bw.cell cj
            clear ci cj
            refine wp_region_gg ([g]) [15] [16] (by kernel_rfl) ?_
            refine hoist [] [15] (a1 := ?_) 0 rfl (by kernel_rfl) (.inl ⟨rfl, rfl⟩) rfl rfl rfl (fun x K hK => ?_) ?_
            rotate_left
            ·go_big_quiet_op
             exact hK
            refine hoist [] [15] (a1 := ?_) 1 rfl (by kernel_rfl) (.inl ⟨rfl, rfl⟩) rfl rfl rfl (fun x K hK => ?_) ?_
            rotate_left
            ·go_big_quiet_op
             exact hK
            refine hoist ([g]) [] (a1 := ?_) 2 rfl (by kernel_rfl) (.inr rfl) rfl rfl rfl (fun x K hK => ?_) ?_
            rotate_left
            ·go_big_quiet_op
             exact hK
            refine hoist ([g]) [] (a1 := ?_) 3 rfl (by kernel_rfl) (.inr rfl) rfl rfl rfl (fun x K hK => ?_) ?_
            rotate_left
            ·go_big_quiet_op
             exact hK
            refine hoist ([g]) [] (a1 := ?_) 4 rfl (by kernel_rfl) (.inr rfl) rfl rfl rfl (fun x K hK => ?_) ?_
            rotate_left
            ·go_big_quiet_op
             exact hK
            refine hoist [] [15] (a1 := ?_) 5 rfl (by kernel_rfl) (.inl ⟨rfl, rfl⟩) rfl rfl rfl (fun x K hK => ?_) ?_
            rotate_left
            ·go_big_quiet_op
             exact hK
            refine hoist [] [15] (a1 := ?_) 6 rfl (by kernel_rfl) (.inl ⟨rfl, rfl⟩) rfl rfl rfl (fun x K hK => ?_) ?_
            rotate_left
            ·go_big_quiet_op
             exact hK
            refine hoist [] [15] (a1 := ?_) 7 rfl (by kernel_rfl) (.inl ⟨rfl, rfl⟩) rfl rfl rfl (fun x K hK => ?_) ?_
            rotate_left
            ·go_big_quiet_op
             exact hK
            refine hoist [] [15] (a1 := ?_) 8 rfl (by kernel_rfl) (.inl ⟨rfl, rfl⟩) rfl rfl rfl (fun x K hK => ?_) ?_
            rotate_left
            ·go_big_quiet_op
             exact hK
            refine hoist [] [15] (a1 := ?_) 9 rfl (by kernel_rfl) (.inl ⟨rfl, rfl⟩) rfl rfl rfl (fun x K hK => ?_) ?_
            rotate_left
            ·go_big_quiet_op
             exact hK
            refine hoist [] [15] (a1 := ?_) 10 rfl (by kernel_rfl) (.inl ⟨rfl, rfl⟩) rfl rfl rfl (fun x K hK => ?_) ?_
            rotate_left
            ·go_big_quiet_op
             exact hK
            refine hoist [] [15] (a1 := ?_) 11 rfl (by kernel_rfl) (.inl ⟨rfl, rfl⟩) rfl rfl rfl (fun x K hK => ?_) ?_
            rotate_left
            ·go_big_quiet_op
             exact hK
            refine hoist [] [15] (a1 := ?_) 12 rfl (by kernel_rfl) (.inl ⟨rfl, rfl⟩) rfl rfl rfl (fun x K hK => ?_) ?_
            rotate_left
            ·go_big_quiet_op
             exact hK
            refine hoist [] [15] (a1 := ?_) 13 rfl (by kernel_rfl) (.inl ⟨rfl, rfl⟩) rfl rfl rfl (fun x K hK => ?_) ?_
            rotate_left
            ·go_big_quiet_op
             exact hK
            refine hoist [] [15] (a1 := ?_) 14 rfl (by kernel_rfl) (.inl ⟨rfl, rfl⟩) rfl rfl rfl (fun x K hK => ?_) ?_
            rotate_left
            ·go_big_quiet_op
             exact hK
            refine effect 15 rfl (by kernel_rfl) (by kernel_rfl) rfl (fun x15 K hK => ?_)
            have Qx := Lib.hid (Q.out.bw x15.bw)
            obtain ⟨zz, zi⟩ := Qx.out.cell (x) (by omega)
            have fi := Qx.out.frz (by omega) (o + (x))
            replace T := Lib.hid (T.out.trans ((x15.bw.still [g]).trans (still_sc x15.now g (o + (x)) (.int .u32 (vj : Nat)))))
            have Q1 := Lib.hid (Qx.out.set (x) (by omega) vj)
            go_simp
            refine hK _ _ (still_sc x15.now g (o + (x)) (.int .u32 (vj : Nat))) ?_
            clear hK K mi mj zi fi Qx Q
            generalize x15.now.setCell _ _ = wy at *
            try simp only [Act.put, List.setIfInBounds_toArray, List.set_cons_succ, List.set_cons_zero]
            refine tail 16 rfl (by kernel_rfl) rfl (fun xr => ?_)
            simp only [List.drop_succ_cons, List.drop_zero]
            have Q := Lib.hid (Q1.out.bw xr.bw)
            clear Q1
            replace T := Lib.hid (T.out.trans (xr.bw.still [g]))
            generalize xr.now = wq at *
            clear xr
            obtain ⟨zz2, zj⟩ := Q.out.cell (x0) (by omega)
            have fj := Q.out.frz (by omega) (o + (x0))
            replace T := Lib.hid (T.out.trans (still_sc wq g (o + (x0)) (.int .u32 (vi : Nat))))
            have Q2 := Lib.hid (Q.out.set (x0) (by omega) vi)
            go_upto_region 21 with (fail)
            clear zj fj Q
            generalize wq.setCell _ _ = w8 at *
            have Q := Q2
            clear Q2
            go_wp2_with fail
            go_roundg (b - (x + 1))
            case measure => omega
            case rel => exact ⟨x + 1, rfl, by omega, by omega, by first | rfl | (push_cast; rfl), Q, T⟩
           ·rw [decide_eq_false hlt, Bool.not_false]
            go_wp2_with fail
            go_roundg (5 - (s + 1))
            case measure => omega
            case rel => exact ⟨p1, s + 1, rfl, by omega, by omega, by omega, rfl, by first | rfl | (push_cast; rfl), Q, T⟩
          ·have d : decide ((x : Int) < (b : Int)) = false := by simp; omega
           go_wp2_with fail
           go_roundg (5 - (s + 1))
           case measure => omega
           case rel => exact ⟨p1, s + 1, rfl, by omega, by omega, by omega, rfl, by first | rfl | (push_cast; rfl), Q, T⟩
        ·have d2 : decide ((2 : Int) ≤ (br : Int)) = false := by simp; omega
         go_wp2_with fail
         go_roundg (5 - (s + 1))
         case measure => omega
         case rel => exact ⟨p1, s + 1, rfl, by omega, by omega, by omega, rfl, by first | rfl | (push_cast; rfl), Q, T⟩
     ·rw [decide_eq_false hlt, Bool.not_false]
      go_wp2_with fail
      go_roundg (b - (p1 + 1))
      case measure => omega
      case rel => exact ⟨p1 + 1, rfl, by omega, by omega, by first | rfl | (push_cast; rfl), Q, T⟩
    ·have d : decide ((p1 : Int) < (b : Int)) = false := by simp; omega
     go_upto_region 5 with (fail)
     refine wp_region_gg [] [] [] (by kernel_rfl) ?_
     refine hoist [] [] (a1 := ?_) 0 rfl (by kernel_rfl) (.inl ⟨rfl, rfl⟩) rfl rfl rfl (fun x K hK => ?_) ?_
     rotate_left
     ·go_big_quiet_op
      exact hK
     refine hoist [] [] (a1 := ?_) 1 rfl (by kernel_rfl) (.inl ⟨rfl, rfl⟩) rfl rfl rfl (fun x K hK => ?_) ?_
     rotate_left
     ·go_big_quiet_op
      exact hK
     refine hoist [] [] (a1 := ?_) 2 rfl (by kernel_rfl) (.inl ⟨rfl, rfl⟩) rfl rfl rfl (fun x K hK => ?_) ?_
     rotate_left
     ·go_big_quiet_op
      exact hK
     refine hoist [] [] (a1 := ?_) 3 rfl (by kernel_rfl) (.inl ⟨rfl, rfl⟩) rfl rfl rfl (fun x K hK => ?_) ?_
     rotate_left
     ·go_big_quiet_op
      exact hK
     refine hoist_skip [] [] 4 rfl (by kernel_rfl) (.inl ⟨rfl, rfl⟩) rfl (a1 := ?_) ?_ ?_
     rotate_left
     ·simp only [Act.put, List.setIfInBounds_toArray, List.set_cons_succ, List.set_cons_zero]; rfl
     refine hoist_skip [] [] 5 rfl (by kernel_rfl) (.inl ⟨rfl, rfl⟩) rfl (a1 := ?_) ?_ ?_
     rotate_left
     ·simp only [Act.put, List.setIfInBounds_toArray, List.set_cons_succ, List.set_cons_zero]; rfl
     refine hoist_skip [] [] 6 rfl (by kernel_rfl) (.inl ⟨rfl, rfl⟩) rfl (a1 := ?_) ?_ ?_
     rotate_left
     ·simp only [Act.put, List.setIfInBounds_toArray, List.set_cons_succ, List.set_cons_zero]; rfl
     refine hoist_skip [] [] 7 rfl (by kernel_rfl) (.inl ⟨rfl, rfl⟩) rfl (a1 := ?_) ?_ ?_
     rotate_left
     ·simp only [Act.put, List.setIfInBounds_toArray, List.set_cons_succ, List.set_cons_zero]; rfl
     refine hoist_skip [] [] 8 rfl (by kernel_rfl) (.inl ⟨rfl, rfl⟩) rfl (a1 := ?_) ?_ ?_
     rotate_left
     ·simp only [Act.put, List.setIfInBounds_toArray, List.set_cons_succ, List.set_cons_zero]; rfl
     refine hoist_skip [] [] 9 rfl (by kernel_rfl) (.inl ⟨rfl, rfl⟩) rfl (a1 := ?_) ?_ ?_
     rotate_left
     ·simp only [Act.put, List.setIfInBounds_toArray, List.set_cons_succ, List.set_cons_zero]; rfl
     refine hoist_skip [] [] 10 rfl (by kernel_rfl) (.inl ⟨rfl, rfl⟩) rfl (a1 := ?_) ?_ ?_
     rotate_left
     ·simp only [Act.put, List.setIfInBounds_toArray, List.set_cons_succ, List.set_cons_zero]; rfl
     refine hoist_skip [] [] 11 rfl (by kernel_rfl) (.inl ⟨rfl, rfl⟩) rfl (a1 := ?_) ?_ ?_
     rotate_left
     ·simp only [Act.put, List.setIfInBounds_toArray, List.set_cons_succ, List.set_cons_zero]; rfl
     refine hoist_skip [] [] 12 rfl (by kernel_rfl) (.inl ⟨rfl, rfl⟩) rfl (a1 := ?_) ?_ ?_
     rotate_left
     ·simp only [Act.put, List.setIfInBounds_toArray, List.set_cons_succ, List.set_cons_zero]; rfl
     refine hoist_skip [] [] 13 rfl (by kernel_rfl) (.inl ⟨rfl, rfl⟩) rfl (a1 := ?_) ?_ ?_
     rotate_left
     ·simp only [Act.put, List.setIfInBounds_toArray, List.set_cons_succ, List.set_cons_zero]; rfl
     refine hoist_skip [] [] 14 rfl (by kernel_rfl) (.inl ⟨rfl, rfl⟩) rfl (a1 := ?_) ?_ ?_
     rotate_left
     ·simp only [Act.put, List.setIfInBounds_toArray, List.set_cons_succ, List.set_cons_zero]; rfl
     refine hoist [] [] (a1 := ?_) 15 rfl (by kernel_rfl) (.inl ⟨rfl, rfl⟩) rfl rfl rfl (fun x K hK => ?_) ?_
     rotate_left
     ·go_big_quiet_op
      exact hK
     refine done (by kernel_rfl) (fun xr => ?_)
     have hb := xr.bw
     replace Q := Lib.hid (Q.out.bw hb)
     replace T := Lib.hid (T.out.trans (hb.still [g]))
     clear hb
     generalize xr.now = w3 at *
     clear xr
     clear d
     have i7 : p1 = b := by omega
     subst i7
     go_wp2_with fail
     go_ret
     exact ⟨_, rfl, Q.out, T.out⟩
  ·have ds : decide ((s : Int) < 5) = false := by simp; omega
   go_wp2_with fail
   go_ret
   exact ⟨_, rfl, Q.out, T.out⟩
end Go.Proofs.YtafhnlnhflehhaaGreatDoor
