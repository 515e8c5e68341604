/- slices: partitionEqual, partition of numbers of 32 bits: the row stays a row, the place stays within (printed by wip/gen/genOfH.py). No condition but the sizes'. -/
import Derived.Test.YtafhnlnhflehhaaGreatDoorOfG
namespace Go.Proofs.YtafhnlnhflehhaaGreatDoor
open Go.RowKit
def PeqR (w w' : World) (base g o n cap a b : Nat) (e : Ending) : Prop := ∃ x : Nat, a < x ∧ x ≤ b ∧ e = .returned (.int .i64 (x : Nat)) ∧ SR w' base g o n cap ∧ Still [g] w w'
set_option maxRecDepth 100000 in
set_option maxHeartbeats 8000000 in
theorem peq_any (base g o n cap a b pv : Nat) (hap : a ≤ pv) (hpb : pv < b) (hbn : b ≤ n) (hn : n ≤ 1000000) (w : World) (h : SR w base g o n cap) :
  Calls Tryz.prog 86 #[.slice (some ⟨g, o, none⟩) n cap, .int .i64 (a : Nat), .int .i64 (b : Nat), .int .i64 (pv : Nat)] w fun e w' => PeqR w w' base g o n cap a b e := by
 have hcm : cap ≤ 9223372036854775807 ∧ n ≤ cap := by
  obtain ⟨l, q⟩ := h
  obtain ⟨_, _, he, hcn, hcm⟩ := q.len
  cases he
  exact ⟨hcm, hcn⟩
 obtain ⟨hcm, hcn⟩ := hcm
 have Q := Lib.hid h
 have T := Lib.hid (Still.refl [g] w)
 clear h
 go_enter Tryz.func86, Tryz.ntmps86
 obtain ⟨b1, hb1⟩ : ∃ b1, b = b1 + 1 := ⟨b - 1, by omega⟩
 have eb : (b : Int) - 1 = (b1 : Int) := by omega
 obtain ⟨a1, ha1⟩ : ∃ a1, a + 1 = a1 := ⟨_, rfl⟩
 have ea : (a : Int) + 1 = (a1 : Int) := by omega
 have hb1a : a ≤ b1 ∧ b1 + 1 ≤ b ∧ a1 ≤ b := by omega
 replace hb1 := Lib.hid hb1
 replace ha1 := Lib.hid ha1
 go_upto_region 1 with (fail)
 have hpn : pv < n := by omega
 have han0 : a < n := by omega
 obtain ⟨vi, ci⟩ := Q.out.cell (a) (by omega)
 obtain ⟨vj, cj⟩ := Q.out.cell (pv) (by omega)
 have mi : ∀ y : LaterS [] w, _ := fun y => y.bw.cell ci
 have mj : ∀ y : LaterS [] w, _ := fun y => y.bw.cell cj
 clear ci cj
 refine wp_region_gg ([g]) [13] [14] (by kernel_rfl) ?_
 refine hoist [] [13] (a1 := ?_) 0 rfl (by kernel_rfl) (.inl ⟨rfl, rfl⟩) rfl rfl rfl (fun x K hK => ?_) ?_
 rotate_left
 ·go_big_quiet_op
  exact hK
 refine hoist [] [13] (a1 := ?_) 1 rfl (by kernel_rfl) (.inl ⟨rfl, rfl⟩) rfl rfl rfl (fun x K hK => ?_) ?_
 rotate_left
 ·go_big_quiet_op
  exact hK
 refine hoist ([g]) [] (a1 := ?_) 2 rfl (by kernel_rfl) (.inr rfl) rfl rfl rfl (fun x K hK => ?_) ?_
 rotate_left
 ·go_big_quiet_op
  exact hK
 refine hoist ([g]) [] (a1 := ?_) 3 rfl (by kernel_rfl) (.inr rfl) rfl rfl rfl (fun x K hK => ?_) ?_
 rotate_left
 ·go_big_quiet_op
  exact hK
 refine hoist [] [13] (a1 := ?_) 4 rfl (by kernel_rfl) (.inl ⟨rfl, rfl⟩) rfl rfl rfl (fun x K hK => ?_) ?_
 rotate_left
 ·go_big_quiet_op
  exact hK
 refine hoist [] [13] (a1 := ?_) 5 rfl (by kernel_rfl) (.inl ⟨rfl, rfl⟩) rfl rfl rfl (fun x K hK => ?_) ?_
 rotate_left
 ·go_big_quiet_op
  exact hK
 refine hoist [] [13] (a1 := ?_) 6 rfl (by kernel_rfl) (.inl ⟨rfl, rfl⟩) rfl rfl rfl (fun x K hK => ?_) ?_
 rotate_left
 ·go_big_quiet_op
  exact hK
 refine hoist [] [13] (a1 := ?_) 7 rfl (by kernel_rfl) (.inl ⟨rfl, rfl⟩) rfl rfl rfl (fun x K hK => ?_) ?_
 rotate_left
 ·go_big_quiet_op
  exact hK
 refine hoist [] [13] (a1 := ?_) 8 rfl (by kernel_rfl) (.inl ⟨rfl, rfl⟩) rfl rfl rfl (fun x K hK => ?_) ?_
 rotate_left
 ·go_big_quiet_op
  exact hK
 refine hoist [] [13] (a1 := ?_) 9 rfl (by kernel_rfl) (.inl ⟨rfl, rfl⟩) rfl rfl rfl (fun x K hK => ?_) ?_
 rotate_left
 ·go_big_quiet_op
  exact hK
 refine hoist [] [13] (a1 := ?_) 10 rfl (by kernel_rfl) (.inl ⟨rfl, rfl⟩) rfl rfl rfl (fun x K hK => ?_) ?_
 rotate_left
 ·go_big_quiet_op
  exact hK
 refine hoist [] [13] (a1 := ?_) 11 rfl (by kernel_rfl) (.inl ⟨rfl, rfl⟩) rfl rfl rfl (fun x K hK => ?_) ?_
 rotate_left
 ·go_big_quiet_op
  exact hK
 refine hoist [] [13] (a1 := ?_) 12 rfl (by kernel_rfl) (.inl ⟨rfl, rfl⟩) rfl rfl rfl (fun x K hK => ?_) ?_
 rotate_left
 ·go_big_quiet_op
  exact hK
 refine effect 13 rfl (by kernel_rfl) (by kernel_rfl) rfl (fun x13 K hK => ?_)
 have Qx := Lib.hid (Q.out.bw x13.bw)
 obtain ⟨zz, zi⟩ := Qx.out.cell (a) (by omega)
 have fi := Qx.out.frz (by omega) (o + (a))
 replace T := Lib.hid (T.out.trans ((x13.bw.still [g]).trans (still_sc x13.now g (o + (a)) (.int .u32 (vj : Nat)))))
 have Q1 := Lib.hid (Qx.out.set (a) (by omega) vj)
 go_simp
 refine hK _ _ (still_sc x13.now g (o + (a)) (.int .u32 (vj : Nat))) ?_
 clear hK K mi mj zi fi Qx Q
 generalize x13.now.setCell _ _ = wy at *
 try simp only [Act.put, List.setIfInBounds_toArray, List.set_cons_succ, List.set_cons_zero]
 refine tail 14 rfl (by kernel_rfl) rfl (fun xr => ?_)
 simp only [List.drop_succ_cons, List.drop_zero]
 have Q := Lib.hid (Q1.out.bw xr.bw)
 clear Q1
 replace T := Lib.hid (T.out.trans (xr.bw.still [g]))
 generalize xr.now = wq at *
 clear xr
 obtain ⟨zz2, zj⟩ := Q.out.cell (pv) (by omega)
 have fj := Q.out.frz (by omega) (o + (pv))
 replace T := Lib.hid (T.out.trans (still_sc wq g (o + (pv)) (.int .u32 (vi : Nat))))
 have Q2 := Lib.hid (Q.out.set (pv) (by omega) vi)
 go_upto_region 2 with (fail)
 clear zj fj Q
 generalize wq.setCell _ _ = w1 at *
 have Q := Q2
 clear Q2
 go_upto_region 3 with (fail)
 go_loopg [9, 10] (b1 + 1 - a1) (fun m' i j wx => ∃ (p q : Nat), m' = q + 1 - p ∧ a + 1 ≤ p ∧ p ≤ b ∧ a ≤ q ∧ q + 1 ≤ b ∧ i = .int .i64 (p : Nat) ∧ j = .int .i64 (q : Nat) ∧ Hid (SR wx base g o n cap) ∧ Hid (Still [g] w wx))
 case atStart => exact ⟨a1, b1, rfl, by have := ha1.out; omega, by omega, by omega, by omega, rfl, rfl, Q, T⟩
 case round =>
  clear Q T eb ea
  obtain ⟨p, q, rfl, hp, hpb2, hq, hqb, rfl, rfl, Q, T⟩ := hrel
  go_upto_region 3 with (fail)
  go_loopg [9] (q + 1 - p) (fun m' i wx => ∃ (p' : Nat), m' = q + 1 - p' ∧ p ≤ p' ∧ p' ≤ b ∧ i = .int .i64 (p' : Nat) ∧ Hid (SR wx base g o n cap) ∧ Hid (Still [g] w wx))
  case atStart => exact ⟨p, rfl, by omega, by omega, rfl, Q, T⟩
  case round =>
   clear Q T
   obtain ⟨p1, rfl, hp1l, hp1b, rfl, Q, T⟩ := hrel
   by_cases hpq : p1 ≤ q
   ·have d : decide ((p1 : Int) ≤ (q : Int)) = true := by simp; omega
    have hxn : p1 < n := by omega
    have hyn : q < n := by omega
    have han : a < n := by omega
    go_upto_region 3 with (fail)
    obtain ⟨vi, ci⟩ := Q.out.cell (a) (by omega)
    obtain ⟨vj, cj⟩ := Q.out.cell (p1) (by omega)
    have mi : ∀ y : LaterS [] wr, _ := fun y => y.bw.cell ci
    have mj : ∀ y : LaterS [] wr, _ := fun y => y.bw.cell cj
    clear ci cj
    refine wp_region_gg [] [] [] (by kernel_rfl) ?_
    refine hoist [] [] (a1 := ?_) 0 rfl (by kernel_rfl) (.inl ⟨rfl, rfl⟩) rfl rfl rfl (fun x K hK => ?_) ?_
    rotate_left
    ·go_big_quiet_op
     exact hK
    refine hoist [] [] (a1 := ?_) 1 rfl (by kernel_rfl) (.inl ⟨rfl, rfl⟩) rfl rfl rfl (fun x K hK => ?_) ?_
    rotate_left
    ·go_big_quiet_op
     exact hK
    refine hoist [] [] (a1 := ?_) 2 rfl (by kernel_rfl) (.inl ⟨rfl, rfl⟩) rfl rfl rfl (fun x K hK => ?_) ?_
    rotate_left
    ·go_big_quiet_op
     exact hK
    refine hoist [] [] (a1 := ?_) 3 rfl (by kernel_rfl) (.inl ⟨rfl, rfl⟩) rfl rfl rfl (fun x K hK => ?_) ?_
    rotate_left
    ·go_big_quiet_op
     exact hK
    refine hoist [] [] (a1 := ?_) 4 rfl (by kernel_rfl) (.inl ⟨rfl, rfl⟩) rfl rfl rfl (fun x K hK => ?_) ?_
    rotate_left
    ·go_big_quiet_op
     exact hK
    refine hoist [] [] (a1 := ?_) 5 rfl (by kernel_rfl) (.inl ⟨rfl, rfl⟩) rfl rfl rfl (fun x K hK => ?_) ?_
    rotate_left
    ·go_big_quiet_op
     exact hK
    refine hoist [] [] (a1 := ?_) 6 rfl (by kernel_rfl) (.inl ⟨rfl, rfl⟩) rfl rfl rfl (fun x K hK => ?_) ?_
    rotate_left
    ·go_big_quiet_op
     exact hK
    refine hoist [] [] (a1 := ?_) 7 rfl (by kernel_rfl) (.inl ⟨rfl, rfl⟩) rfl rfl rfl (fun x K hK => ?_) ?_
    rotate_left
    ·go_big_quiet_op
     exact hK
    refine hoist [] [] (a1 := ?_) 8 rfl (by kernel_rfl) (.inl ⟨rfl, rfl⟩) rfl rfl rfl (fun x K hK => ?_) ?_
    rotate_left
    ·go_big_quiet_op
     exact hK
    refine hoist [] [] (a1 := ?_) 9 rfl (by kernel_rfl) (.inl ⟨rfl, rfl⟩) rfl rfl rfl (fun x K hK => ?_) ?_
    rotate_left
    ·go_big_quiet_op
     exact hK
    refine hoist [] [] (a1 := ?_) 10 rfl (by kernel_rfl) (.inl ⟨rfl, rfl⟩) rfl rfl rfl (fun x K hK => ?_) ?_
    rotate_left
    ·go_big_quiet_op
     exact hK
    refine hoist [] [] (a1 := ?_) 11 rfl (by kernel_rfl) (.inl ⟨rfl, rfl⟩) rfl rfl rfl (fun x K hK => ?_) ?_
    rotate_left
    ·go_big_quiet_op
     exact hK
    refine effect 12 rfl (by kernel_rfl) (by kernel_rfl) rfl (fun x12 K hK => ?_)
    go_simp
    refine Calls.mono (less_any vi vj x12.now) ?_
    rintro e wl ⟨rfl, hb⟩
    refine hK _ _ (hb.still _) ?_
    clear hK K mi mj
    have b2 := Lib.hid (x12.bw.trans hb)
    clear hb
    try simp only [Act.put, List.setIfInBounds_toArray, List.set_cons_succ, List.set_cons_zero]
    refine hoist [] [] (a1 := ?_) 13 rfl (by kernel_rfl) (.inl ⟨rfl, rfl⟩) rfl rfl rfl (fun x K hK => ?_) ?_
    rotate_left
    ·go_big_quiet_op
     exact hK
    refine hoist [] [] (a1 := ?_) 14 rfl (by kernel_rfl) (.inl ⟨rfl, rfl⟩) rfl rfl rfl (fun x K hK => ?_) ?_
    rotate_left
    ·go_big_quiet_op
     exact hK
    refine done (by kernel_rfl) (fun xr => ?_)
    have hb := b2.out.trans xr.bw
    replace Q := Lib.hid (Q.out.bw hb)
    replace T := Lib.hid (T.out.trans (hb.still [g]))
    clear hb b2
    generalize xr.now = w3 at *
    clear xr
    clear d
    by_cases hlt : vi < vj
    ·rw [decide_eq_true hlt, Bool.not_true]
     go_upto_region 5 with (fail)
     go_loopg [10] (q + 1 - p1) (fun m' i wx => ∃ (q' : Nat), m' = q' + 1 - p1 ∧ a ≤ q' ∧ q' ≤ q ∧ i = .int .i64 (q' : Nat) ∧ Hid (SR wx base g o n cap) ∧ Hid (Still [g] w wx))
     case atStart => exact ⟨q, rfl, by omega, by omega, rfl, Q, T⟩
     case round =>
      clear Q T
      obtain ⟨q1, rfl, hq1l, hq1b, rfl, Q, T⟩ := hrel
      by_cases hpq : p1 ≤ q1
      ·have d : decide ((p1 : Int) ≤ (q1 : Int)) = true := by simp; omega
       obtain ⟨q0, hq0⟩ : ∃ q0, q1 = q0 + 1 := ⟨q1 - 1, by omega⟩
       have eq0 : (q1 : Int) - 1 = (q0 : Int) := by omega
       replace hq0 := Lib.hid hq0
       have hxn : p1 < n := by omega
       have hyn : q1 < n := by omega
       have han : a < n := by omega
       go_upto_region 5 with (fail)
       obtain ⟨vi, ci⟩ := Q.out.cell (a) (by omega)
       obtain ⟨vj, cj⟩ := Q.out.cell (q1) (by omega)
       have mi : ∀ y : LaterS [] wr, _ := fun y => y.bw.cell ci
       have mj : ∀ y : LaterS [] wr, _ := fun y => y.bw.cell cj
       clear ci cj
       refine wp_region_gg [] [] [] (by kernel_rfl) ?_
       refine hoist [] [] (a1 := ?_) 0 rfl (by kernel_rfl) (.inl ⟨rfl, rfl⟩) rfl rfl rfl (fun x K hK => ?_) ?_
       rotate_left
       ·go_big_quiet_op
        exact hK
       refine hoist [] [] (a1 := ?_) 1 rfl (by kernel_rfl) (.inl ⟨rfl, rfl⟩) rfl rfl rfl (fun x K hK => ?_) ?_
       rotate_left
       ·go_big_quiet_op
        exact hK
       refine hoist [] [] (a1 := ?_) 2 rfl (by kernel_rfl) (.inl ⟨rfl, rfl⟩) rfl rfl rfl (fun x K hK => ?_) ?_
       rotate_left
       ·go_big_quiet_op
        exact hK
       refine hoist [] [] (a1 := ?_) 3 rfl (by kernel_rfl) (.inl ⟨rfl, rfl⟩) rfl rfl rfl (fun x K hK => ?_) ?_
       rotate_left
       ·go_big_quiet_op
        exact hK
       refine hoist [] [] (a1 := ?_) 4 rfl (by kernel_rfl) (.inl ⟨rfl, rfl⟩) rfl rfl rfl (fun x K hK => ?_) ?_
       rotate_left
       ·go_big_quiet_op
        exact hK
       refine hoist [] [] (a1 := ?_) 5 rfl (by kernel_rfl) (.inl ⟨rfl, rfl⟩) rfl rfl rfl (fun x K hK => ?_) ?_
       rotate_left
       ·go_big_quiet_op
        exact hK
       refine hoist [] [] (a1 := ?_) 6 rfl (by kernel_rfl) (.inl ⟨rfl, rfl⟩) rfl rfl rfl (fun x K hK => ?_) ?_
       rotate_left
       ·go_big_quiet_op
        exact hK
       refine hoist [] [] (a1 := ?_) 7 rfl (by kernel_rfl) (.inl ⟨rfl, rfl⟩) rfl rfl rfl (fun x K hK => ?_) ?_
       rotate_left
       ·go_big_quiet_op
        exact hK
       refine hoist [] [] (a1 := ?_) 8 rfl (by kernel_rfl) (.inl ⟨rfl, rfl⟩) rfl rfl rfl (fun x K hK => ?_) ?_
       rotate_left
       ·go_big_quiet_op
        exact hK
       refine hoist [] [] (a1 := ?_) 9 rfl (by kernel_rfl) (.inl ⟨rfl, rfl⟩) rfl rfl rfl (fun x K hK => ?_) ?_
       rotate_left
       ·go_big_quiet_op
        exact hK
       refine hoist [] [] (a1 := ?_) 10 rfl (by kernel_rfl) (.inl ⟨rfl, rfl⟩) rfl rfl rfl (fun x K hK => ?_) ?_
       rotate_left
       ·go_big_quiet_op
        exact hK
       refine hoist [] [] (a1 := ?_) 11 rfl (by kernel_rfl) (.inl ⟨rfl, rfl⟩) rfl rfl rfl (fun x K hK => ?_) ?_
       rotate_left
       ·go_big_quiet_op
        exact hK
       refine effect 12 rfl (by kernel_rfl) (by kernel_rfl) rfl (fun x12 K hK => ?_)
       go_simp
       refine Calls.mono (less_any vi vj x12.now) ?_
       rintro e wl ⟨rfl, hb⟩
       refine hK _ _ (hb.still _) ?_
       clear hK K mi mj
       have b2 := Lib.hid (x12.bw.trans hb)
       clear hb
       try simp only [Act.put, List.setIfInBounds_toArray, List.set_cons_succ, List.set_cons_zero]
       refine hoist [] [] (a1 := ?_) 13 rfl (by kernel_rfl) (.inl ⟨rfl, rfl⟩) rfl rfl rfl (fun x K hK => ?_) ?_
       rotate_left
       ·go_big_quiet_op
        exact hK
       refine done (by kernel_rfl) (fun xr => ?_)
       have hb := b2.out.trans xr.bw
       replace Q := Lib.hid (Q.out.bw hb)
       replace T := Lib.hid (T.out.trans (hb.still [g]))
       clear hb b2
       generalize xr.now = w3 at *
       clear xr
       clear d
       by_cases hlt : vi < vj
       ·rw [decide_eq_true hlt]
        go_wp2_with fail
        go_roundg (q0 + 1 - p1)
        case measure => have := hq0.out; omega
        case rel => exact ⟨q0, rfl, by have := hq0.out; omega, by have := hq0.out; omega, by first | rfl | (congr 1; omega), Q, T⟩
       ·rw [decide_eq_false hlt]
        have d7 : decide ((q1 : Int) < (p1 : Int)) = false := by simp; omega
        obtain ⟨q0, hq0⟩ : ∃ q0, q1 = q0 + 1 := ⟨q1 - 1, by omega⟩
        have eq0 : (q1 : Int) - 1 = (q0 : Int) := by omega
        replace hq0 := Lib.hid hq0
        go_upto_region 8 with (fail)
        obtain ⟨vi, ci⟩ := Q.out.cell (p1) (by omega)
        obtain ⟨vj, cj⟩ := Q.out.cell (q1) (by omega)
        have mi : ∀ y : LaterS [] w3, _ := fun y => y.bw.cell ci
        have mj : ∀ y : LaterS [] w3, _ := fun y => y.bw.cell cj
        clear ci cj
        refine wp_region_gg ([g]) [13] [14] (by kernel_rfl) ?_
        refine hoist [] [13] (a1 := ?_) 0 rfl (by kernel_rfl) (.inl ⟨rfl, rfl⟩) rfl rfl rfl (fun x K hK => ?_) ?_
        rotate_left
        ·go_big_quiet_op
         exact hK
        refine hoist [] [13] (a1 := ?_) 1 rfl (by kernel_rfl) (.inl ⟨rfl, rfl⟩) rfl rfl rfl (fun x K hK => ?_) ?_
        rotate_left
        ·go_big_quiet_op
         exact hK
        refine hoist ([g]) [] (a1 := ?_) 2 rfl (by kernel_rfl) (.inr rfl) rfl rfl rfl (fun x K hK => ?_) ?_
        rotate_left
        ·go_big_quiet_op
         exact hK
        refine hoist ([g]) [] (a1 := ?_) 3 rfl (by kernel_rfl) (.inr rfl) rfl rfl rfl (fun x K hK => ?_) ?_
        rotate_left
        ·go_big_quiet_op
         exact hK
        refine hoist [] [13] (a1 := ?_) 4 rfl (by kernel_rfl) (.inl ⟨rfl, rfl⟩) rfl rfl rfl (fun x K hK => ?_) ?_
        rotate_left
        ·go_big_quiet_op
         exact hK
        refine hoist [] [13] (a1 := ?_) 5 rfl (by kernel_rfl) (.inl ⟨rfl, rfl⟩) rfl rfl rfl (fun x K hK => ?_) ?_
        rotate_left
        ·go_big_quiet_op
         exact hK
        refine hoist [] [13] (a1 := ?_) 6 rfl (by kernel_rfl) (.inl ⟨rfl, rfl⟩) rfl rfl rfl (fun x K hK => ?_) ?_
        rotate_left
        ·go_big_quiet_op
         exact hK
        refine hoist [] [13] (a1 := ?_) 7 rfl (by kernel_rfl) (.inl ⟨rfl, rfl⟩) rfl rfl rfl (fun x K hK => ?_) ?_
        rotate_left
        ·go_big_quiet_op
         exact hK
        refine hoist [] [13] (a1 := ?_) 8 rfl (by kernel_rfl) (.inl ⟨rfl, rfl⟩) rfl rfl rfl (fun x K hK => ?_) ?_
        rotate_left
        ·go_big_quiet_op
         exact hK
        refine hoist [] [13] (a1 := ?_) 9 rfl (by kernel_rfl) (.inl ⟨rfl, rfl⟩) rfl rfl rfl (fun x K hK => ?_) ?_
        rotate_left
        ·go_big_quiet_op
         exact hK
        refine hoist [] [13] (a1 := ?_) 10 rfl (by kernel_rfl) (.inl ⟨rfl, rfl⟩) rfl rfl rfl (fun x K hK => ?_) ?_
        rotate_left
        ·go_big_quiet_op
         exact hK
        refine hoist [] [13] (a1 := ?_) 11 rfl (by kernel_rfl) (.inl ⟨rfl, rfl⟩) rfl rfl rfl (fun x K hK => ?_) ?_
        rotate_left
        ·go_big_quiet_op
         exact hK
        refine hoist [] [13] (a1 := ?_) 12 rfl (by kernel_rfl) (.inl ⟨rfl, rfl⟩) rfl rfl rfl (fun x K hK => ?_) ?_
        rotate_left
        ·go_big_quiet_op
         exact hK
        refine effect 13 rfl (by kernel_rfl) (by kernel_rfl) rfl (fun x13 K hK => ?_)
        have Qx := Lib.hid (Q.out.bw x13.bw)
        obtain ⟨zz, zi⟩ := Qx.out.cell (p1) (by omega)
        have fi := Qx.out.frz (by omega) (o + (p1))
        replace T := Lib.hid (T.out.trans ((x13.bw.still [g]).trans (still_sc x13.now g (o + (p1)) (.int .u32 (vj : Nat)))))
        have Q1 := Lib.hid (Qx.out.set (p1) (by omega) vj)
        go_simp
        refine hK _ _ (still_sc x13.now g (o + (p1)) (.int .u32 (vj : Nat))) ?_
        clear hK K mi mj zi fi Qx Q
        generalize x13.now.setCell _ _ = wy at *
        try simp only [Act.put, List.setIfInBounds_toArray, List.set_cons_succ, List.set_cons_zero]
        refine tail 14 rfl (by kernel_rfl) rfl (fun xr => ?_)
        simp only [List.drop_succ_cons, List.drop_zero]
        have Q := Lib.hid (Q1.out.bw xr.bw)
        clear Q1
        replace T := Lib.hid (T.out.trans (xr.bw.still [g]))
        generalize xr.now = wq at *
        clear xr
        obtain ⟨zz2, zj⟩ := Q.out.cell (q1) (by omega)
        have fj := Q.out.frz (by omega) (o + (q1))
        replace T := Lib.hid (T.out.trans (still_sc wq g (o + (q1)) (.int .u32 (vi : Nat))))
        have Q2 := Lib.hid (Q.out.set (q1) (by omega) vi)
        go_upto_region 9 with (fail)
        clear zj fj Q
        generalize wq.setCell _ _ = w8 at *
        have Q := Q2
        clear Q2
        go_wp2_with fail
        go_roundg (q0 + 1 - (p1 + 1))
        case measure => have := hq0.out; omega
        case rel => exact ⟨p1 + 1, q0, rfl, by omega, by omega, by have := hq0.out; omega, by have := hq0.out; omega, by first | rfl | (push_cast; rfl), by first | rfl | (congr 1; omega), Q, T⟩
      ·have d : decide ((p1 : Int) ≤ (q1 : Int)) = false := by simp; omega
       go_upto_region 5 with (fail)
       refine wp_region_gg [] [] [] (by kernel_rfl) ?_
       refine hoist [] [] (a1 := ?_) 0 rfl (by kernel_rfl) (.inl ⟨rfl, rfl⟩) rfl rfl rfl (fun x K hK => ?_) ?_
       rotate_left
       ·go_big_quiet_op
        exact hK
       refine hoist [] [] (a1 := ?_) 1 rfl (by kernel_rfl) (.inl ⟨rfl, rfl⟩) rfl rfl rfl (fun x K hK => ?_) ?_
       rotate_left
       ·go_big_quiet_op
        exact hK
       refine hoist [] [] (a1 := ?_) 2 rfl (by kernel_rfl) (.inl ⟨rfl, rfl⟩) rfl rfl rfl (fun x K hK => ?_) ?_
       rotate_left
       ·go_big_quiet_op
        exact hK
       refine hoist [] [] (a1 := ?_) 3 rfl (by kernel_rfl) (.inl ⟨rfl, rfl⟩) rfl rfl rfl (fun x K hK => ?_) ?_
       rotate_left
       ·go_big_quiet_op
        exact hK
       refine hoist_skip [] [] 4 rfl (by kernel_rfl) (.inl ⟨rfl, rfl⟩) rfl (a1 := ?_) ?_ ?_
       rotate_left
       ·simp only [Act.put, List.setIfInBounds_toArray, List.set_cons_succ, List.set_cons_zero]; rfl
       refine hoist_skip [] [] 5 rfl (by kernel_rfl) (.inl ⟨rfl, rfl⟩) rfl (a1 := ?_) ?_ ?_
       rotate_left
       ·simp only [Act.put, List.setIfInBounds_toArray, List.set_cons_succ, List.set_cons_zero]; rfl
       refine hoist_skip [] [] 6 rfl (by kernel_rfl) (.inl ⟨rfl, rfl⟩) rfl (a1 := ?_) ?_ ?_
       rotate_left
       ·simp only [Act.put, List.setIfInBounds_toArray, List.set_cons_succ, List.set_cons_zero]; rfl
       refine hoist_skip [] [] 7 rfl (by kernel_rfl) (.inl ⟨rfl, rfl⟩) rfl (a1 := ?_) ?_ ?_
       rotate_left
       ·simp only [Act.put, List.setIfInBounds_toArray, List.set_cons_succ, List.set_cons_zero]; rfl
       refine hoist_skip [] [] 8 rfl (by kernel_rfl) (.inl ⟨rfl, rfl⟩) rfl (a1 := ?_) ?_ ?_
       rotate_left
       ·simp only [Act.put, List.setIfInBounds_toArray, List.set_cons_succ, List.set_cons_zero]; rfl
       refine hoist_skip [] [] 9 rfl (by kernel_rfl) (.inl ⟨rfl, rfl⟩) rfl (a1 := ?_) ?_ ?_
       rotate_left
       ·simp only [Act.put, List.setIfInBounds_toArray, List.set_cons_succ, List.set_cons_zero]; rfl
       refine hoist_skip [] [] 10 rfl (by kernel_rfl) (.inl ⟨rfl, rfl⟩) rfl (a1 := ?_) ?_ ?_
       rotate_left
       ·simp only [Act.put, List.setIfInBounds_toArray, List.set_cons_succ, List.set_cons_zero]; rfl
       refine hoist_skip [] [] 11 rfl (by kernel_rfl) (.inl ⟨rfl, rfl⟩) rfl (a1 := ?_) ?_ ?_
       rotate_left
       ·simp only [Act.put, List.setIfInBounds_toArray, List.set_cons_succ, List.set_cons_zero]; rfl
       refine hoist_skip [] [] 12 rfl (by kernel_rfl) (.inl ⟨rfl, rfl⟩) rfl (a1 := ?_) ?_ ?_
       rotate_left
       ·simp only [Act.put, List.setIfInBounds_toArray, List.set_cons_succ, List.set_cons_zero]; rfl
       refine hoist [] [] (a1 := ?_) 13 rfl (by kernel_rfl) (.inl ⟨rfl, rfl⟩) rfl rfl rfl (fun x K hK => ?_) ?_
       rotate_left
       ·go_big_quiet_op
        exact hK
       refine done (by kernel_rfl) (fun xr => ?_)
       have hb := xr.bw
       replace Q := Lib.hid (Q.out.bw hb)
       replace T := Lib.hid (T.out.trans (hb.still [g]))
       clear hb
       generalize xr.now = w3 at *
       clear xr
       clear d
       have d7 : decide ((q1 : Int) < (p1 : Int)) = true := by simp; omega
       go_wp2_with fail
       go_ret
       exact ⟨p1, by omega, by omega, rfl, Q.out, T.out⟩
    ·rw [decide_eq_false hlt, Bool.not_false]
     go_wp2_with fail
     go_roundg (q + 1 - (p1 + 1))
     case measure => omega
     case rel => exact ⟨p1 + 1, rfl, by omega, by omega, by first | rfl | (push_cast; rfl) | (congr 1; omega), Q, T⟩
   ·have d : decide ((p1 : Int) ≤ (q : Int)) = false := by simp; omega
    go_upto_region 3 with (fail)
    refine wp_region_gg [] [] [] (by kernel_rfl) ?_
    refine hoist [] [] (a1 := ?_) 0 rfl (by kernel_rfl) (.inl ⟨rfl, rfl⟩) rfl rfl rfl (fun x K hK => ?_) ?_
    rotate_left
    ·go_big_quiet_op
     exact hK
    refine hoist [] [] (a1 := ?_) 1 rfl (by kernel_rfl) (.inl ⟨rfl, rfl⟩) rfl rfl rfl (fun x K hK => ?_) ?_
    rotate_left
    ·go_big_quiet_op
     exact hK
    refine hoist [] [] (a1 := ?_) 2 rfl (by kernel_rfl) (.inl ⟨rfl, rfl⟩) rfl rfl rfl (fun x K hK => ?_) ?_
    rotate_left
    ·go_big_quiet_op
     exact hK
    refine hoist [] [] (a1 := ?_) 3 rfl (by kernel_rfl) (.inl ⟨rfl, rfl⟩) rfl rfl rfl (fun x K hK => ?_) ?_
    rotate_left
    ·go_big_quiet_op
     exact hK
    refine hoist_skip [] [] 4 rfl (by kernel_rfl) (.inl ⟨rfl, rfl⟩) rfl (a1 := ?_) ?_ ?_
    rotate_left
    ·simp only [Act.put, List.setIfInBounds_toArray, List.set_cons_succ, List.set_cons_zero]; rfl
    refine hoist_skip [] [] 5 rfl (by kernel_rfl) (.inl ⟨rfl, rfl⟩) rfl (a1 := ?_) ?_ ?_
    rotate_left
    ·simp only [Act.put, List.setIfInBounds_toArray, List.set_cons_succ, List.set_cons_zero]; rfl
    refine hoist_skip [] [] 6 rfl (by kernel_rfl) (.inl ⟨rfl, rfl⟩) rfl (a1 := ?_) ?_ ?_
    rotate_left
    ·simp only [Act.put, List.setIfInBounds_toArray, List.set_cons_succ, List.set_cons_zero]; rfl
    refine hoist_skip [] [] 7 rfl (by kernel_rfl) (.inl ⟨rfl, rfl⟩) rfl (a1 := ?_) ?_ ?_
    rotate_left
    ·simp only [Act.put, List.setIfInBounds_toArray, List.set_cons_succ, List.set_cons_zero]; rfl
    refine hoist_skip [] [] 8 rfl (by kernel_rfl) (.inl ⟨rfl, rfl⟩) rfl (a1 := ?_) ?_ ?_
    rotate_left
    ·simp only [Act.put, List.setIfInBounds_toArray, List.set_cons_succ, List.set_cons_zero]; rfl
    refine hoist_skip [] [] 9 rfl (by kernel_rfl) (.inl ⟨rfl, rfl⟩) rfl (a1 := ?_) ?_ ?_
    rotate_left
    ·simp only [Act.put, List.setIfInBounds_toArray, List.set_cons_succ, List.set_cons_zero]; rfl
    refine hoist_skip [] [] 10 rfl (by kernel_rfl) (.inl ⟨rfl, rfl⟩) rfl (a1 := ?_) ?_ ?_
    rotate_left
    ·simp only [Act.put, List.setIfInBounds_toArray, List.set_cons_succ, List.set_cons_zero]; rfl
    refine hoist_skip [] [] 11 rfl (by kernel_rfl) (.inl ⟨rfl, rfl⟩) rfl (a1 := ?_) ?_ ?_
    rotate_left
    ·simp only [Act.put, List.setIfInBounds_toArray, List.set_cons_succ, List.set_cons_zero]; rfl
    refine hoist_skip [] [] 12 rfl (by kernel_rfl) (.inl ⟨rfl, rfl⟩) rfl (a1 := ?_) ?_ ?_
    rotate_left
    ·simp only [Act.put, List.setIfInBounds_toArray, List.set_cons_succ, List.set_cons_zero]; rfl
    refine hoist_skip [] [] 13 rfl (by kernel_rfl) (.inl ⟨rfl, rfl⟩) rfl (a1 := ?_) ?_ ?_
    rotate_left
    ·simp only [Act.put, List.setIfInBounds_toArray, List.set_cons_succ, List.set_cons_zero]; rfl
    refine hoist [] [] (a1 := ?_) 14 rfl (by kernel_rfl) (.inl ⟨rfl, rfl⟩) rfl rfl rfl (fun x K hK => ?_) ?_
    rotate_left
    ·go_big_quiet_op
     exact hK
    refine done (by kernel_rfl) (fun xr => ?_)
    have hb := xr.bw
    replace Q := Lib.hid (Q.out.bw hb)
    replace T := Lib.hid (T.out.trans (hb.still [g]))
    clear hb
    generalize xr.now = w3 at *
    clear xr
    clear d
    go_upto_region 5 with (fail)
    go_loopg [10] 0 (fun m' i wx => m' = 0 ∧ i = .int .i64 (q : Nat) ∧ Hid (SR wx base g o n cap) ∧ Hid (Still [g] w wx))
    case atStart => exact ⟨rfl, rfl, Q, T⟩
    case round =>
     clear Q T
     obtain ⟨rfl, rfl, Q, T⟩ := hrel
     have d : decide ((p1 : Int) ≤ (q : Int)) = false := by simp; omega
     go_upto_region 5 with (fail)
     refine wp_region_gg [] [] [] (by kernel_rfl) ?_
     refine hoist [] [] (a1 := ?_) 0 rfl (by kernel_rfl) (.inl ⟨rfl, rfl⟩) rfl rfl rfl (fun x K hK => ?_) ?_
     rotate_left
     ·go_big_quiet_op
      exact hK
     refine hoist [] [] (a1 := ?_) 1 rfl (by kernel_rfl) (.inl ⟨rfl, rfl⟩) rfl rfl rfl (fun x K hK => ?_) ?_
     rotate_left
     ·go_big_quiet_op
      exact hK
     refine hoist [] [] (a1 := ?_) 2 rfl (by kernel_rfl) (.inl ⟨rfl, rfl⟩) rfl rfl rfl (fun x K hK => ?_) ?_
     rotate_left
     ·go_big_quiet_op
      exact hK
     refine hoist [] [] (a1 := ?_) 3 rfl (by kernel_rfl) (.inl ⟨rfl, rfl⟩) rfl rfl rfl (fun x K hK => ?_) ?_
     rotate_left
     ·go_big_quiet_op
      exact hK
     refine hoist_skip [] [] 4 rfl (by kernel_rfl) (.inl ⟨rfl, rfl⟩) rfl (a1 := ?_) ?_ ?_
     rotate_left
     ·simp only [Act.put, List.setIfInBounds_toArray, List.set_cons_succ, List.set_cons_zero]; rfl
     refine hoist_skip [] [] 5 rfl (by kernel_rfl) (.inl ⟨rfl, rfl⟩) rfl (a1 := ?_) ?_ ?_
     rotate_left
     ·simp only [Act.put, List.setIfInBounds_toArray, List.set_cons_succ, List.set_cons_zero]; rfl
     refine hoist_skip [] [] 6 rfl (by kernel_rfl) (.inl ⟨rfl, rfl⟩) rfl (a1 := ?_) ?_ ?_
     rotate_left
     ·simp only [Act.put, List.setIfInBounds_toArray, List.set_cons_succ, List.set_cons_zero]; rfl
     refine hoist_skip [] [] 7 rfl (by kernel_rfl) (.inl ⟨rfl, rfl⟩) rfl (a1 := ?_) ?_ ?_
     rotate_left
     ·simp only [Act.put, List.setIfInBounds_toArray, List.set_cons_succ, List.set_cons_zero]; rfl
     refine hoist_skip [] [] 8 rfl (by kernel_rfl) (.inl ⟨rfl, rfl⟩) rfl (a1 := ?_) ?_ ?_
     rotate_left
     ·simp only [Act.put, List.setIfInBounds_toArray, List.set_cons_succ, List.set_cons_zero]; rfl
     refine hoist_skip [] [] 9 rfl (by kernel_rfl) (.inl ⟨rfl, rfl⟩) rfl (a1 := ?_) ?_ ?_
     rotate_left
     ·simp only [Act.put, List.setIfInBounds_toArray, List.set_cons_succ, List.set_cons_zero]; rfl
     refine hoist_skip [] [] 10 rfl (by kernel_rfl) (.inl ⟨rfl, rfl⟩) rfl (a1 := ?_) ?_ ?_
     rotate_left
     ·simp only [Act.put, List.setIfInBounds_toArray, List.set_cons_succ, List.set_cons_zero]; rfl
     refine hoist_skip [] [] 11 rfl (by kernel_rfl) (.inl ⟨rfl, rfl⟩) rfl (a1 := ?_) ?_ ?_
     rotate_left
     ·simp only [Act.put, List.setIfInBounds_toArray, List.set_cons_succ, List.set_cons_zero]; rfl
     refine hoist_skip [] [] 12 rfl (by kernel_rfl) (.inl ⟨rfl, rfl⟩) rfl (a1 := ?_) ?_ ?_
     rotate_left
     ·simp only [Act.put, List.setIfInBounds_toArray, List.set_cons_succ, List.set_cons_zero]; rfl
     refine hoist [] [] (a1 := ?_) 13 rfl (by kernel_rfl) (.inl ⟨rfl, rfl⟩) rfl rfl rfl (fun x K hK => ?_) ?_
     rotate_left
     ·go_big_quiet_op
      exact hK
     refine done (by kernel_rfl) (fun xr => ?_)
     have hb := xr.bw
     replace Q := Lib.hid (Q.out.bw hb)
     replace T := Lib.hid (T.out.trans (hb.still [g]))
     clear hb
     generalize xr.now = w4 at *
     clear xr
     clear d
     have d7 : decide ((q : Int) < (p1 : Int)) = true := by simp; omega
     go_wp2_with fail
     go_ret
     exact ⟨p1, by omega, by omega, rfl, Q.out, T.out⟩
def PartR (w w' : World) (base g o n cap a b : Nat) (e : Ending) : Prop := ∃ (x : Nat) (f : Bool), a ≤ x ∧ x < b ∧ e = .returned (.tuple #[.int .i64 (x : Nat), .bool f]) ∧ SR w' base g o n cap ∧ Still [g] w w'
set_option maxRecDepth 100000 in
set_option maxHeartbeats 8000000 in
theorem part_any (base g o n cap a b pv : Nat) (hap : a ≤ pv) (hpb : pv < b) (hbn : b ≤ n) (hn : n ≤ 1000000) (w : World) (h : SR w base g o n cap) :
  Calls Tryz.prog 87 #[.slice (some ⟨g, o, none⟩) n cap, .int .i64 (a : Nat), .int .i64 (b : Nat), .int .i64 (pv : Nat)] w fun e w' => PartR w w' base g o n cap a b e := by
 have hcm : cap ≤ 9223372036854775807 ∧ n ≤ cap := by
  obtain ⟨l, q⟩ := h
  obtain ⟨_, _, he, hcn, hcm⟩ := q.len
  cases he
  exact ⟨hcm, hcn⟩
 obtain ⟨hcm, hcn⟩ := hcm
 have Q := Lib.hid h
 have T := Lib.hid (Still.refl [g] w)
 clear h
 go_enter Tryz.func87, Tryz.ntmps87
 obtain ⟨b1, hb1⟩ : ∃ b1, b = b1 + 1 := ⟨b - 1, by omega⟩
 have eb : (b : Int) - 1 = (b1 : Int) := by omega
 obtain ⟨a1, ha1⟩ : ∃ a1, a + 1 = a1 := ⟨_, rfl⟩
 have ea : (a : Int) + 1 = (a1 : Int) := by omega
 have hb1a : a ≤ b1 ∧ b1 + 1 ≤ b ∧ a1 ≤ b ∧ a + 1 ≤ a1 := by omega
 replace hb1 := Lib.hid hb1
 replace ha1 := Lib.hid ha1
 go_upto_region 1 with (fail)
 have hpn : pv < n := by omega
 have han0 : a < n := by omega
 obtain ⟨vi, ci⟩ := Q.out.cell (a) (by omega)
 obtain ⟨vj, cj⟩ := Q.out.cell (pv) (by omega)
 have mi : ∀ y : LaterS [] w, _ := fun y => y.bw.cell ci
 have mj : ∀ y : LaterS [] w, _ := fun y => y.bw.cell cj
 clear ci cj
 refine wp_region_gg ([g]) [13] [14] (by kernel_rfl) ?_
 refine hoist [] [13] (a1 := ?_) 0 rfl (by kernel_rfl) (.inl ⟨rfl, rfl⟩) rfl rfl rfl (fun x K hK => ?_) ?_
 rotate_left
 ·go_big_quiet_op
  exact hK
 refine hoist [] [13] (a1 := ?_) 1 rfl (by kernel_rfl) (.inl ⟨rfl, rfl⟩) rfl rfl rfl (fun x K hK => ?_) ?_
 rotate_left
 ·go_big_quiet_op
  exact hK
 refine hoist ([g]) [] (a1 := ?_) 2 rfl (by kernel_rfl) (.inr rfl) rfl rfl rfl (fun x K hK => ?_) ?_
 rotate_left
 ·go_big_quiet_op
  exact hK
 refine hoist ([g]) [] (a1 := ?_) 3 rfl (by kernel_rfl) (.inr rfl) rfl rfl rfl (fun x K hK => ?_) ?_
 rotate_left
 ·go_big_quiet_op
  exact hK
 refine hoist [] [13] (a1 := ?_) 4 rfl (by kernel_rfl) (.inl ⟨rfl, rfl⟩) rfl rfl rfl (fun x K hK => ?_) ?_
 rotate_left
 ·go_big_quiet_op
  exact hK
 refine hoist [] [13] (a1 := ?_) 5 rfl (by kernel_rfl) (.inl ⟨rfl, rfl⟩) rfl rfl rfl (fun x K hK => ?_) ?_
 rotate_left
 ·go_big_quiet_op
  exact hK
 refine hoist [] [13] (a1 := ?_) 6 rfl (by kernel_rfl) (.inl ⟨rfl, rfl⟩) rfl rfl rfl (fun x K hK => ?_) ?_
 rotate_left
 ·go_big_quiet_op
  exact hK
 refine hoist [] [13] (a1 := ?_) 7 rfl (by kernel_rfl) (.inl ⟨rfl, rfl⟩) rfl rfl rfl (fun x K hK => ?_) ?_
 rotate_left
 ·go_big_quiet_op
  exact hK
 refine hoist [] [13] (a1 := ?_) 8 rfl (by kernel_rfl) (.inl ⟨rfl, rfl⟩) rfl rfl rfl (fun x K hK => ?_) ?_
 rotate_left
 ·go_big_quiet_op
  exact hK
 refine hoist [] [13] (a1 := ?_) 9 rfl (by kernel_rfl) (.inl ⟨rfl, rfl⟩) rfl rfl rfl (fun x K hK => ?_) ?_
 rotate_left
 ·go_big_quiet_op
  exact hK
 refine hoist [] [13] (a1 := ?_) 10 rfl (by kernel_rfl) (.inl ⟨rfl, rfl⟩) rfl rfl rfl (fun x K hK => ?_) ?_
 rotate_left
 ·go_big_quiet_op
  exact hK
 refine hoist [] [13] (a1 := ?_) 11 rfl (by kernel_rfl) (.inl ⟨rfl, rfl⟩) rfl rfl rfl (fun x K hK => ?_) ?_
 rotate_left
 ·go_big_quiet_op
  exact hK
 refine hoist [] [13] (a1 := ?_) 12 rfl (by kernel_rfl) (.inl ⟨rfl, rfl⟩) rfl rfl rfl (fun x K hK => ?_) ?_
 rotate_left
 ·go_big_quiet_op
  exact hK
 refine effect 13 rfl (by kernel_rfl) (by kernel_rfl) rfl (fun x13 K hK => ?_)
 have Qx := Lib.hid (Q.out.bw x13.bw)
 obtain ⟨zz, zi⟩ := Qx.out.cell (a) (by omega)
 have fi := Qx.out.frz (by omega) (o + (a))
 replace T := Lib.hid (T.out.trans ((x13.bw.still [g]).trans (still_sc x13.now g (o + (a)) (.int .u32 (vj : Nat)))))
 have Q1 := Lib.hid (Qx.out.set (a) (by omega) vj)
 go_simp
 refine hK _ _ (still_sc x13.now g (o + (a)) (.int .u32 (vj : Nat))) ?_
 clear hK K mi mj zi fi Qx Q
 generalize x13.now.setCell _ _ = wy at *
 try simp only [Act.put, List.setIfInBounds_toArray, List.set_cons_succ, List.set_cons_zero]
 refine tail 14 rfl (by kernel_rfl) rfl (fun xr => ?_)
 simp only [List.drop_succ_cons, List.drop_zero]
 have Q := Lib.hid (Q1.out.bw xr.bw)
 clear Q1
 replace T := Lib.hid (T.out.trans (xr.bw.still [g]))
 generalize xr.now = wq at *
 clear xr
 obtain ⟨zz2, zj⟩ := Q.out.cell (pv) (by omega)
 have fj := Q.out.frz (by omega) (o + (pv))
 replace T := Lib.hid (T.out.trans (still_sc wq g (o + (pv)) (.int .u32 (vi : Nat))))
 have Q2 := Lib.hid (Q.out.set (pv) (by omega) vi)
 go_upto_region 2 with (fail)
 clear zj fj Q
 generalize wq.setCell _ _ = w1 at *
 have Q := Q2
 clear Q2
 go_upto_region 3 with (fail)
 go_loopg [10] (b1 + 1 - a1) (fun m' i wx => ∃ (p' : Nat), m' = b1 + 1 - p' ∧ a1 ≤ p' ∧ p' ≤ b ∧ i = .int .i64 (p' : Nat) ∧ Hid (SR wx base g o n cap) ∧ Hid (Still [g] w wx))
 case atStart => exact ⟨a1, rfl, by omega, by omega, rfl, Q, T⟩
 case round =>
  clear Q T
  obtain ⟨p1, rfl, hp1l, hp1b, rfl, Q, T⟩ := hrel
  by_cases hpq : p1 ≤ b1
  ·have d : decide ((p1 : Int) ≤ (b1 : Int)) = true := by simp; omega
   have hxn : p1 < n := by omega
   have hyn : b1 < n := by omega
   have han : a < n := by omega
   go_upto_region 3 with (fail)
   obtain ⟨vi, ci⟩ := Q.out.cell (p1) (by omega)
   obtain ⟨vj, cj⟩ := Q.out.cell (a) (by omega)
   have mi : ∀ y : LaterS [] wr, _ := fun y => y.bw.cell ci
   have mj : ∀ y : LaterS [] wr, _ := fun y => y.bw.cell cj
   clear ci cj
   refine wp_region_gg [] [] [] (by kernel_rfl) ?_
   refine hoist [] [] (a1 := ?_) 0 rfl (by kernel_rfl) (.inl ⟨rfl, rfl⟩) rfl rfl rfl (fun x K hK => ?_) ?_
   rotate_left
   ·go_big_quiet_op
    exact hK
   refine hoist [] [] (a1 := ?_) 1 rfl (by kernel_rfl) (.inl ⟨rfl, rfl⟩) rfl rfl rfl (fun x K hK => ?_) ?_
   rotate_left
   ·go_big_quiet_op
    exact hK
   refine hoist [] [] (a1 := ?_) 2 rfl (by kernel_rfl) (.inl ⟨rfl, rfl⟩) rfl rfl rfl (fun x K hK => ?_) ?_
   rotate_left
   ·go_big_quiet_op
    exact hK
   refine hoist [] [] (a1 := ?_) 3 rfl (by kernel_rfl) (.inl ⟨rfl, rfl⟩) rfl rfl rfl (fun x K hK => ?_) ?_
   rotate_left
   ·go_big_quiet_op
    exact hK
   refine hoist [] [] (a1 := ?_) 4 rfl (by kernel_rfl) (.inl ⟨rfl, rfl⟩) rfl rfl rfl (fun x K hK => ?_) ?_
   rotate_left
   ·go_big_quiet_op
    exact hK
   refine hoist [] [] (a1 := ?_) 5 rfl (by kernel_rfl) (.inl ⟨rfl, rfl⟩) rfl rfl rfl (fun x K hK => ?_) ?_
   rotate_left
   ·go_big_quiet_op
    exact hK
   refine hoist [] [] (a1 := ?_) 6 rfl (by kernel_rfl) (.inl ⟨rfl, rfl⟩) rfl rfl rfl (fun x K hK => ?_) ?_
   rotate_left
   ·go_big_quiet_op
    exact hK
   refine hoist [] [] (a1 := ?_) 7 rfl (by kernel_rfl) (.inl ⟨rfl, rfl⟩) rfl rfl rfl (fun x K hK => ?_) ?_
   rotate_left
   ·go_big_quiet_op
    exact hK
   refine hoist [] [] (a1 := ?_) 8 rfl (by kernel_rfl) (.inl ⟨rfl, rfl⟩) rfl rfl rfl (fun x K hK => ?_) ?_
   rotate_left
   ·go_big_quiet_op
    exact hK
   refine hoist [] [] (a1 := ?_) 9 rfl (by kernel_rfl) (.inl ⟨rfl, rfl⟩) rfl rfl rfl (fun x K hK => ?_) ?_
   rotate_left
   ·go_big_quiet_op
    exact hK
   refine hoist [] [] (a1 := ?_) 10 rfl (by kernel_rfl) (.inl ⟨rfl, rfl⟩) rfl rfl rfl (fun x K hK => ?_) ?_
   rotate_left
   ·go_big_quiet_op
    exact hK
   refine hoist [] [] (a1 := ?_) 11 rfl (by kernel_rfl) (.inl ⟨rfl, rfl⟩) rfl rfl rfl (fun x K hK => ?_) ?_
   rotate_left
   ·go_big_quiet_op
    exact hK
   refine effect 12 rfl (by kernel_rfl) (by kernel_rfl) rfl (fun x12 K hK => ?_)
   go_simp
   refine Calls.mono (less_any vi vj x12.now) ?_
   rintro e wl ⟨rfl, hb⟩
   refine hK _ _ (hb.still _) ?_
   clear hK K mi mj
   have b2 := Lib.hid (x12.bw.trans hb)
   clear hb
   try simp only [Act.put, List.setIfInBounds_toArray, List.set_cons_succ, List.set_cons_zero]
   refine hoist [] [] (a1 := ?_) 13 rfl (by kernel_rfl) (.inl ⟨rfl, rfl⟩) rfl rfl rfl (fun x K hK => ?_) ?_
   rotate_left
   ·go_big_quiet_op
    exact hK
   refine done (by kernel_rfl) (fun xr => ?_)
   have hb := b2.out.trans xr.bw
   replace Q := Lib.hid (Q.out.bw hb)
   replace T := Lib.hid (T.out.trans (hb.still [g]))
   clear hb b2
   generalize xr.now = w3 at *
   clear xr
   clear d
   by_cases hlt : vi < vj
   ·rw [decide_eq_true hlt]
    go_wp2_with fail
    go_roundg (b1 + 1 - (p1 + 1))
    case measure => omega
    case rel => exact ⟨p1 + 1, rfl, by omega, by omega, by first | rfl | (push_cast; rfl) | (congr 1; omega), Q, T⟩
   ·rw [decide_eq_false hlt]
    go_upto_region 5 with (fail)
    go_loopg [11] (b1 + 1 - p1) (fun m' i wx => ∃ (q' : Nat), m' = q' + 1 - p1 ∧ a ≤ q' ∧ q' ≤ b1 ∧ i = .int .i64 (q' : Nat) ∧ Hid (SR wx base g o n cap) ∧ Hid (Still [g] w wx))
    case atStart => exact ⟨b1, rfl, by omega, by omega, rfl, Q, T⟩
    case round =>
     clear Q T
     obtain ⟨q1, rfl, hq1l, hq1b, rfl, Q, T⟩ := hrel
     by_cases hpq : p1 ≤ q1
     ·have d : decide ((p1 : Int) ≤ (q1 : Int)) = true := by simp; omega
      obtain ⟨q0, hq0⟩ : ∃ q0, q1 = q0 + 1 := ⟨q1 - 1, by omega⟩
      have eq0 : (q1 : Int) - 1 = (q0 : Int) := by omega
      replace hq0 := Lib.hid hq0
      have hxn : p1 < n := by omega
      have hyn : q1 < n := by omega
      have han : a < n := by omega
      go_upto_region 5 with (fail)
      obtain ⟨vi, ci⟩ := Q.out.cell (q1) (by omega)
      obtain ⟨vj, cj⟩ := Q.out.cell (a) (by omega)
      have mi : ∀ y : LaterS [] wr, _ := fun y => y.bw.cell ci
      have mj : ∀ y : LaterS [] wr, _ := fun y => y.bw.cell cj
      clear ci cj
      refine wp_region_gg [] [] [] (by kernel_rfl) ?_
      refine hoist [] [] (a1 := ?_) 0 rfl (by kernel_rfl) (.inl ⟨rfl, rfl⟩) rfl rfl rfl (fun x K hK => ?_) ?_
      rotate_left
      ·go_big_quiet_op
       exact hK
      refine hoist [] [] (a1 := ?_) 1 rfl (by kernel_rfl) (.inl ⟨rfl, rfl⟩) rfl rfl rfl (fun x K hK => ?_) ?_
      rotate_left
      ·go_big_quiet_op
       exact hK
      refine hoist [] [] (a1 := ?_) 2 rfl (by kernel_rfl) (.inl ⟨rfl, rfl⟩) rfl rfl rfl (fun x K hK => ?_) ?_
      rotate_left
      ·go_big_quiet_op
       exact hK
      refine hoist [] [] (a1 := ?_) 3 rfl (by kernel_rfl) (.inl ⟨rfl, rfl⟩) rfl rfl rfl (fun x K hK => ?_) ?_
      rotate_left
      ·go_big_quiet_op
       exact hK
      refine hoist [] [] (a1 := ?_) 4 rfl (by kernel_rfl) (.inl ⟨rfl, rfl⟩) rfl rfl rfl (fun x K hK => ?_) ?_
      rotate_left
      ·go_big_quiet_op
       exact hK
      refine hoist [] [] (a1 := ?_) 5 rfl (by kernel_rfl) (.inl ⟨rfl, rfl⟩) rfl rfl rfl (fun x K hK => ?_) ?_
      rotate_left
      ·go_big_quiet_op
       exact hK
      refine hoist [] [] (a1 := ?_) 6 rfl (by kernel_rfl) (.inl ⟨rfl, rfl⟩) rfl rfl rfl (fun x K hK => ?_) ?_
      rotate_left
      ·go_big_quiet_op
       exact hK
      refine hoist [] [] (a1 := ?_) 7 rfl (by kernel_rfl) (.inl ⟨rfl, rfl⟩) rfl rfl rfl (fun x K hK => ?_) ?_
      rotate_left
      ·go_big_quiet_op
       exact hK
      refine hoist [] [] (a1 := ?_) 8 rfl (by kernel_rfl) (.inl ⟨rfl, rfl⟩) rfl rfl rfl (fun x K hK => ?_) ?_
      rotate_left
      ·go_big_quiet_op
       exact hK
      refine hoist [] [] (a1 := ?_) 9 rfl (by kernel_rfl) (.inl ⟨rfl, rfl⟩) rfl rfl rfl (fun x K hK => ?_) ?_
      rotate_left
      ·go_big_quiet_op
       exact hK
      refine hoist [] [] (a1 := ?_) 10 rfl (by kernel_rfl) (.inl ⟨rfl, rfl⟩) rfl rfl rfl (fun x K hK => ?_) ?_
      rotate_left
      ·go_big_quiet_op
       exact hK
      refine hoist [] [] (a1 := ?_) 11 rfl (by kernel_rfl) (.inl ⟨rfl, rfl⟩) rfl rfl rfl (fun x K hK => ?_) ?_
      rotate_left
      ·go_big_quiet_op
       exact hK
      refine effect 12 rfl (by kernel_rfl) (by kernel_rfl) rfl (fun x12 K hK => ?_)
      go_simp
      refine Calls.mono (less_any vi vj x12.now) ?_
      rintro e wl ⟨rfl, hb⟩
      refine hK _ _ (hb.still _) ?_
      clear hK K mi mj
      have b2 := Lib.hid (x12.bw.trans hb)
      clear hb
      try simp only [Act.put, List.setIfInBounds_toArray, List.set_cons_succ, List.set_cons_zero]
      refine hoist [] [] (a1 := ?_) 13 rfl (by kernel_rfl) (.inl ⟨rfl, rfl⟩) rfl rfl rfl (fun x K hK => ?_) ?_
      rotate_left
      ·go_big_quiet_op
       exact hK
      refine hoist [] [] (a1 := ?_) 14 rfl (by kernel_rfl) (.inl ⟨rfl, rfl⟩) rfl rfl rfl (fun x K hK => ?_) ?_
      rotate_left
      ·go_big_quiet_op
       exact hK
      refine done (by kernel_rfl) (fun xr => ?_)
      have hb := b2.out.trans xr.bw
      replace Q := Lib.hid (Q.out.bw hb)
      replace T := Lib.hid (T.out.trans (hb.still [g]))
      clear hb b2
      generalize xr.now = w3 at *
      clear xr
      clear d
      by_cases hlt : vi < vj
      ·rw [decide_eq_true hlt, Bool.not_true]
       have d7 : decide ((q1 : Int) < (p1 : Int)) = false := by simp; omega
       obtain ⟨q0, hq0⟩ : ∃ q0, q1 = q0 + 1 := ⟨q1 - 1, by omega⟩
       have eq0 : (q1 : Int) - 1 = (q0 : Int) := by omega
       replace hq0 := Lib.hid hq0
       go_upto_region 10 with (fail)
       obtain ⟨vi, ci⟩ := Q.out.cell (p1) (by omega)
       obtain ⟨vj, cj⟩ := Q.out.cell (q1) (by omega)
       have mi : ∀ y : LaterS [] w3, _ := fun y => y.bw.cell ci
       have mj : ∀ y : LaterS [] w3, _ := fun y => y.bw.cell cj
       clear ci cj
       refine wp_region_gg ([g]) [13] [14] (by kernel_rfl) ?_
       refine hoist [] [13] (a1 := ?_) 0 rfl (by kernel_rfl) (.inl ⟨rfl, rfl⟩) rfl rfl rfl (fun x K hK => ?_) ?_
       rotate_left
       ·go_big_quiet_op
        exact hK
       refine hoist [] [13] (a1 := ?_) 1 rfl (by kernel_rfl) (.inl ⟨rfl, rfl⟩) rfl rfl rfl (fun x K hK => ?_) ?_
       rotate_left
       ·go_big_quiet_op
        exact hK
       refine hoist ([g]) [] (a1 := ?_) 2 rfl (by kernel_rfl) (.inr rfl) rfl rfl rfl (fun x K hK => ?_) ?_
       rotate_left
       ·go_big_quiet_op
        exact hK
       refine hoist ([g]) [] (a1 := ?_) 3 rfl (by kernel_rfl) (.inr rfl) rfl rfl rfl (fun x K hK => ?_) ?_
       rotate_left
       ·go_big_quiet_op
        exact hK
       refine hoist [] [13] (a1 := ?_) 4 rfl (by kernel_rfl) (.inl ⟨rfl, rfl⟩) rfl rfl rfl (fun x K hK => ?_) ?_
       rotate_left
       ·go_big_quiet_op
        exact hK
       refine hoist [] [13] (a1 := ?_) 5 rfl (by kernel_rfl) (.inl ⟨rfl, rfl⟩) rfl rfl rfl (fun x K hK => ?_) ?_
       rotate_left
       ·go_big_quiet_op
        exact hK
       refine hoist [] [13] (a1 := ?_) 6 rfl (by kernel_rfl) (.inl ⟨rfl, rfl⟩) rfl rfl rfl (fun x K hK => ?_) ?_
       rotate_left
       ·go_big_quiet_op
        exact hK
       refine hoist [] [13] (a1 := ?_) 7 rfl (by kernel_rfl) (.inl ⟨rfl, rfl⟩) rfl rfl rfl (fun x K hK => ?_) ?_
       rotate_left
       ·go_big_quiet_op
        exact hK
       refine hoist [] [13] (a1 := ?_) 8 rfl (by kernel_rfl) (.inl ⟨rfl, rfl⟩) rfl rfl rfl (fun x K hK => ?_) ?_
       rotate_left
       ·go_big_quiet_op
        exact hK
       refine hoist [] [13] (a1 := ?_) 9 rfl (by kernel_rfl) (.inl ⟨rfl, rfl⟩) rfl rfl rfl (fun x K hK => ?_) ?_
       rotate_left
       ·go_big_quiet_op
        exact hK
       refine hoist [] [13] (a1 := ?_) 10 rfl (by kernel_rfl) (.inl ⟨rfl, rfl⟩) rfl rfl rfl (fun x K hK => ?_) ?_
       rotate_left
       ·go_big_quiet_op
        exact hK
       refine hoist [] [13] (a1 := ?_) 11 rfl (by kernel_rfl) (.inl ⟨rfl, rfl⟩) rfl rfl rfl (fun x K hK => ?_) ?_
       rotate_left
       ·go_big_quiet_op
        exact hK
       refine hoist [] [13] (a1 := ?_) 12 rfl (by kernel_rfl) (.inl ⟨rfl, rfl⟩) rfl rfl rfl (fun x K hK => ?_) ?_
       rotate_left
       ·go_big_quiet_op
        exact hK
       refine effect 13 rfl (by kernel_rfl) (by kernel_rfl) rfl (fun x13 K hK => ?_)
       have Qx := Lib.hid (Q.out.bw x13.bw)
       obtain ⟨zz, zi⟩ := Qx.out.cell (p1) (by omega)
       have fi := Qx.out.frz (by omega) (o + (p1))
       replace T := Lib.hid (T.out.trans ((x13.bw.still [g]).trans (still_sc x13.now g (o + (p1)) (.int .u32 (vj : Nat)))))
       have Q1 := Lib.hid (Qx.out.set (p1) (by omega) vj)
       go_simp
       refine hK _ _ (still_sc x13.now g (o + (p1)) (.int .u32 (vj : Nat))) ?_
       clear hK K mi mj zi fi Qx Q
       generalize x13.now.setCell _ _ = wy at *
       try simp only [Act.put, List.setIfInBounds_toArray, List.set_cons_succ, List.set_cons_zero]
       refine tail 14 rfl (by kernel_rfl) rfl (fun xr => ?_)
       simp only [List.drop_succ_cons, List.drop_zero]
       have Q := Lib.hid (Q1.out.bw xr.bw)
       clear Q1
       replace T := Lib.hid (T.out.trans (xr.bw.still [g]))
       generalize xr.now = wq at *
       clear xr
       obtain ⟨zz2, zj⟩ := Q.out.cell (q1) (by omega)
       have fj := Q.out.frz (by omega) (o + (q1))
       replace T := Lib.hid (T.out.trans (still_sc wq g (o + (q1)) (.int .u32 (vi : Nat))))
       have Q2 := Lib.hid (Q.out.set (q1) (by omega) vi)
       go_upto_region 11 with (fail)
       clear zj fj Q
       generalize wq.setCell _ _ = w8 at *
       have Q := Q2
       clear Q2
       go_upto_region 13 with (fail)
       go_loopg [10, 11] (q0 + 1 - (p1 + 1)) (fun m' i j wx => ∃ (p q : Nat), m' = q + 1 - p ∧ a + 1 ≤ p ∧ p ≤ b ∧ a ≤ q ∧ q + 1 ≤ b ∧ i = .int .i64 (p : Nat) ∧ j = .int .i64 (q : Nat) ∧ Hid (SR wx base g o n cap) ∧ Hid (Still [g] w wx))
       case atStart => exact ⟨p1 + 1, q0, rfl, by omega, by omega, by have := hq0.out; omega, by have := hq0.out; omega, by first | rfl | (push_cast; rfl), by first | rfl | (congr 1; omega), Q, T⟩
       case round =>
        clear Q T eq0 hq0
        obtain ⟨p, q, rfl, hp, hpb2, hq, hqb, rfl, rfl, Q, T⟩ := hrel
        go_upto_region 13 with (fail)
        go_loopg [10] (q + 1 - p) (fun m' i wx => ∃ (p' : Nat), m' = q + 1 - p' ∧ p ≤ p' ∧ p' ≤ b ∧ i = .int .i64 (p' : Nat) ∧ Hid (SR wx base g o n cap) ∧ Hid (Still [g] w wx))
        case atStart => exact ⟨p, rfl, by omega, by omega, rfl, Q, T⟩
        case round =>
         clear Q T
         obtain ⟨p2, rfl, hp2l, hp2b, rfl, Q, T⟩ := hrel
         by_cases hpq : p2 ≤ q
         ·have d : decide ((p2 : Int) ≤ (q : Int)) = true := by simp; omega
          have hxn : p2 < n := by omega
          have hyn : q < n := by omega
          have han : a < n := by omega
          go_upto_region 13 with (fail)
          obtain ⟨vi, ci⟩ := Q.out.cell (p2) (by omega)
          obtain ⟨vj, cj⟩ := Q.out.cell (a) (by omega)
          have mi : ∀ y : LaterS [] wr, _ := fun y => y.bw.cell ci
          have mj : ∀ y : LaterS [] wr, _ := fun y => y.bw.cell cj
          clear ci cj
          refine wp_region_gg [] [] [] (by kernel_rfl) ?_
          refine hoist [] [] (a1 := ?_) 0 rfl (by kernel_rfl) (.inl ⟨rfl, rfl⟩) rfl rfl rfl (fun x K hK => ?_) ?_
          rotate_left
          ·go_big_quiet_op
           exact hK
          refine hoist [] [] (a1 := ?_) 1 rfl (by kernel_rfl) (.inl ⟨rfl, rfl⟩) rfl rfl rfl (fun x K hK => ?_) ?_
          rotate_left
          ·go_big_quiet_op
           exact hK
          refine hoist [] [] (a1 := ?_) 2 rfl (by kernel_rfl) (.inl ⟨rfl, rfl⟩) rfl rfl rfl (fun x K hK => ?_) ?_
          rotate_left
          ·go_big_quiet_op
           exact hK
          refine hoist [] [] (a1 := ?_) 3 rfl (by kernel_rfl) (.inl ⟨rfl, rfl⟩) rfl rfl rfl (fun x K hK => ?_) ?_
          rotate_left
          ·go_big_quiet_op
           exact hK
          refine hoist [] [] (a1 := ?_) 4 rfl (by kernel_rfl) (.inl ⟨rfl, rfl⟩) rfl rfl rfl (fun x K hK => ?_) ?_
          rotate_left
          ·go_big_quiet_op
           exact hK
          refine hoist [] [] (a1 := ?_) 5 rfl (by kernel_rfl) (.inl ⟨rfl, rfl⟩) rfl rfl rfl (fun x K hK => ?_) ?_
          rotate_left
          ·go_big_quiet_op
           exact hK
          refine hoist [] [] (a1 := ?_) 6 rfl (by kernel_rfl) (.inl ⟨rfl, rfl⟩) rfl rfl rfl (fun x K hK => ?_) ?_
          rotate_left
          ·go_big_quiet_op
           exact hK
          refine hoist [] [] (a1 := ?_) 7 rfl (by kernel_rfl) (.inl ⟨rfl, rfl⟩) rfl rfl rfl (fun x K hK => ?_) ?_
          rotate_left
          ·go_big_quiet_op
           exact hK
          refine hoist [] [] (a1 := ?_) 8 rfl (by kernel_rfl) (.inl ⟨rfl, rfl⟩) rfl rfl rfl (fun x K hK => ?_) ?_
          rotate_left
          ·go_big_quiet_op
           exact hK
          refine hoist [] [] (a1 := ?_) 9 rfl (by kernel_rfl) (.inl ⟨rfl, rfl⟩) rfl rfl rfl (fun x K hK => ?_) ?_
          rotate_left
          ·go_big_quiet_op
           exact hK
          refine hoist [] [] (a1 := ?_) 10 rfl (by kernel_rfl) (.inl ⟨rfl, rfl⟩) rfl rfl rfl (fun x K hK => ?_) ?_
          rotate_left
          ·go_big_quiet_op
           exact hK
          refine hoist [] [] (a1 := ?_) 11 rfl (by kernel_rfl) (.inl ⟨rfl, rfl⟩) rfl rfl rfl (fun x K hK => ?_) ?_
          rotate_left
          ·go_big_quiet_op
           exact hK
          refine effect 12 rfl (by kernel_rfl) (by kernel_rfl) rfl (fun x12 K hK => ?_)
          go_simp
          refine Calls.mono (less_any vi vj x12.now) ?_
          rintro e wl ⟨rfl, hb⟩
          refine hK _ _ (hb.still _) ?_
          clear hK K mi mj
          have b2 := Lib.hid (x12.bw.trans hb)
          clear hb
          try simp only [Act.put, List.setIfInBounds_toArray, List.set_cons_succ, List.set_cons_zero]
          refine hoist [] [] (a1 := ?_) 13 rfl (by kernel_rfl) (.inl ⟨rfl, rfl⟩) rfl rfl rfl (fun x K hK => ?_) ?_
          rotate_left
          ·go_big_quiet_op
           exact hK
          refine done (by kernel_rfl) (fun xr => ?_)
          have hb := b2.out.trans xr.bw
          replace Q := Lib.hid (Q.out.bw hb)
          replace T := Lib.hid (T.out.trans (hb.still [g]))
          clear hb b2
          generalize xr.now = w3 at *
          clear xr
          clear d
          by_cases hlt : vi < vj
          ·rw [decide_eq_true hlt]
           go_wp2_with fail
           go_roundg (q + 1 - (p2 + 1))
           case measure => omega
           case rel => exact ⟨p2 + 1, rfl, by omega, by omega, by first | rfl | (push_cast; rfl) | (congr 1; omega), Q, T⟩
          ·rw [decide_eq_false hlt]
           go_upto_region 15 with (fail)
           go_loopg [11] (q + 1 - p2) (fun m' i wx => ∃ (q' : Nat), m' = q' + 1 - p2 ∧ a ≤ q' ∧ q' ≤ q ∧ i = .int .i64 (q' : Nat) ∧ Hid (SR wx base g o n cap) ∧ Hid (Still [g] w wx))
           case atStart => exact ⟨q, rfl, by omega, by omega, rfl, Q, T⟩
           case round =>
            clear Q T
            obtain ⟨q2, rfl, hq2l, hq2b, rfl, Q, T⟩ := hrel
            by_cases hpq : p2 ≤ q2
            ·have d : decide ((p2 : Int) ≤ (q2 : Int)) = true := by simp; omega
             obtain ⟨q0, hq0⟩ : ∃ q0, q2 = q0 + 1 := ⟨q2 - 1, by omega⟩
             have eq0 : (q2 : Int) - 1 = (q0 : Int) := by omega
             replace hq0 := Lib.hid hq0
             have hxn : p2 < n := by omega
             have hyn : q2 < n := by omega
             have han : a < n := by omega
             go_upto_region 15 with (fail)
             obtain ⟨vi, ci⟩ := Q.out.cell (q2) (by omega)
             obtain ⟨vj, cj⟩ := Q.out.cell (a) (by omega)
             have mi : ∀ y : LaterS [] wr, _ := fun y => y.bw.cell ci
             have mj : ∀ y : LaterS [] wr, _ := fun y => y.bw.cell cj
             clear ci cj
             refine wp_region_gg [] [] [] (by kernel_rfl) ?_
             refine hoist [] [] (a1 := ?_) 0 rfl (by kernel_rfl) (.inl ⟨rfl, rfl⟩) rfl rfl rfl (fun x K hK => ?_) ?_
             rotate_left
             ·go_big_quiet_op
              exact hK
             refine hoist [] [] (a1 := ?_) 1 rfl (by kernel_rfl) (.inl ⟨rfl, rfl⟩) rfl rfl rfl (fun x K hK => ?_) ?_
             rotate_left
             ·go_big_quiet_op
              exact hK
             refine hoist [] [] (a1 := ?_) 2 rfl (by kernel_rfl) (.inl ⟨rfl, rfl⟩) rfl rfl rfl (fun x K hK => ?_) ?_
             rotate_left
             ·go_big_quiet_op
              exact hK
             refine hoist [] [] (a1 := ?_) 3 rfl (by kernel_rfl) (.inl ⟨rfl, rfl⟩) rfl rfl rfl (fun x K hK => ?_) ?_
             rotate_left
             ·go_big_quiet_op
              exact hK
             refine hoist [] [] (a1 := ?_) 4 rfl (by kernel_rfl) (.inl ⟨rfl, rfl⟩) rfl rfl rfl (fun x K hK => ?_) ?_
             rotate_left
             ·go_big_quiet_op
              exact hK
             refine hoist [] [] (a1 := ?_) 5 rfl (by kernel_rfl) (.inl ⟨rfl, rfl⟩) rfl rfl rfl (fun x K hK => ?_) ?_
             rotate_left
             ·go_big_quiet_op
              exact hK
             refine hoist [] [] (a1 := ?_) 6 rfl (by kernel_rfl) (.inl ⟨rfl, rfl⟩) rfl rfl rfl (fun x K hK => ?_) ?_
             rotate_left
             ·go_big_quiet_op
              exact hK
             refine hoist [] [] (a1 := ?_) 7 rfl (by kernel_rfl) (.inl ⟨rfl, rfl⟩) rfl rfl rfl (fun x K hK => ?_) ?_
             rotate_left
             ·go_big_quiet_op
              exact hK
             refine hoist [] [] (a1 := ?_) 8 rfl (by kernel_rfl) (.inl ⟨rfl, rfl⟩) rfl rfl rfl (fun x K hK => ?_) ?_
             rotate_left
             ·go_big_quiet_op
              exact hK
             refine hoist [] [] (a1 := ?_) 9 rfl (by kernel_rfl) (.inl ⟨rfl, rfl⟩) rfl rfl rfl (fun x K hK => ?_) ?_
             rotate_left
             ·go_big_quiet_op
              exact hK
             refine hoist [] [] (a1 := ?_) 10 rfl (by kernel_rfl) (.inl ⟨rfl, rfl⟩) rfl rfl rfl (fun x K hK => ?_) ?_
             rotate_left
             ·go_big_quiet_op
              exact hK
             refine hoist [] [] (a1 := ?_) 11 rfl (by kernel_rfl) (.inl ⟨rfl, rfl⟩) rfl rfl rfl (fun x K hK => ?_) ?_
             rotate_left
             ·go_big_quiet_op
              exact hK
             refine effect 12 rfl (by kernel_rfl) (by kernel_rfl) rfl (fun x12 K hK => ?_)
             go_simp
             refine Calls.mono (less_any vi vj x12.now) ?_
             rintro e wl ⟨rfl, hb⟩
             refine hK _ _ (hb.still _) ?_
             clear hK K mi mj
             have b2 := Lib.hid (x12.bw.trans hb)
             clear hb
             try simp only [Act.put, List.setIfInBounds_toArray, List.set_cons_succ, List.set_cons_zero]
             refine hoist [] [] (a1 := ?_) 13 rfl (by kernel_rfl) (.inl ⟨rfl, rfl⟩) rfl rfl rfl (fun x K hK => ?_) ?_
             rotate_left
             ·go_big_quiet_op
              exact hK
             refine hoist [] [] (a1 := ?_) 14 rfl (by kernel_rfl) (.inl ⟨rfl, rfl⟩) rfl rfl rfl (fun x K hK => ?_) ?_
             rotate_left
             ·go_big_quiet_op
              exact hK
             refine done (by kernel_rfl) (fun xr => ?_)
             have hb := b2.out.trans xr.bw
             replace Q := Lib.hid (Q.out.bw hb)
             replace T := Lib.hid (T.out.trans (hb.still [g]))
             clear hb b2
             generalize xr.now = w3 at *
             clear xr
             clear d
             by_cases hlt : vi < vj
             ·rw [decide_eq_true hlt, Bool.not_true]
              have d7 : decide ((q2 : Int) < (p2 : Int)) = false := by simp; omega
              obtain ⟨q0, hq0⟩ : ∃ q0, q2 = q0 + 1 := ⟨q2 - 1, by omega⟩
              have eq0 : (q2 : Int) - 1 = (q0 : Int) := by omega
              replace hq0 := Lib.hid hq0
              go_upto_region 18 with (fail)
              obtain ⟨vi, ci⟩ := Q.out.cell (p2) (by omega)
              obtain ⟨vj, cj⟩ := Q.out.cell (q2) (by omega)
              have mi : ∀ y : LaterS [] w3, _ := fun y => y.bw.cell ci
              have mj : ∀ y : LaterS [] w3, _ := fun y => y.bw.cell cj
              clear ci cj
              refine wp_region_gg ([g]) [13] [14] (by kernel_rfl) ?_
              refine hoist [] [13] (a1 := ?_) 0 rfl (by kernel_rfl) (.inl ⟨rfl, rfl⟩) rfl rfl rfl (fun x K hK => ?_) ?_
              rotate_left
              ·go_big_quiet_op
               exact hK
              refine hoist [] [13] (a1 := ?_) 1 rfl (by kernel_rfl) (.inl ⟨rfl, rfl⟩) rfl rfl rfl (fun x K hK => ?_) ?_
              rotate_left
              ·go_big_quiet_op
               exact hK
              refine hoist ([g]) [] (a1 := ?_) 2 rfl (by kernel_rfl) (.inr rfl) rfl rfl rfl (fun x K hK => ?_) ?_
              rotate_left
              ·go_big_quiet_op
               exact hK
              refine hoist ([g]) [] (a1 := ?_) 3 rfl (by kernel_rfl) (.inr rfl) rfl rfl rfl (fun x K hK => ?_) ?_
              rotate_left
              ·go_big_quiet_op
               exact hK
              refine hoist [] [13] (a1 := ?_) 4 rfl (by kernel_rfl) (.inl ⟨rfl, rfl⟩) rfl rfl rfl (fun x K hK => ?_) ?_
              rotate_left
              ·go_big_quiet_op
               exact hK
              refine hoist [] [13] (a1 := ?_) 5 rfl (by kernel_rfl) (.inl ⟨rfl, rfl⟩) rfl rfl rfl (fun x K hK => ?_) ?_
              rotate_left
              ·go_big_quiet_op
               exact hK
              refine hoist [] [13] (a1 := ?_) 6 rfl (by kernel_rfl) (.inl ⟨rfl, rfl⟩) rfl rfl rfl (fun x K hK => ?_) ?_
              rotate_left
              ·go_big_quiet_op
               exact hK
              refine hoist [] [13] (a1 := ?_) 7 rfl (by kernel_rfl) (.inl ⟨rfl, rfl⟩) rfl rfl rfl (fun x K hK => ?_) ?_
              rotate_left
              ·go_big_quiet_op
               exact hK
              refine hoist [] [13] (a1 := ?_) 8 rfl (by kernel_rfl) (.inl ⟨rfl, rfl⟩) rfl rfl rfl (fun x K hK => ?_) ?_
              rotate_left
              ·go_big_quiet_op
               exact hK
              refine hoist [] [13] (a1 := ?_) 9 rfl (by kernel_rfl) (.inl ⟨rfl, rfl⟩) rfl rfl rfl (fun x K hK => ?_) ?_
              rotate_left
              ·go_big_quiet_op
               exact hK
              refine hoist [] [13] (a1 := ?_) 10 rfl (by kernel_rfl) (.inl ⟨rfl, rfl⟩) rfl rfl rfl (fun x K hK => ?_) ?_
              rotate_left
              ·go_big_quiet_op
               exact hK
              refine hoist [] [13] (a1 := ?_) 11 rfl (by kernel_rfl) (.inl ⟨rfl, rfl⟩) rfl rfl rfl (fun x K hK => ?_) ?_
              rotate_left
              ·go_big_quiet_op
               exact hK
              refine hoist [] [13] (a1 := ?_) 12 rfl (by kernel_rfl) (.inl ⟨rfl, rfl⟩) rfl rfl rfl (fun x K hK => ?_) ?_
              rotate_left
              ·go_big_quiet_op
               exact hK
              refine effect 13 rfl (by kernel_rfl) (by kernel_rfl) rfl (fun x13 K hK => ?_)
              have Qx := Lib.hid (Q.out.bw x13.bw)
              obtain ⟨zz, zi⟩ := Qx.out.cell (p2) (by omega)
              have fi := Qx.out.frz (by omega) (o + (p2))
              replace T := Lib.hid (T.out.trans ((x13.bw.still [g]).trans (still_sc x13.now g (o + (p2)) (.int .u32 (vj : Nat)))))
              have Q1 := Lib.hid (Qx.out.set (p2) (by omega) vj)
              go_simp
              refine hK _ _ (still_sc x13.now g (o + (p2)) (.int .u32 (vj : Nat))) ?_
              clear hK K mi mj zi fi Qx Q
              generalize x13.now.setCell _ _ = wy at *
              try simp only [Act.put, List.setIfInBounds_toArray, List.set_cons_succ, List.set_cons_zero]
              refine tail 14 rfl (by kernel_rfl) rfl (fun xr => ?_)
              simp only [List.drop_succ_cons, List.drop_zero]
              have Q := Lib.hid (Q1.out.bw xr.bw)
              clear Q1
              replace T := Lib.hid (T.out.trans (xr.bw.still [g]))
              generalize xr.now = wq at *
              clear xr
              obtain ⟨zz2, zj⟩ := Q.out.cell (q2) (by omega)
              have fj := Q.out.frz (by omega) (o + (q2))
              replace T := Lib.hid (T.out.trans (still_sc wq g (o + (q2)) (.int .u32 (vi : Nat))))
              have Q2 := Lib.hid (Q.out.set (q2) (by omega) vi)
              go_upto_region 19 with (fail)
              clear zj fj Q
              generalize wq.setCell _ _ = w8 at *
              have Q := Q2
              clear Q2
              go_wp2_with fail
              go_roundg (q0 + 1 - (p2 + 1))
              case measure => have := hq0.out; omega
              case rel => exact ⟨p2 + 1, q0, rfl, by omega, by omega, by have := hq0.out; omega, by have := hq0.out; omega, by first | rfl | (push_cast; rfl), by first | rfl | (congr 1; omega), Q, T⟩
             ·rw [decide_eq_false hlt, Bool.not_false]
              go_wp2_with fail
              go_roundg (q0 + 1 - p2)
              case measure => have := hq0.out; omega
              case rel => exact ⟨q0, rfl, by have := hq0.out; omega, by have := hq0.out; omega, by first | rfl | (congr 1; omega), Q, T⟩
            ·have d : decide ((p2 : Int) ≤ (q2 : Int)) = false := by simp; omega
             go_upto_region 15 with (fail)
             refine wp_region_gg [] [] [] (by kernel_rfl) ?_
             refine hoist [] [] (a1 := ?_) 0 rfl (by kernel_rfl) (.inl ⟨rfl, rfl⟩) rfl rfl rfl (fun x K hK => ?_) ?_
             rotate_left
             ·go_big_quiet_op
              exact hK
             refine hoist [] [] (a1 := ?_) 1 rfl (by kernel_rfl) (.inl ⟨rfl, rfl⟩) rfl rfl rfl (fun x K hK => ?_) ?_
             rotate_left
             ·go_big_quiet_op
              exact hK
             refine hoist [] [] (a1 := ?_) 2 rfl (by kernel_rfl) (.inl ⟨rfl, rfl⟩) rfl rfl rfl (fun x K hK => ?_) ?_
             rotate_left
             ·go_big_quiet_op
              exact hK
             refine hoist [] [] (a1 := ?_) 3 rfl (by kernel_rfl) (.inl ⟨rfl, rfl⟩) rfl rfl rfl (fun x K hK => ?_) ?_
             rotate_left
             ·go_big_quiet_op
              exact hK
             refine hoist_skip [] [] 4 rfl (by kernel_rfl) (.inl ⟨rfl, rfl⟩) rfl (a1 := ?_) ?_ ?_
             rotate_left
             ·simp only [Act.put, List.setIfInBounds_toArray, List.set_cons_succ, List.set_cons_zero]; rfl
             refine hoist_skip [] [] 5 rfl (by kernel_rfl) (.inl ⟨rfl, rfl⟩) rfl (a1 := ?_) ?_ ?_
             rotate_left
             ·simp only [Act.put, List.setIfInBounds_toArray, List.set_cons_succ, List.set_cons_zero]; rfl
             refine hoist_skip [] [] 6 rfl (by kernel_rfl) (.inl ⟨rfl, rfl⟩) rfl (a1 := ?_) ?_ ?_
             rotate_left
             ·simp only [Act.put, List.setIfInBounds_toArray, List.set_cons_succ, List.set_cons_zero]; rfl
             refine hoist_skip [] [] 7 rfl (by kernel_rfl) (.inl ⟨rfl, rfl⟩) rfl (a1 := ?_) ?_ ?_
             rotate_left
             ·simp only [Act.put, List.setIfInBounds_toArray, List.set_cons_succ, List.set_cons_zero]; rfl
             refine hoist_skip [] [] 8 rfl (by kernel_rfl) (.inl ⟨rfl, rfl⟩) rfl (a1 := ?_) ?_ ?_
             rotate_left
             ·simp only [Act.put, List.setIfInBounds_toArray, List.set_cons_succ, List.set_cons_zero]; rfl
             refine hoist_skip [] [] 9 rfl (by kernel_rfl) (.inl ⟨rfl, rfl⟩) rfl (a1 := ?_) ?_ ?_
             rotate_left
             ·simp only [Act.put, List.setIfInBounds_toArray, List.set_cons_succ, List.set_cons_zero]; rfl
             refine hoist_skip [] [] 10 rfl (by kernel_rfl) (.inl ⟨rfl, rfl⟩) rfl (a1 := ?_) ?_ ?_
             rotate_left
             ·simp only [Act.put, List.setIfInBounds_toArray, List.set_cons_succ, List.set_cons_zero]; rfl
             refine hoist_skip [] [] 11 rfl (by kernel_rfl) (.inl ⟨rfl, rfl⟩) rfl (a1 := ?_) ?_ ?_
             rotate_left
             ·simp only [Act.put, List.setIfInBounds_toArray, List.set_cons_succ, List.set_cons_zero]; rfl
             refine hoist_skip [] [] 12 rfl (by kernel_rfl) (.inl ⟨rfl, rfl⟩) rfl (a1 := ?_) ?_ ?_
             rotate_left
             ·simp only [Act.put, List.setIfInBounds_toArray, List.set_cons_succ, List.set_cons_zero]; rfl
             refine hoist_skip [] [] 13 rfl (by kernel_rfl) (.inl ⟨rfl, rfl⟩) rfl (a1 := ?_) ?_ ?_
             rotate_left
             ·simp only [Act.put, List.setIfInBounds_toArray, List.set_cons_succ, List.set_cons_zero]; rfl
             refine hoist [] [] (a1 := ?_) 14 rfl (by kernel_rfl) (.inl ⟨rfl, rfl⟩) rfl rfl rfl (fun x K hK => ?_) ?_
             rotate_left
             ·go_big_quiet_op
              exact hK
             refine done (by kernel_rfl) (fun xr => ?_)
             have hb := xr.bw
             replace Q := Lib.hid (Q.out.bw hb)
             replace T := Lib.hid (T.out.trans (hb.still [g]))
             clear hb
             generalize xr.now = w3 at *
             clear xr
             clear d
             have d7 : decide ((q2 : Int) < (p2 : Int)) = true := by simp; omega
             go_upto_region 21 with (fail)
             obtain ⟨vi, ci⟩ := Q.out.cell (q2) (by omega)
             obtain ⟨vj, cj⟩ := Q.out.cell (a) (by omega)
             have mi : ∀ y : LaterS [] w3, _ := fun y => y.bw.cell ci
             have mj : ∀ y : LaterS [] w3, _ := fun y => y.bw.cell cj
             clear ci cj
             refine wp_region_gg ([g]) [13] [14] (by kernel_rfl) ?_
             refine hoist [] [13] (a1 := ?_) 0 rfl (by kernel_rfl) (.inl ⟨rfl, rfl⟩) rfl rfl rfl (fun x K hK => ?_) ?_
             rotate_left
             ·go_big_quiet_op
              exact hK
             refine hoist [] [13] (a1 := ?_) 1 rfl (by kernel_rfl) (.inl ⟨rfl, rfl⟩) rfl rfl rfl (fun x K hK => ?_) ?_
             rotate_left
             ·go_big_quiet_op
              exact hK
             refine hoist ([g]) [] (a1 := ?_) 2 rfl (by kernel_rfl) (.inr rfl) rfl rfl rfl (fun x K hK => ?_) ?_
             rotate_left
             ·go_big_quiet_op
              exact hK
             refine hoist ([g]) [] (a1 := ?_) 3 rfl (by kernel_rfl) (.inr rfl) rfl rfl rfl (fun x K hK => ?_) ?_
             rotate_left
             ·go_big_quiet_op
              exact hK
             refine hoist [] [13] (a1 := ?_) 4 rfl (by kernel_rfl) (.inl ⟨rfl, rfl⟩) rfl rfl rfl (fun x K hK => ?_) ?_
             rotate_left
             ·go_big_quiet_op
              exact hK
             refine hoist [] [13] (a1 := ?_) 5 rfl (by kernel_rfl) (.inl ⟨rfl, rfl⟩) rfl rfl rfl (fun x K hK => ?_) ?_
             rotate_left
             ·go_big_quiet_op
              exact hK
             refine hoist [] [13] (a1 := ?_) 6 rfl (by kernel_rfl) (.inl ⟨rfl, rfl⟩) rfl rfl rfl (fun x K hK => ?_) ?_
             rotate_left
             ·go_big_quiet_op
              exact hK
             refine hoist [] [13] (a1 := ?_) 7 rfl (by kernel_rfl) (.inl ⟨rfl, rfl⟩) rfl rfl rfl (fun x K hK => ?_) ?_
             rotate_left
             ·go_big_quiet_op
              exact hK
             refine hoist [] [13] (a1 := ?_) 8 rfl (by kernel_rfl) (.inl ⟨rfl, rfl⟩) rfl rfl rfl (fun x K hK => ?_) ?_
             rotate_left
             ·go_big_quiet_op
              exact hK
             refine hoist [] [13] (a1 := ?_) 9 rfl (by kernel_rfl) (.inl ⟨rfl, rfl⟩) rfl rfl rfl (fun x K hK => ?_) ?_
             rotate_left
             ·go_big_quiet_op
              exact hK
             refine hoist [] [13] (a1 := ?_) 10 rfl (by kernel_rfl) (.inl ⟨rfl, rfl⟩) rfl rfl rfl (fun x K hK => ?_) ?_
             rotate_left
             ·go_big_quiet_op
              exact hK
             refine hoist [] [13] (a1 := ?_) 11 rfl (by kernel_rfl) (.inl ⟨rfl, rfl⟩) rfl rfl rfl (fun x K hK => ?_) ?_
             rotate_left
             ·go_big_quiet_op
              exact hK
             refine hoist [] [13] (a1 := ?_) 12 rfl (by kernel_rfl) (.inl ⟨rfl, rfl⟩) rfl rfl rfl (fun x K hK => ?_) ?_
             rotate_left
             ·go_big_quiet_op
              exact hK
             refine effect 13 rfl (by kernel_rfl) (by kernel_rfl) rfl (fun x13 K hK => ?_)
             have Qx := Lib.hid (Q.out.bw x13.bw)
             obtain ⟨zz, zi⟩ := Qx.out.cell (q2) (by omega)
             have fi := Qx.out.frz (by omega) (o + (q2))
             replace T := Lib.hid (T.out.trans ((x13.bw.still [g]).trans (still_sc x13.now g (o + (q2)) (.int .u32 (vj : Nat)))))
             have Q1 := Lib.hid (Qx.out.set (q2) (by omega) vj)
             go_simp
             refine hK _ _ (still_sc x13.now g (o + (q2)) (.int .u32 (vj : Nat))) ?_
             clear hK K mi mj zi fi Qx Q
             generalize x13.now.setCell _ _ = wy at *
             try simp only [Act.put, List.setIfInBounds_toArray, List.set_cons_succ, List.set_cons_zero]
             refine tail 14 rfl (by kernel_rfl) rfl (fun xr => ?_)
             simp only [List.drop_succ_cons, List.drop_zero]
             have Q := Lib.hid (Q1.out.bw xr.bw)
             clear Q1
             replace T := Lib.hid (T.out.trans (xr.bw.still [g]))
             generalize xr.now = wq at *
             clear xr
             obtain ⟨zz2, zj⟩ := Q.out.cell (a) (by omega)
             have fj := Q.out.frz (by omega) (o + (a))
             replace T := Lib.hid (T.out.trans (still_sc wq g (o + (a)) (.int .u32 (vi : Nat))))
             have Q2 := Lib.hid (Q.out.set (a) (by omega) vi)
             go_upto_region 22 with (fail)
             clear zj fj Q
             generalize wq.setCell _ _ = w9 at *
             have Q := Q2
             clear Q2
             go_wp2_with fail
             refine bodyPost_ret (results_tmp2 rfl _ _ _) rfl ?_
             exact ⟨q2, false, by omega, by omega, rfl, Q.out, T.out⟩
         ·have d : decide ((p2 : Int) ≤ (q : Int)) = false := by simp; omega
          go_upto_region 13 with (fail)
          refine wp_region_gg [] [] [] (by kernel_rfl) ?_
          refine hoist [] [] (a1 := ?_) 0 rfl (by kernel_rfl) (.inl ⟨rfl, rfl⟩) rfl rfl rfl (fun x K hK => ?_) ?_
          rotate_left
          ·go_big_quiet_op
           exact hK
          refine hoist [] [] (a1 := ?_) 1 rfl (by kernel_rfl) (.inl ⟨rfl, rfl⟩) rfl rfl rfl (fun x K hK => ?_) ?_
          rotate_left
          ·go_big_quiet_op
           exact hK
          refine hoist [] [] (a1 := ?_) 2 rfl (by kernel_rfl) (.inl ⟨rfl, rfl⟩) rfl rfl rfl (fun x K hK => ?_) ?_
          rotate_left
          ·go_big_quiet_op
           exact hK
          refine hoist [] [] (a1 := ?_) 3 rfl (by kernel_rfl) (.inl ⟨rfl, rfl⟩) rfl rfl rfl (fun x K hK => ?_) ?_
          rotate_left
          ·go_big_quiet_op
           exact hK
          refine hoist_skip [] [] 4 rfl (by kernel_rfl) (.inl ⟨rfl, rfl⟩) rfl (a1 := ?_) ?_ ?_
          rotate_left
          ·simp only [Act.put, List.setIfInBounds_toArray, List.set_cons_succ, List.set_cons_zero]; rfl
          refine hoist_skip [] [] 5 rfl (by kernel_rfl) (.inl ⟨rfl, rfl⟩) rfl (a1 := ?_) ?_ ?_
          rotate_left
          ·simp only [Act.put, List.setIfInBounds_toArray, List.set_cons_succ, List.set_cons_zero]; rfl
          refine hoist_skip [] [] 6 rfl (by kernel_rfl) (.inl ⟨rfl, rfl⟩) rfl (a1 := ?_) ?_ ?_
          rotate_left
          ·simp only [Act.put, List.setIfInBounds_toArray, List.set_cons_succ, List.set_cons_zero]; rfl
          refine hoist_skip [] [] 7 rfl (by kernel_rfl) (.inl ⟨rfl, rfl⟩) rfl (a1 := ?_) ?_ ?_
          rotate_left
          ·simp only [Act.put, List.setIfInBounds_toArray, List.set_cons_succ, List.set_cons_zero]; rfl
          refine hoist_skip [] [] 8 rfl (by kernel_rfl) (.inl ⟨rfl, rfl⟩) rfl (a1 := ?_) ?_ ?_
          rotate_left
          ·simp only [Act.put, List.setIfInBounds_toArray, List.set_cons_succ, List.set_cons_zero]; rfl
          refine hoist_skip [] [] 9 rfl (by kernel_rfl) (.inl ⟨rfl, rfl⟩) rfl (a1 := ?_) ?_ ?_
          rotate_left
          ·simp only [Act.put, List.setIfInBounds_toArray, List.set_cons_succ, List.set_cons_zero]; rfl
          refine hoist_skip [] [] 10 rfl (by kernel_rfl) (.inl ⟨rfl, rfl⟩) rfl (a1 := ?_) ?_ ?_
          rotate_left
          ·simp only [Act.put, List.setIfInBounds_toArray, List.set_cons_succ, List.set_cons_zero]; rfl
          refine hoist_skip [] [] 11 rfl (by kernel_rfl) (.inl ⟨rfl, rfl⟩) rfl (a1 := ?_) ?_ ?_
          rotate_left
          ·simp only [Act.put, List.setIfInBounds_toArray, List.set_cons_succ, List.set_cons_zero]; rfl
          refine hoist_skip [] [] 12 rfl (by kernel_rfl) (.inl ⟨rfl, rfl⟩) rfl (a1 := ?_) ?_ ?_
          rotate_left
          ·simp only [Act.put, List.setIfInBounds_toArray, List.set_cons_succ, List.set_cons_zero]; rfl
          refine hoist [] [] (a1 := ?_) 13 rfl (by kernel_rfl) (.inl ⟨rfl, rfl⟩) rfl rfl rfl (fun x K hK => ?_) ?_
          rotate_left
          ·go_big_quiet_op
           exact hK
          refine done (by kernel_rfl) (fun xr => ?_)
          have hb := xr.bw
          replace Q := Lib.hid (Q.out.bw hb)
          replace T := Lib.hid (T.out.trans (hb.still [g]))
          clear hb
          generalize xr.now = w3 at *
          clear xr
          clear d
          go_upto_region 15 with (fail)
          go_loopg [11] 0 (fun m' i wx => m' = 0 ∧ i = .int .i64 (q : Nat) ∧ Hid (SR wx base g o n cap) ∧ Hid (Still [g] w wx))
          case atStart => exact ⟨rfl, rfl, Q, T⟩
          case round =>
           clear Q T
           obtain ⟨rfl, rfl, Q, T⟩ := hrel
           have d : decide ((p2 : Int) ≤ (q : Int)) = false := by simp; omega
           go_upto_region 15 with (fail)
           refine wp_region_gg [] [] [] (by kernel_rfl) ?_
           refine hoist [] [] (a1 := ?_) 0 rfl (by kernel_rfl) (.inl ⟨rfl, rfl⟩) rfl rfl rfl (fun x K hK => ?_) ?_
           rotate_left
           ·go_big_quiet_op
            exact hK
           refine hoist [] [] (a1 := ?_) 1 rfl (by kernel_rfl) (.inl ⟨rfl, rfl⟩) rfl rfl rfl (fun x K hK => ?_) ?_
           rotate_left
           ·go_big_quiet_op
            exact hK
           refine hoist [] [] (a1 := ?_) 2 rfl (by kernel_rfl) (.inl ⟨rfl, rfl⟩) rfl rfl rfl (fun x K hK => ?_) ?_
           rotate_left
           ·go_big_quiet_op
            exact hK
           refine hoist [] [] (a1 := ?_) 3 rfl (by kernel_rfl) (.inl ⟨rfl, rfl⟩) rfl rfl rfl (fun x K hK => ?_) ?_
           rotate_left
           ·go_big_quiet_op
            exact hK
           refine hoist_skip [] [] 4 rfl (by kernel_rfl) (.inl ⟨rfl, rfl⟩) rfl (a1 := ?_) ?_ ?_
           rotate_left
           ·simp only [Act.put, List.setIfInBounds_toArray, List.set_cons_succ, List.set_cons_zero]; rfl
           refine hoist_skip [] [] 5 rfl (by kernel_rfl) (.inl ⟨rfl, rfl⟩) rfl (a1 := ?_) ?_ ?_
           rotate_left
           ·simp only [Act.put, List.setIfInBounds_toArray, List.set_cons_succ, List.set_cons_zero]; rfl
           refine hoist_skip [] [] 6 rfl (by kernel_rfl) (.inl ⟨rfl, rfl⟩) rfl (a1 := ?_) ?_ ?_
           rotate_left
           ·simp only [Act.put, List.setIfInBounds_toArray, List.set_cons_succ, List.set_cons_zero]; rfl
           refine hoist_skip [] [] 7 rfl (by kernel_rfl) (.inl ⟨rfl, rfl⟩) rfl (a1 := ?_) ?_ ?_
           rotate_left
           ·simp only [Act.put, List.setIfInBounds_toArray, List.set_cons_succ, List.set_cons_zero]; rfl
           refine hoist_skip [] [] 8 rfl (by kernel_rfl) (.inl ⟨rfl, rfl⟩) rfl (a1 := ?_) ?_ ?_
           rotate_left
           ·simp only [Act.put, List.setIfInBounds_toArray, List.set_cons_succ, List.set_cons_zero]; rfl
           refine hoist_skip [] [] 9 rfl (by kernel_rfl) (.inl ⟨rfl, rfl⟩) rfl (a1 := ?_) ?_ ?_
           rotate_left
           ·simp only [Act.put, List.setIfInBounds_toArray, List.set_cons_succ, List.set_cons_zero]; rfl
           refine hoist_skip [] [] 10 rfl (by kernel_rfl) (.inl ⟨rfl, rfl⟩) rfl (a1 := ?_) ?_ ?_
           rotate_left
           ·simp only [Act.put, List.setIfInBounds_toArray, List.set_cons_succ, List.set_cons_zero]; rfl
           refine hoist_skip [] [] 11 rfl (by kernel_rfl) (.inl ⟨rfl, rfl⟩) rfl (a1 := ?_) ?_ ?_
           rotate_left
           ·simp only [Act.put, List.setIfInBounds_toArray, List.set_cons_succ, List.set_cons_zero]; rfl
           refine hoist_skip [] [] 12 rfl (by kernel_rfl) (.inl ⟨rfl, rfl⟩) rfl (a1 := ?_) ?_ ?_
           rotate_left
           ·simp only [Act.put, List.setIfInBounds_toArray, List.set_cons_succ, List.set_cons_zero]; rfl
           refine hoist_skip [] [] 13 rfl (by kernel_rfl) (.inl ⟨rfl, rfl⟩) rfl (a1 := ?_) ?_ ?_
           rotate_left
           ·simp only [Act.put, List.setIfInBounds_toArray, List.set_cons_succ, List.set_cons_zero]; rfl
           refine hoist [] [] (a1 := ?_) 14 rfl (by kernel_rfl) (.inl ⟨rfl, rfl⟩) rfl rfl rfl (fun x K hK => ?_) ?_
           rotate_left
           ·go_big_quiet_op
            exact hK
           refine done (by kernel_rfl) (fun xr => ?_)
           have hb := xr.bw
           replace Q := Lib.hid (Q.out.bw hb)
           replace T := Lib.hid (T.out.trans (hb.still [g]))
           clear hb
           generalize xr.now = w4 at *
           clear xr
           clear d
           have d7 : decide ((q : Int) < (p2 : Int)) = true := by simp; omega
           go_upto_region 21 with (fail)
           obtain ⟨vi, ci⟩ := Q.out.cell (q) (by omega)
           obtain ⟨vj, cj⟩ := Q.out.cell (a) (by omega)
           have mi : ∀ y : LaterS [] w4, _ := fun y => y.bw.cell ci
           have mj : ∀ y : LaterS [] w4, _ := fun y => y.bw.cell cj
           clear ci cj
           refine wp_region_gg ([g]) [13] [14] (by kernel_rfl) ?_
           refine hoist [] [13] (a1 := ?_) 0 rfl (by kernel_rfl) (.inl ⟨rfl, rfl⟩) rfl rfl rfl (fun x K hK => ?_) ?_
           rotate_left
           ·go_big_quiet_op
            exact hK
           refine hoist [] [13] (a1 := ?_) 1 rfl (by kernel_rfl) (.inl ⟨rfl, rfl⟩) rfl rfl rfl (fun x K hK => ?_) ?_
           rotate_left
           ·go_big_quiet_op
            exact hK
           refine hoist ([g]) [] (a1 := ?_) 2 rfl (by kernel_rfl) (.inr rfl) rfl rfl rfl (fun x K hK => ?_) ?_
           rotate_left
           ·go_big_quiet_op
            exact hK
           refine hoist ([g]) [] (a1 := ?_) 3 rfl (by kernel_rfl) (.inr rfl) rfl rfl rfl (fun x K hK => ?_) ?_
           rotate_left
           ·go_big_quiet_op
            exact hK
           refine hoist [] [13] (a1 := ?_) 4 rfl (by kernel_rfl) (.inl ⟨rfl, rfl⟩) rfl rfl rfl (fun x K hK => ?_) ?_
           rotate_left
           ·go_big_quiet_op
            exact hK
           refine hoist [] [13] (a1 := ?_) 5 rfl (by kernel_rfl) (.inl ⟨rfl, rfl⟩) rfl rfl rfl (fun x K hK => ?_) ?_
           rotate_left
           ·go_big_quiet_op
            exact hK
           refine hoist [] [13] (a1 := ?_) 6 rfl (by kernel_rfl) (.inl ⟨rfl, rfl⟩) rfl rfl rfl (fun x K hK => ?_) ?_
           rotate_left
           ·go_big_quiet_op
            exact hK
           refine hoist [] [13] (a1 := ?_) 7 rfl (by kernel_rfl) (.inl ⟨rfl, rfl⟩) rfl rfl rfl (fun x K hK => ?_) ?_
           rotate_left
           ·go_big_quiet_op
            exact hK
           refine hoist [] [13] (a1 := ?_) 8 rfl (by kernel_rfl) (.inl ⟨rfl, rfl⟩) rfl rfl rfl (fun x K hK => ?_) ?_
           rotate_left
           ·go_big_quiet_op
            exact hK
           refine hoist [] [13] (a1 := ?_) 9 rfl (by kernel_rfl) (.inl ⟨rfl, rfl⟩) rfl rfl rfl (fun x K hK => ?_) ?_
           rotate_left
           ·go_big_quiet_op
            exact hK
           refine hoist [] [13] (a1 := ?_) 10 rfl (by kernel_rfl) (.inl ⟨rfl, rfl⟩) rfl rfl rfl (fun x K hK => ?_) ?_
           rotate_left
           ·go_big_quiet_op
            exact hK
           refine hoist [] [13] (a1 := ?_) 11 rfl (by kernel_rfl) (.inl ⟨rfl, rfl⟩) rfl rfl rfl (fun x K hK => ?_) ?_
           rotate_left
           ·go_big_quiet_op
            exact hK
           refine hoist [] [13] (a1 := ?_) 12 rfl (by kernel_rfl) (.inl ⟨rfl, rfl⟩) rfl rfl rfl (fun x K hK => ?_) ?_
           rotate_left
           ·go_big_quiet_op
            exact hK
           refine effect 13 rfl (by kernel_rfl) (by kernel_rfl) rfl (fun x13 K hK => ?_)
           have Qx := Lib.hid (Q.out.bw x13.bw)
           obtain ⟨zz, zi⟩ := Qx.out.cell (q) (by omega)
           have fi := Qx.out.frz (by omega) (o + (q))
           replace T := Lib.hid (T.out.trans ((x13.bw.still [g]).trans (still_sc x13.now g (o + (q)) (.int .u32 (vj : Nat)))))
           have Q1 := Lib.hid (Qx.out.set (q) (by omega) vj)
           go_simp
           refine hK _ _ (still_sc x13.now g (o + (q)) (.int .u32 (vj : Nat))) ?_
           clear hK K mi mj zi fi Qx Q
           generalize x13.now.setCell _ _ = wy at *
           try simp only [Act.put, List.setIfInBounds_toArray, List.set_cons_succ, List.set_cons_zero]
           refine tail 14 rfl (by kernel_rfl) rfl (fun xr => ?_)
           simp only [List.drop_succ_cons, List.drop_zero]
           have Q := Lib.hid (Q1.out.bw xr.bw)
           clear Q1
           replace T := Lib.hid (T.out.trans (xr.bw.still [g]))
           generalize xr.now = wq at *
           clear xr
           obtain ⟨zz2, zj⟩ := Q.out.cell (a) (by omega)
           have fj := Q.out.frz (by omega) (o + (a))
           replace T := Lib.hid (T.out.trans (still_sc wq g (o + (a)) (.int .u32 (vi : Nat))))
           have Q2 := Lib.hid (Q.out.set (a) (by omega) vi)
           go_upto_region 22 with (fail)
           clear zj fj Q
           generalize wq.setCell _ _ = w9 at *
           have Q := Q2
           clear Q2
           go_wp2_with fail
           refine bodyPost_ret (results_tmp2 rfl _ _ _) rfl ?_
           exact ⟨q, false, by omega, by omega, rfl, Q.out, T.out⟩
      ·rw [decide_eq_false hlt, Bool.not_false]
       go_wp2_with fail
       go_roundg (q0 + 1 - p1)
       case measure => have := hq0.out; omega
       case rel => exact ⟨q0, rfl, by have := hq0.out; omega, by have := hq0.out; omega, by first | rfl | (congr 1; omega), Q, T⟩
     ·have d : decide ((p1 : Int) ≤ (q1 : Int)) = false := by simp; omega
      go_upto_region 5 with (fail)
      refine wp_region_gg [] [] [] (by kernel_rfl) ?_
      refine hoist [] [] (a1 := ?_) 0 rfl (by kernel_rfl) (.inl ⟨rfl, rfl⟩) rfl rfl rfl (fun x K hK => ?_) ?_
      rotate_left
      ·go_big_quiet_op
       exact hK
      refine hoist [] [] (a1 := ?_) 1 rfl (by kernel_rfl) (.inl ⟨rfl, rfl⟩) rfl rfl rfl (fun x K hK => ?_) ?_
      rotate_left
      ·go_big_quiet_op
       exact hK
      refine hoist [] [] (a1 := ?_) 2 rfl (by kernel_rfl) (.inl ⟨rfl, rfl⟩) rfl rfl rfl (fun x K hK => ?_) ?_
      rotate_left
      ·go_big_quiet_op
       exact hK
      refine hoist [] [] (a1 := ?_) 3 rfl (by kernel_rfl) (.inl ⟨rfl, rfl⟩) rfl rfl rfl (fun x K hK => ?_) ?_
      rotate_left
      ·go_big_quiet_op
       exact hK
      refine hoist_skip [] [] 4 rfl (by kernel_rfl) (.inl ⟨rfl, rfl⟩) rfl (a1 := ?_) ?_ ?_
      rotate_left
      ·simp only [Act.put, List.setIfInBounds_toArray, List.set_cons_succ, List.set_cons_zero]; rfl
      refine hoist_skip [] [] 5 rfl (by kernel_rfl) (.inl ⟨rfl, rfl⟩) rfl (a1 := ?_) ?_ ?_
      rotate_left
      ·simp only [Act.put, List.setIfInBounds_toArray, List.set_cons_succ, List.set_cons_zero]; rfl
      refine hoist_skip [] [] 6 rfl (by kernel_rfl) (.inl ⟨rfl, rfl⟩) rfl (a1 := ?_) ?_ ?_
      rotate_left
      ·simp only [Act.put, List.setIfInBounds_toArray, List.set_cons_succ, List.set_cons_zero]; rfl
      refine hoist_skip [] [] 7 rfl (by kernel_rfl) (.inl ⟨rfl, rfl⟩) rfl (a1 := ?_) ?_ ?_
      rotate_left
      ·simp only [Act.put, List.setIfInBounds_toArray, List.set_cons_succ, List.set_cons_zero]; rfl
      refine hoist_skip [] [] 8 rfl (by kernel_rfl) (.inl ⟨rfl, rfl⟩) rfl (a1 := ?_) ?_ ?_
      rotate_left
      ·simp only [Act.put, List.setIfInBounds_toArray, List.set_cons_succ, List.set_cons_zero]; rfl
      refine hoist_skip [] [] 9 rfl (by kernel_rfl) (.inl ⟨rfl, rfl⟩) rfl (a1 := ?_) ?_ ?_
      rotate_left
      ·simp only [Act.put, List.setIfInBounds_toArray, List.set_cons_succ, List.set_cons_zero]; rfl
      refine hoist_skip [] [] 10 rfl (by kernel_rfl) (.inl ⟨rfl, rfl⟩) rfl (a1 := ?_) ?_ ?_
      rotate_left
      ·simp only [Act.put, List.setIfInBounds_toArray, List.set_cons_succ, List.set_cons_zero]; rfl
      refine hoist_skip [] [] 11 rfl (by kernel_rfl) (.inl ⟨rfl, rfl⟩) rfl (a1 := ?_) ?_ ?_
      rotate_left
      ·simp only [Act.put, List.setIfInBounds_toArray, List.set_cons_succ, List.set_cons_zero]; rfl
      refine hoist_skip [] [] 12 rfl (by kernel_rfl) (.inl ⟨rfl, rfl⟩) rfl (a1 := ?_) ?_ ?_
      rotate_left
      ·simp only [Act.put, List.setIfInBounds_toArray, List.set_cons_succ, List.set_cons_zero]; rfl
      refine hoist_skip [] [] 13 rfl (by kernel_rfl) (.inl ⟨rfl, rfl⟩) rfl (a1 := ?_) ?_ ?_
      rotate_left
      ·simp only [Act.put, List.setIfInBounds_toArray, List.set_cons_succ, List.set_cons_zero]; rfl
      refine hoist [] [] (a1 := ?_) 14 rfl (by kernel_rfl) (.inl ⟨rfl, rfl⟩) rfl rfl rfl (fun x K hK => ?_) ?_
      rotate_left
      ·go_big_quiet_op
       exact hK
      refine done (by kernel_rfl) (fun xr => ?_)
      have hb := xr.bw
      replace Q := Lib.hid (Q.out.bw hb)
      replace T := Lib.hid (T.out.trans (hb.still [g]))
      clear hb
      generalize xr.now = w3 at *
      clear xr
      clear d
      have d7 : decide ((q1 : Int) < (p1 : Int)) = true := by simp; omega
      go_upto_region 8 with (fail)
      obtain ⟨vi, ci⟩ := Q.out.cell (q1) (by omega)
      obtain ⟨vj, cj⟩ := Q.out.cell (a) (by omega)
      have mi : ∀ y : LaterS [] w3, _ := fun y => y.bw.cell ci
      have mj : ∀ y : LaterS [] w3, _ := fun y => y.bw.cell cj
      clear ci cj
      refine wp_region_gg ([g]) [13] [14] (by kernel_rfl) ?_
      refine hoist [] [13] (a1 := ?_) 0 rfl (by kernel_rfl) (.inl ⟨rfl, rfl⟩) rfl rfl rfl (fun x K hK => ?_) ?_
      rotate_left
      ·go_big_quiet_op
       exact hK
      refine hoist [] [13] (a1 := ?_) 1 rfl (by kernel_rfl) (.inl ⟨rfl, rfl⟩) rfl rfl rfl (fun x K hK => ?_) ?_
      rotate_left
      ·go_big_quiet_op
       exact hK
      refine hoist ([g]) [] (a1 := ?_) 2 rfl (by kernel_rfl) (.inr rfl) rfl rfl rfl (fun x K hK => ?_) ?_
      rotate_left
      ·go_big_quiet_op
       exact hK
      refine hoist ([g]) [] (a1 := ?_) 3 rfl (by kernel_rfl) (.inr rfl) rfl rfl rfl (fun x K hK => ?_) ?_
      rotate_left
      ·go_big_quiet_op
       exact hK
      refine hoist [] [13] (a1 := ?_) 4 rfl (by kernel_rfl) (.inl ⟨rfl, rfl⟩) rfl rfl rfl (fun x K hK => ?_) ?_
      rotate_left
      ·go_big_quiet_op
       exact hK
      refine hoist [] [13] (a1 := ?_) 5 rfl (by kernel_rfl) (.inl ⟨rfl, rfl⟩) rfl rfl rfl (fun x K hK => ?_) ?_
      rotate_left
      ·go_big_quiet_op
       exact hK
      refine hoist [] [13] (a1 := ?_) 6 rfl (by kernel_rfl) (.inl ⟨rfl, rfl⟩) rfl rfl rfl (fun x K hK => ?_) ?_
      rotate_left
      ·go_big_quiet_op
       exact hK
      refine hoist [] [13] (a1 := ?_) 7 rfl (by kernel_rfl) (.inl ⟨rfl, rfl⟩) rfl rfl rfl (fun x K hK => ?_) ?_
      rotate_left
      ·go_big_quiet_op
       exact hK
      refine hoist [] [13] (a1 := ?_) 8 rfl (by kernel_rfl) (.inl ⟨rfl, rfl⟩) rfl rfl rfl (fun x K hK => ?_) ?_
      rotate_left
      ·go_big_quiet_op
       exact hK
      refine hoist [] [13] (a1 := ?_) 9 rfl (by kernel_rfl) (.inl ⟨rfl, rfl⟩) rfl rfl rfl (fun x K hK => ?_) ?_
      rotate_left
      ·go_big_quiet_op
       exact hK
      refine hoist [] [13] (a1 := ?_) 10 rfl (by kernel_rfl) (.inl ⟨rfl, rfl⟩) rfl rfl rfl (fun x K hK => ?_) ?_
      rotate_left
      ·go_big_quiet_op
       exact hK
      refine hoist [] [13] (a1 := ?_) 11 rfl (by kernel_rfl) (.inl ⟨rfl, rfl⟩) rfl rfl rfl (fun x K hK => ?_) ?_
      rotate_left
      ·go_big_quiet_op
       exact hK
      refine hoist [] [13] (a1 := ?_) 12 rfl (by kernel_rfl) (.inl ⟨rfl, rfl⟩) rfl rfl rfl (fun x K hK => ?_) ?_
      rotate_left
      ·go_big_quiet_op
       exact hK
      refine effect 13 rfl (by kernel_rfl) (by kernel_rfl) rfl (fun x13 K hK => ?_)
      have Qx := Lib.hid (Q.out.bw x13.bw)
      obtain ⟨zz, zi⟩ := Qx.out.cell (q1) (by omega)
      have fi := Qx.out.frz (by omega) (o + (q1))
      replace T := Lib.hid (T.out.trans ((x13.bw.still [g]).trans (still_sc x13.now g (o + (q1)) (.int .u32 (vj : Nat)))))
      have Q1 := Lib.hid (Qx.out.set (q1) (by omega) vj)
      go_simp
      refine hK _ _ (still_sc x13.now g (o + (q1)) (.int .u32 (vj : Nat))) ?_
      clear hK K mi mj zi fi Qx Q
      generalize x13.now.setCell _ _ = wy at *
      try simp only [Act.put, List.setIfInBounds_toArray, List.set_cons_succ, List.set_cons_zero]
      refine tail 14 rfl (by kernel_rfl) rfl (fun xr => ?_)
      simp only [List.drop_succ_cons, List.drop_zero]
      have Q := Lib.hid (Q1.out.bw xr.bw)
      clear Q1
      replace T := Lib.hid (T.out.trans (xr.bw.still [g]))
      generalize xr.now = wq at *
      clear xr
      obtain ⟨zz2, zj⟩ := Q.out.cell (a) (by omega)
      have fj := Q.out.frz (by omega) (o + (a))
      replace T := Lib.hid (T.out.trans (still_sc wq g (o + (a)) (.int .u32 (vi : Nat))))
      have Q2 := Lib.hid (Q.out.set (a) (by omega) vi)
      go_upto_region 9 with (fail)
      clear zj fj Q
      generalize wq.setCell _ _ = w9 at *
      have Q := Q2
      clear Q2
      go_wp2_with fail
      refine bodyPost_ret (results_tmp2 rfl _ _ _) rfl ?_
      exact ⟨q1, true, by omega, by omega, rfl, Q.out, T.out⟩
  ·have d : decide ((p1 : Int) ≤ (b1 : Int)) = false := by simp; omega
   go_upto_region 3 with (fail)
   refine wp_region_gg [] [] [] (by kernel_rfl) ?_
   refine hoist [] [] (a1 := ?_) 0 rfl (by kernel_rfl) (.inl ⟨rfl, rfl⟩) rfl rfl rfl (fun x K hK => ?_) ?_
   rotate_left
   ·go_big_quiet_op
    exact hK
   refine hoist [] [] (a1 := ?_) 1 rfl (by kernel_rfl) (.inl ⟨rfl, rfl⟩) rfl rfl rfl (fun x K hK => ?_) ?_
   rotate_left
   ·go_big_quiet_op
    exact hK
   refine hoist [] [] (a1 := ?_) 2 rfl (by kernel_rfl) (.inl ⟨rfl, rfl⟩) rfl rfl rfl (fun x K hK => ?_) ?_
   rotate_left
   ·go_big_quiet_op
    exact hK
   refine hoist [] [] (a1 := ?_) 3 rfl (by kernel_rfl) (.inl ⟨rfl, rfl⟩) rfl rfl rfl (fun x K hK => ?_) ?_
   rotate_left
   ·go_big_quiet_op
    exact hK
   refine hoist_skip [] [] 4 rfl (by kernel_rfl) (.inl ⟨rfl, rfl⟩) rfl (a1 := ?_) ?_ ?_
   rotate_left
   ·simp only [Act.put, List.setIfInBounds_toArray, List.set_cons_succ, List.set_cons_zero]; rfl
   refine hoist_skip [] [] 5 rfl (by kernel_rfl) (.inl ⟨rfl, rfl⟩) rfl (a1 := ?_) ?_ ?_
   rotate_left
   ·simp only [Act.put, List.setIfInBounds_toArray, List.set_cons_succ, List.set_cons_zero]; rfl
   refine hoist_skip [] [] 6 rfl (by kernel_rfl) (.inl ⟨rfl, rfl⟩) rfl (a1 := ?_) ?_ ?_
   rotate_left
   ·simp only [Act.put, List.setIfInBounds_toArray, List.set_cons_succ, List.set_cons_zero]; rfl
   refine hoist_skip [] [] 7 rfl (by kernel_rfl) (.inl ⟨rfl, rfl⟩) rfl (a1 := ?_) ?_ ?_
   rotate_left
   ·simp only [Act.put, List.setIfInBounds_toArray, List.set_cons_succ, List.set_cons_zero]; rfl
   refine hoist_skip [] [] 8 rfl (by kernel_rfl) (.inl ⟨rfl, rfl⟩) rfl (a1 := ?_) ?_ ?_
   rotate_left
   ·simp only [Act.put, List.setIfInBounds_toArray, List.set_cons_succ, List.set_cons_zero]; rfl
   refine hoist_skip [] [] 9 rfl (by kernel_rfl) (.inl ⟨rfl, rfl⟩) rfl (a1 := ?_) ?_ ?_
   rotate_left
   ·simp only [Act.put, List.setIfInBounds_toArray, List.set_cons_succ, List.set_cons_zero]; rfl
   refine hoist_skip [] [] 10 rfl (by kernel_rfl) (.inl ⟨rfl, rfl⟩) rfl (a1 := ?_) ?_ ?_
   rotate_left
   ·simp only [Act.put, List.setIfInBounds_toArray, List.set_cons_succ, List.set_cons_zero]; rfl
   refine hoist_skip [] [] 11 rfl (by kernel_rfl) (.inl ⟨rfl, rfl⟩) rfl (a1 := ?_) ?_ ?_
   rotate_left
   ·simp only [Act.put, List.setIfInBounds_toArray, List.set_cons_succ, List.set_cons_zero]; rfl
   refine hoist_skip [] [] 12 rfl (by kernel_rfl) (.inl ⟨rfl, rfl⟩) rfl (a1 := ?_) ?_ ?_
   rotate_left
   ·simp only [Act.put, List.setIfInBounds_toArray, List.set_cons_succ, List.set_cons_zero]; rfl
   refine hoist [] [] (a1 := ?_) 13 rfl (by kernel_rfl) (.inl ⟨rfl, rfl⟩) rfl rfl rfl (fun x K hK => ?_) ?_
   rotate_left
   ·go_big_quiet_op
    exact hK
   refine done (by kernel_rfl) (fun xr => ?_)
   have hb := xr.bw
   replace Q := Lib.hid (Q.out.bw hb)
   replace T := Lib.hid (T.out.trans (hb.still [g]))
   clear hb
   generalize xr.now = w3 at *
   clear xr
   clear d
   go_upto_region 5 with (fail)
   go_loopg [11] 0 (fun m' i wx => m' = 0 ∧ i = .int .i64 (b1 : Nat) ∧ Hid (SR wx base g o n cap) ∧ Hid (Still [g] w wx))
   case atStart => exact ⟨rfl, rfl, Q, T⟩
   case round =>
    clear Q T
    obtain ⟨rfl, rfl, Q, T⟩ := hrel
    have d : decide ((p1 : Int) ≤ (b1 : Int)) = false := by simp; omega
    go_upto_region 5 with (fail)
    refine wp_region_gg [] [] [] (by kernel_rfl) ?_
    refine hoist [] [] (a1 := ?_) 0 rfl (by kernel_rfl) (.inl ⟨rfl, rfl⟩) rfl rfl rfl (fun x K hK => ?_) ?_
    rotate_left
    ·go_big_quiet_op
     exact hK
    refine hoist [] [] (a1 := ?_) 1 rfl (by kernel_rfl) (.inl ⟨rfl, rfl⟩) rfl rfl rfl (fun x K hK => ?_) ?_
    rotate_left
    ·go_big_quiet_op
     exact hK
    refine hoist [] [] (a1 := ?_) 2 rfl (by kernel_rfl) (.inl ⟨rfl, rfl⟩) rfl rfl rfl (fun x K hK => ?_) ?_
    rotate_left
    ·go_big_quiet_op
     exact hK
    refine hoist [] [] (a1 := ?_) 3 rfl (by kernel_rfl) (.inl ⟨rfl, rfl⟩) rfl rfl rfl (fun x K hK => ?_) ?_
    rotate_left
    ·go_big_quiet_op
     exact hK
    refine hoist_skip [] [] 4 rfl (by kernel_rfl) (.inl ⟨rfl, rfl⟩) rfl (a1 := ?_) ?_ ?_
    rotate_left
    ·simp only [Act.put, List.setIfInBounds_toArray, List.set_cons_succ, List.set_cons_zero]; rfl
    refine hoist_skip [] [] 5 rfl (by kernel_rfl) (.inl ⟨rfl, rfl⟩) rfl (a1 := ?_) ?_ ?_
    rotate_left
    ·simp only [Act.put, List.setIfInBounds_toArray, List.set_cons_succ, List.set_cons_zero]; rfl
    refine hoist_skip [] [] 6 rfl (by kernel_rfl) (.inl ⟨rfl, rfl⟩) rfl (a1 := ?_) ?_ ?_
    rotate_left
    ·simp only [Act.put, List.setIfInBounds_toArray, List.set_cons_succ, List.set_cons_zero]; rfl
    refine hoist_skip [] [] 7 rfl (by kernel_rfl) (.inl ⟨rfl, rfl⟩) rfl (a1 := ?_) ?_ ?_
    rotate_left
    ·simp only [Act.put, List.setIfInBounds_toArray, List.set_cons_succ, List.set_cons_zero]; rfl
    refine hoist_skip [] [] 8 rfl (by kernel_rfl) (.inl ⟨rfl, rfl⟩) rfl (a1 := ?_) ?_ ?_
    rotate_left
    ·simp only [Act.put, List.setIfInBounds_toArray, List.set_cons_succ, List.set_cons_zero]; rfl
    refine hoist_skip [] [] 9 rfl (by kernel_rfl) (.inl ⟨rfl, rfl⟩) rfl (a1 := ?_) ?_ ?_
    rotate_left
    ·simp only [Act.put, List.setIfInBounds_toArray, List.set_cons_succ, List.set_cons_zero]; rfl
    refine hoist_skip [] [] 10 rfl (by kernel_rfl) (.inl ⟨rfl, rfl⟩) rfl (a1 := ?_) ?_ ?_
    rotate_left
    ·simp only [Act.put, List.setIfInBounds_toArray, List.set_cons_succ, List.set_cons_zero]; rfl
    refine hoist_skip [] [] 11 rfl (by kernel_rfl) (.inl ⟨rfl, rfl⟩) rfl (a1 := ?_) ?_ ?_
    rotate_left
    ·simp only [Act.put, List.setIfInBounds_toArray, List.set_cons_succ, List.set_cons_zero]; rfl
    refine hoist_skip [] [] 12 rfl (by kernel_rfl) (.inl ⟨rfl, rfl⟩) rfl (a1 := ?_) ?_ ?_
    rotate_left
    ·simp only [Act.put, List.setIfInBounds_toArray, List.set_cons_succ, List.set_cons_zero]; rfl
    refine hoist_skip [] [] 13 rfl (by kernel_rfl) (.inl ⟨rfl, rfl⟩) rfl (a1 := ?_) ?_ ?_
    rotate_left
    ·simp only [Act.put, List.setIfInBounds_toArray, List.set_cons_succ, List.set_cons_zero]; rfl
    refine hoist [] [] (a1 := ?_) 14 rfl (by kernel_rfl) (.inl ⟨rfl, rfl⟩) rfl rfl rfl (fun x K hK => ?_) ?_
    rotate_left
    ·go_big_quiet_op
     exact hK
    refine done (by kernel_rfl) (fun xr => ?_)
    have hb := xr.bw
    replace Q := Lib.hid (Q.out.bw hb)
    replace T := Lib.hid (T.out.trans (hb.still [g]))
    clear hb
    generalize xr.now = w4 at *
    clear xr
    clear d
    have d7 : decide ((b1 : Int) < (p1 : Int)) = true := by simp; omega
    go_upto_region 8 with (fail)
    obtain ⟨vi, ci⟩ := Q.out.cell (b1) (by omega)
    obtain ⟨vj, cj⟩ := Q.out.cell (a) (by omega)
    have mi : ∀ y : LaterS [] w4, _ := fun y => y.bw.cell ci
    have mj : ∀ y : LaterS [] w4, _ := fun y => y.bw.cell cj
    clear ci cj
    refine wp_region_gg ([g]) [13] [14] (by kernel_rfl) ?_
    refine hoist [] [13] (a1 := ?_) 0 rfl (by kernel_rfl) (.inl ⟨rfl, rfl⟩) rfl rfl rfl (fun x K hK => ?_) ?_
    rotate_left
    ·go_big_quiet_op
     exact hK
    refine hoist [] [13] (a1 := ?_) 1 rfl (by kernel_rfl) (.inl ⟨rfl, rfl⟩) rfl rfl rfl (fun x K hK => ?_) ?_
    rotate_left
    ·go_big_quiet_op
     exact hK
    refine hoist ([g]) [] (a1 := ?_) 2 rfl (by kernel_rfl) (.inr rfl) rfl rfl rfl (fun x K hK => ?_) ?_
    rotate_left
    ·go_big_quiet_op
     exact hK
    refine hoist ([g]) [] (a1 := ?_) 3 rfl (by kernel_rfl) (.inr rfl) rfl rfl rfl (fun x K hK => ?_) ?_
    rotate_left
    ·go_big_quiet_op
     exact hK
    refine hoist [] [13] (a1 := ?_) 4 rfl (by kernel_rfl) (.inl ⟨rfl, rfl⟩) rfl rfl rfl (fun x K hK => ?_) ?_
    rotate_left
    ·go_big_quiet_op
     exact hK
    refine hoist [] [13] (a1 := ?_) 5 rfl (by kernel_rfl) (.inl ⟨rfl, rfl⟩) rfl rfl rfl (fun x K hK => ?_) ?_
    rotate_left
    ·go_big_quiet_op
     exact hK
    refine hoist [] [13] (a1 := ?_) 6 rfl (by kernel_rfl) (.inl ⟨rfl, rfl⟩) rfl rfl rfl (fun x K hK => ?_) ?_
    rotate_left
    ·go_big_quiet_op
     exact hK
    refine hoist [] [13] (a1 := ?_) 7 rfl (by kernel_rfl) (.inl ⟨rfl, rfl⟩) rfl rfl rfl (fun x K hK => ?_) ?_
    rotate_left
    ·go_big_quiet_op
     exact hK
    refine hoist [] [13] (a1 := ?_) 8 rfl (by kernel_rfl) (.inl ⟨rfl, rfl⟩) rfl rfl rfl (fun x K hK => ?_) ?_
    rotate_left
    ·go_big_quiet_op
     exact hK
    refine hoist [] [13] (a1 := ?_) 9 rfl (by kernel_rfl) (.inl ⟨rfl, rfl⟩) rfl rfl rfl (fun x K hK => ?_) ?_
    rotate_left
    ·go_big_quiet_op
     exact hK
    refine hoist [] [13] (a1 := ?_) 10 rfl (by kernel_rfl) (.inl ⟨rfl, rfl⟩) rfl rfl rfl (fun x K hK => ?_) ?_
    rotate_left
    ·go_big_quiet_op
     exact hK
    refine hoist [] [13] (a1 := ?_) 11 rfl (by kernel_rfl) (.inl ⟨rfl, rfl⟩) rfl rfl rfl (fun x K hK => ?_) ?_
    rotate_left
    ·go_big_quiet_op
     exact hK
    refine hoist [] [13] (a1 := ?_) 12 rfl (by kernel_rfl) (.inl ⟨rfl, rfl⟩) rfl rfl rfl (fun x K hK => ?_) ?_
    rotate_left
    ·go_big_quiet_op
     exact hK
    refine effect 13 rfl (by kernel_rfl) (by kernel_rfl) rfl (fun x13 K hK => ?_)
    have Qx := Lib.hid (Q.out.bw x13.bw)
    obtain ⟨zz, zi⟩ := Qx.out.cell (b1) (by omega)
    have fi := Qx.out.frz (by omega) (o + (b1))
    replace T := Lib.hid (T.out.trans ((x13.bw.still [g]).trans (still_sc x13.now g (o + (b1)) (.int .u32 (vj : Nat)))))
    have Q1 := Lib.hid (Qx.out.set (b1) (by omega) vj)
    go_simp
    refine hK _ _ (still_sc x13.now g (o + (b1)) (.int .u32 (vj : Nat))) ?_
    clear hK K mi mj zi fi Qx Q
    generalize x13.now.setCell _ _ = wy at *
    try simp only [Act.put, List.setIfInBounds_toArray, List.set_cons_succ, List.set_cons_zero]
    refine tail 14 rfl (by kernel_rfl) rfl (fun xr => ?_)
    simp only [List.drop_succ_cons, List.drop_zero]
    have Q := Lib.hid (Q1.out.bw xr.bw)
    clear Q1
    replace T := Lib.hid (T.out.trans (xr.bw.still [g]))
    generalize xr.now = wq at *
    clear xr
    obtain ⟨zz2, zj⟩ := Q.out.cell (a) (by omega)
    have fj := Q.out.frz (by omega) (o + (a))
    replace T := Lib.hid (T.out.trans (still_sc wq g (o + (a)) (.int .u32 (vi : Nat))))
    have Q2 := Lib.hid (Q.out.set (a) (by omega) vi)
    go_upto_region 9 with (fail)
    clear zj fj Q
    generalize wq.setCell _ _ = w9 at *
    have Q := Q2
    clear Q2
    go_wp2_with fail
    refine bodyPost_ret (results_tmp2 rfl _ _ _) rfl ?_
    exact ⟨b1, true, by omega, by omega, rfl, Q.out, T.out⟩
end Go.Proofs.YtafhnlnhflehhaaGreatDoor
