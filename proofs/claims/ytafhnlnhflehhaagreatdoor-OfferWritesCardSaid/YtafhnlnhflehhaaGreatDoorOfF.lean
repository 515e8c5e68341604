/- slices: reverseRange, siftDown, heapSort of numbers of 32 bits: the row stays a row (printed by wip/gen/genOfF.py). No condition but the sizes'. -/
import Derived.Test.YtafhnlnhflehhaaGreatDoorOfE
namespace Go.Proofs.YtafhnlnhflehhaaGreatDoor
open Go.RowKit
set_option maxRecDepth 100000 in
set_option maxHeartbeats 8000000 in
theorem rev_any (base g o n cap a b : Nat) (hab : a < b) (hbn : b ≤ n) (hn : n ≤ 1000000) (w : World) (h : SR w base g o n cap) :
  Calls Tryz.prog 83 #[.slice (some ⟨g, o, none⟩) n cap, .int .i64 (a : Nat), .int .i64 (b : Nat)] w fun e w' => e = .returned (.tuple #[]) ∧ SR w' base g o n cap ∧ Still [g] w w' := by
 have hcm : cap ≤ 9223372036854775807 ∧ n ≤ cap := by
  obtain ⟨l, q⟩ := h
  obtain ⟨_, _, he, hcn, hcm⟩ := q.len
  cases he
  exact ⟨hcm, hcn⟩
 obtain ⟨hcm, hcn⟩ := hcm
 have Q := Lib.hid h
 have T := Lib.hid (Still.refl [g] w)
 clear h
 go_enter Tryz.func83, Tryz.ntmps83
 obtain ⟨b1, hb1⟩ : ∃ b1, b = b1 + 1 := ⟨b - 1, by omega⟩
 have eb : (b : Int) - 1 = (b1 : Int) := by omega
 replace hb1 := Lib.hid hb1
 go_upto_region 2 with (fail)
 clear eb
 go_loopg [6, 7] (b1 + 1 - a) (fun m' i j wx => ∃ (p q : Nat), m' = q + 1 - p ∧ a ≤ p ∧ q ≤ b1 ∧ p ≤ q + 2 ∧ i = .int .i64 (p : Nat) ∧ j = .int .i64 (q : Nat) ∧ Hid (SR wx base g o n cap) ∧ Hid (Still [g] w wx))
 case atStart => exact ⟨a, b1, by omega, by omega, by omega, by have := hb1.out; omega, rfl, rfl, Q, T⟩
 case round =>
  clear Q T
  obtain ⟨p, q, rfl, hp, hq, hpq, rfl, rfl, Q, T⟩ := hrel
  by_cases hlt : p < q
  ·have d : decide ((p : Int) < (q : Int)) = true := by simp; omega
   have hqn : q < n := by have := hb1.out; omega
   have hpn : p < n := by omega
   obtain ⟨q1, hq1⟩ : ∃ q1, q = q1 + 1 := ⟨q - 1, by omega⟩
   have eq : (q : Int) - 1 = (q1 : Int) := by omega
   replace hq1 := Lib.hid hq1
   go_upto_region 3 with (fail)
   obtain ⟨vi, ci⟩ := Q.out.cell (p) (by omega)
   obtain ⟨vj, cj⟩ := Q.out.cell (q) (by omega)
   have mi : ∀ y : LaterS [] wr, _ := fun y => y.bw.cell ci
   have mj : ∀ y : LaterS [] wr, _ := fun y => y.bw.cell cj
   clear ci cj
   refine wp_region_gg ([g]) [13] [14] (by kernel_rfl) ?_
   refine hoist [] [13] (a1 := ?_) 0 rfl (by kernel_rfl) (.inl ⟨rfl, rfl⟩) rfl rfl rfl (fun x K hK => ?_) ?_
   rotate_left
   ·go_big_quiet_op
    exact hK
   refine hoist [] [13] (a1 := ?_) 1 rfl (by kernel_rfl) (.inl ⟨rfl, rfl⟩) rfl rfl rfl (fun x K hK => ?_) ?_
   rotate_left
   ·go_big_quiet_op
    exact hK
   refine hoist ([g]) [] (a1 := ?_) 2 rfl (by kernel_rfl) (.inr rfl) rfl rfl rfl (fun x K hK => ?_) ?_
   rotate_left
   ·go_big_quiet_op
    exact hK
   refine hoist ([g]) [] (a1 := ?_) 3 rfl (by kernel_rfl) (.inr rfl) rfl rfl rfl (fun x K hK => ?_) ?_
   rotate_left
   ·go_big_quiet_op
    exact hK
   refine hoist [] [13] (a1 := ?_) 4 rfl (by kernel_rfl) (.inl ⟨rfl, rfl⟩) rfl rfl rfl (fun x K hK => ?_) ?_
   rotate_left
   ·go_big_quiet_op
    exact hK
   refine hoist [] [13] (a1 := ?_) 5 rfl (by kernel_rfl) (.inl ⟨rfl, rfl⟩) rfl rfl rfl (fun x K hK => ?_) ?_
   rotate_left
   ·go_big_quiet_op
    exact hK
   refine hoist [] [13] (a1 := ?_) 6 rfl (by kernel_rfl) (.inl ⟨rfl, rfl⟩) rfl rfl rfl (fun x K hK => ?_) ?_
   rotate_left
   ·go_big_quiet_op
    exact hK
   refine hoist [] [13] (a1 := ?_) 7 rfl (by kernel_rfl) (.inl ⟨rfl, rfl⟩) rfl rfl rfl (fun x K hK => ?_) ?_
   rotate_left
   ·go_big_quiet_op
    exact hK
   refine hoist [] [13] (a1 := ?_) 8 rfl (by kernel_rfl) (.inl ⟨rfl, rfl⟩) rfl rfl rfl (fun x K hK => ?_) ?_
   rotate_left
   ·go_big_quiet_op
    exact hK
   refine hoist [] [13] (a1 := ?_) 9 rfl (by kernel_rfl) (.inl ⟨rfl, rfl⟩) rfl rfl rfl (fun x K hK => ?_) ?_
   rotate_left
   ·go_big_quiet_op
    exact hK
   refine hoist [] [13] (a1 := ?_) 10 rfl (by kernel_rfl) (.inl ⟨rfl, rfl⟩) rfl rfl rfl (fun x K hK => ?_) ?_
   rotate_left
   ·go_big_quiet_op
    exact hK
   refine hoist [] [13] (a1 := ?_) 11 rfl (by kernel_rfl) (.inl ⟨rfl, rfl⟩) rfl rfl rfl (fun x K hK => ?_) ?_
   rotate_left
   ·go_big_quiet_op
    exact hK
   refine hoist [] [13] (a1 := ?_) 12 rfl (by kernel_rfl) (.inl ⟨rfl, rfl⟩) rfl rfl rfl (fun x K hK => ?_) ?_
   rotate_left
   ·go_big_quiet_op
    exact hK
   refine effect 13 rfl (by kernel_rfl) (by kernel_rfl) rfl (fun x13 K hK => ?_)
   have Qx := Lib.hid (Q.out.bw x13.bw)
   obtain ⟨zz, zi⟩ := Qx.out.cell (p) (by omega)
   have fi := Qx.out.frz (by omega) (o + (p))
   replace T := Lib.hid (T.out.trans ((x13.bw.still [g]).trans (still_sc x13.now g (o + (p)) (.int .u32 (vj : Nat)))))
   have Q1 := Lib.hid (Qx.out.set (p) (by omega) vj)
   go_simp
   refine hK _ _ (still_sc x13.now g (o + (p)) (.int .u32 (vj : Nat))) ?_
   clear hK K mi mj zi fi Qx Q
   generalize x13.now.setCell _ _ = wy at *
   try simp only [Act.put, List.setIfInBounds_toArray, List.set_cons_succ, List.set_cons_zero]
   refine tail 14 rfl (by kernel_rfl) rfl (fun xr => ?_)
   simp only [List.drop_succ_cons, List.drop_zero]
   have Q := Lib.hid (Q1.out.bw xr.bw)
   clear Q1
   replace T := Lib.hid (T.out.trans (xr.bw.still [g]))
   generalize xr.now = wq at *
   clear xr
   obtain ⟨zz2, zj⟩ := Q.out.cell (q) (by omega)
   have fj := Q.out.frz (by omega) (o + (q))
   replace T := Lib.hid (T.out.trans (still_sc wq g (o + (q)) (.int .u32 (vi : Nat))))
   have Q2 := Lib.hid (Q.out.set (q) (by omega) vi)
   go_upto_region 4 with (fail)
   clear zj fj Q
   generalize wq.setCell _ _ = w4 at *
   have Q := Q2
   clear Q2
   go_wp2_with fail
   go_roundg (q1 + 1 - (p + 1))
   case measure => have := hq1.out; omega
   case rel => exact ⟨p + 1, q1, rfl, by omega, by have := hq1.out; omega, by have := hq1.out; omega, by first | rfl | (push_cast; rfl), by first | rfl | (congr 1; omega), Q, T⟩
  ·have d : decide ((p : Int) < (q : Int)) = false := by simp; omega
   go_wp2_with fail
   go_end0
   exact ⟨rfl, Q.out, T.out⟩
set_option maxRecDepth 100000 in
set_option maxHeartbeats 8000000 in
theorem sift_any (base g o n cap lo hi fi : Nat) (hbn : fi + hi ≤ n) (hn : n ≤ 1000000) (hlo : lo ≤ 1000000) (w : World) (h : SR w base g o n cap) :
  Calls Tryz.prog 98 #[.slice (some ⟨g, o, none⟩) n cap, .int .i64 (lo : Nat), .int .i64 (hi : Nat), .int .i64 (fi : Nat)] w fun e w' => e = .returned (.tuple #[]) ∧ SR w' base g o n cap ∧ Still [g] w w' := by
 have hcm : cap ≤ 9223372036854775807 ∧ n ≤ cap := by
  obtain ⟨l, q⟩ := h
  obtain ⟨_, _, he, hcn, hcm⟩ := q.len
  cases he
  exact ⟨hcm, hcn⟩
 obtain ⟨hcm, hcn⟩ := hcm
 have Q := Lib.hid h
 have T := Lib.hid (Still.refl [g] w)
 clear h
 go_enter Tryz.func98, Tryz.ntmps98
 go_upto_region 1 with (fail)
 go_loopg [8] (hi + 1 - lo) (fun m' i wx => ∃ (r : Nat), m' = hi + 1 - r ∧ r ≤ 1000000 ∧ i = .int .i64 (r : Nat) ∧ Hid (SR wx base g o n cap) ∧ Hid (Still [g] w wx))
 case atStart => exact ⟨lo, by omega, by omega, rfl, Q, T⟩
 case round =>
  clear Q T
  obtain ⟨r, rfl, hr, rfl, Q, T⟩ := hrel
  obtain ⟨c, hc⟩ : ∃ c, 2 * r + 1 = c := ⟨_, rfl⟩
  have ec : 2 * (r : Int) + 1 = (c : Int) := by omega
  replace hc := Lib.hid hc
  by_cases hch : hi ≤ c
  ·have d : decide ((hi : Int) ≤ (c : Int)) = true := by simp; omega
   go_wp2_with fail
   go_end0
   exact ⟨rfl, Q.out, T.out⟩
  have d : decide ((hi : Int) ≤ (c : Int)) = false := by simp; omega
  have hrc : r < c := by have := hc.out; omega
  obtain ⟨fr, hfr⟩ : ∃ x, fi + r = x := ⟨_, rfl⟩
  obtain ⟨fc, hfc⟩ : ∃ x, fi + c = x := ⟨_, rfl⟩
  have hfrn : fr < n := by omega
  have hfcn : fc < n := by omega
  have e1 : (fi : Int) + (r : Int) = (fr : Int) := by omega
  have e2 : (fi : Int) + (c : Int) = (fc : Int) := by omega
  go_upto_region 3 with (fail)
  clear ec
  obtain ⟨c1, hc1⟩ : ∃ x, c + 1 = x := ⟨_, rfl⟩
  obtain ⟨fc1, hfc1⟩ : ∃ x, fc + 1 = x := ⟨_, rfl⟩
  have ec1 : (c : Int) + 1 = (c1 : Int) := by omega
  by_cases hch1 : c1 < hi
  ·have d2 : decide ((c1 : Int) < (hi : Int)) = true := by simp; omega
   have hf1n : fc1 < n := by omega
   have hrc1 : r < c1 := by omega
   have hc1m : c1 ≤ 1000000 := by omega
   have e3 : (fi : Int) + (c1 : Int) = (fc1 : Int) := by omega
   have ef1 : (fc : Int) + 1 = (fc1 : Int) := by omega
   replace hc1 := Lib.hid hc1
   replace hfc1 := Lib.hid hfc1
   obtain ⟨vi, ci⟩ := Q.out.cell (fc) (by omega)
   obtain ⟨vj, cj⟩ := Q.out.cell (fc1) (by omega)
   have mi : ∀ y : LaterS [] wr, _ := fun y => y.bw.cell ci
   have mj : ∀ y : LaterS [] wr, _ := fun y => y.bw.cell cj
   clear ci cj
   refine wp_region_gg [] [] [] (by kernel_rfl) ?_
   refine hoist [] [] (a1 := ?_) 0 rfl (by kernel_rfl) (.inl ⟨rfl, rfl⟩) rfl rfl rfl (fun x K hK => ?_) ?_
   rotate_left
   ·go_big_quiet_op
    exact hK
   refine hoist [] [] (a1 := ?_) 1 rfl (by kernel_rfl) (.inl ⟨rfl, rfl⟩) rfl rfl rfl (fun x K hK => ?_) ?_
   rotate_left
   ·go_big_quiet_op
    exact hK
   refine hoist [] [] (a1 := ?_) 2 rfl (by kernel_rfl) (.inl ⟨rfl, rfl⟩) rfl rfl rfl (fun x K hK => ?_) ?_
   rotate_left
   ·go_big_quiet_op
    exact hK
   refine hoist [] [] (a1 := ?_) 3 rfl (by kernel_rfl) (.inl ⟨rfl, rfl⟩) rfl rfl rfl (fun x K hK => ?_) ?_
   rotate_left
   ·go_big_quiet_op
    exact hK
   refine hoist [] [] (a1 := ?_) 4 rfl (by kernel_rfl) (.inl ⟨rfl, rfl⟩) rfl rfl rfl (fun x K hK => ?_) ?_
   rotate_left
   ·go_big_quiet_op
    exact hK
   refine hoist [] [] (a1 := ?_) 5 rfl (by kernel_rfl) (.inl ⟨rfl, rfl⟩) rfl rfl rfl (fun x K hK => ?_) ?_
   rotate_left
   ·go_big_quiet_op
    exact hK
   refine hoist [] [] (a1 := ?_) 6 rfl (by kernel_rfl) (.inl ⟨rfl, rfl⟩) rfl rfl rfl (fun x K hK => ?_) ?_
   rotate_left
   ·go_big_quiet_op
    exact hK
   refine hoist [] [] (a1 := ?_) 7 rfl (by kernel_rfl) (.inl ⟨rfl, rfl⟩) rfl rfl rfl (fun x K hK => ?_) ?_
   rotate_left
   ·go_big_quiet_op
    exact hK
   refine hoist [] [] (a1 := ?_) 8 rfl (by kernel_rfl) (.inl ⟨rfl, rfl⟩) rfl rfl rfl (fun x K hK => ?_) ?_
   rotate_left
   ·go_big_quiet_op
    exact hK
   refine hoist [] [] (a1 := ?_) 9 rfl (by kernel_rfl) (.inl ⟨rfl, rfl⟩) rfl rfl rfl (fun x K hK => ?_) ?_
   rotate_left
   ·go_big_quiet_op
    exact hK
   refine hoist [] [] (a1 := ?_) 10 rfl (by kernel_rfl) (.inl ⟨rfl, rfl⟩) rfl rfl rfl (fun x K hK => ?_) ?_
   rotate_left
   ·go_big_quiet_op
    exact hK
   refine hoist [] [] (a1 := ?_) 11 rfl (by kernel_rfl) (.inl ⟨rfl, rfl⟩) rfl rfl rfl (fun x K hK => ?_) ?_
   rotate_left
   ·go_big_quiet_op
    exact hK
   refine hoist [] [] (a1 := ?_) 12 rfl (by kernel_rfl) (.inl ⟨rfl, rfl⟩) rfl rfl rfl (fun x K hK => ?_) ?_
   rotate_left
   ·go_big_quiet_op
    exact hK
   refine hoist [] [] (a1 := ?_) 13 rfl (by kernel_rfl) (.inl ⟨rfl, rfl⟩) rfl rfl rfl (fun x K hK => ?_) ?_
   rotate_left
   ·go_big_quiet_op
    exact hK
   refine hoist [] [] (a1 := ?_) 14 rfl (by kernel_rfl) (.inl ⟨rfl, rfl⟩) rfl rfl rfl (fun x K hK => ?_) ?_
   rotate_left
   ·go_big_quiet_op
    exact hK
   refine hoist [] [] (a1 := ?_) 15 rfl (by kernel_rfl) (.inl ⟨rfl, rfl⟩) rfl rfl rfl (fun x K hK => ?_) ?_
   rotate_left
   ·go_big_quiet_op
    exact hK
   refine hoist [] [] (a1 := ?_) 16 rfl (by kernel_rfl) (.inl ⟨rfl, rfl⟩) rfl rfl rfl (fun x K hK => ?_) ?_
   rotate_left
   ·go_big_quiet_op
    exact hK
   refine hoist [] [] (a1 := ?_) 17 rfl (by kernel_rfl) (.inl ⟨rfl, rfl⟩) rfl rfl rfl (fun x K hK => ?_) ?_
   rotate_left
   ·go_big_quiet_op
    exact hK
   refine effect 18 rfl (by kernel_rfl) (by kernel_rfl) rfl (fun x18 K hK => ?_)
   go_simp
   refine Calls.mono (less_any vi vj x18.now) ?_
   rintro e wl ⟨rfl, hb⟩
   refine hK _ _ (hb.still _) ?_
   clear hK K mi mj
   have b2 := Lib.hid (x18.bw.trans hb)
   clear hb
   try simp only [Act.put, List.setIfInBounds_toArray, List.set_cons_succ, List.set_cons_zero]
   refine hoist [] [] (a1 := ?_) 19 rfl (by kernel_rfl) (.inl ⟨rfl, rfl⟩) rfl rfl rfl (fun x K hK => ?_) ?_
   rotate_left
   ·go_big_quiet_op
    exact hK
   refine done (by kernel_rfl) (fun xr => ?_)
   have hb := b2.out.trans xr.bw
   replace Q := Lib.hid (Q.out.bw hb)
   replace T := Lib.hid (T.out.trans (hb.still [g]))
   clear hb b2
   generalize xr.now = w3 at *
   clear xr
   by_cases hl3 : vi < vj
   ·have d4 : decide (vi < vj) = true := decide_eq_true hl3
    go_upto_region 5 with (fail)
    clear ec1 e2
    go_upto_region 5 with (fail)
    rename World => wr
    obtain ⟨vi, ci⟩ := Q.out.cell (fr) (by omega)
    obtain ⟨vj, cj⟩ := Q.out.cell (fc1) (by omega)
    have mi : ∀ y : LaterS [] wr, _ := fun y => y.bw.cell ci
    have mj : ∀ y : LaterS [] wr, _ := fun y => y.bw.cell cj
    clear ci cj
    refine wp_region_gg [] [] [] (by kernel_rfl) ?_
    refine hoist [] [] (a1 := ?_) 0 rfl (by kernel_rfl) (.inl ⟨rfl, rfl⟩) rfl rfl rfl (fun x K hK => ?_) ?_
    rotate_left
    ·go_big_quiet_op
     exact hK
    refine hoist [] [] (a1 := ?_) 1 rfl (by kernel_rfl) (.inl ⟨rfl, rfl⟩) rfl rfl rfl (fun x K hK => ?_) ?_
    rotate_left
    ·go_big_quiet_op
     exact hK
    refine hoist [] [] (a1 := ?_) 2 rfl (by kernel_rfl) (.inl ⟨rfl, rfl⟩) rfl rfl rfl (fun x K hK => ?_) ?_
    rotate_left
    ·go_big_quiet_op
     exact hK
    refine hoist [] [] (a1 := ?_) 3 rfl (by kernel_rfl) (.inl ⟨rfl, rfl⟩) rfl rfl rfl (fun x K hK => ?_) ?_
    rotate_left
    ·go_big_quiet_op
     exact hK
    refine hoist [] [] (a1 := ?_) 4 rfl (by kernel_rfl) (.inl ⟨rfl, rfl⟩) rfl rfl rfl (fun x K hK => ?_) ?_
    rotate_left
    ·go_big_quiet_op
     exact hK
    refine hoist [] [] (a1 := ?_) 5 rfl (by kernel_rfl) (.inl ⟨rfl, rfl⟩) rfl rfl rfl (fun x K hK => ?_) ?_
    rotate_left
    ·go_big_quiet_op
     exact hK
    refine hoist [] [] (a1 := ?_) 6 rfl (by kernel_rfl) (.inl ⟨rfl, rfl⟩) rfl rfl rfl (fun x K hK => ?_) ?_
    rotate_left
    ·go_big_quiet_op
     exact hK
    refine hoist [] [] (a1 := ?_) 7 rfl (by kernel_rfl) (.inl ⟨rfl, rfl⟩) rfl rfl rfl (fun x K hK => ?_) ?_
    rotate_left
    ·go_big_quiet_op
     exact hK
    refine hoist [] [] (a1 := ?_) 8 rfl (by kernel_rfl) (.inl ⟨rfl, rfl⟩) rfl rfl rfl (fun x K hK => ?_) ?_
    rotate_left
    ·go_big_quiet_op
     exact hK
    refine hoist [] [] (a1 := ?_) 9 rfl (by kernel_rfl) (.inl ⟨rfl, rfl⟩) rfl rfl rfl (fun x K hK => ?_) ?_
    rotate_left
    ·go_big_quiet_op
     exact hK
    refine hoist [] [] (a1 := ?_) 10 rfl (by kernel_rfl) (.inl ⟨rfl, rfl⟩) rfl rfl rfl (fun x K hK => ?_) ?_
    rotate_left
    ·go_big_quiet_op
     exact hK
    refine hoist [] [] (a1 := ?_) 11 rfl (by kernel_rfl) (.inl ⟨rfl, rfl⟩) rfl rfl rfl (fun x K hK => ?_) ?_
    rotate_left
    ·go_big_quiet_op
     exact hK
    refine effect 12 rfl (by kernel_rfl) (by kernel_rfl) rfl (fun x12 K hK => ?_)
    go_simp
    refine Calls.mono (less_any vi vj x12.now) ?_
    rintro e wl ⟨rfl, hb⟩
    refine hK _ _ (hb.still _) ?_
    clear hK K mi mj
    have b2 := Lib.hid (x12.bw.trans hb)
    clear hb
    try simp only [Act.put, List.setIfInBounds_toArray, List.set_cons_succ, List.set_cons_zero]
    refine hoist [] [] (a1 := ?_) 13 rfl (by kernel_rfl) (.inl ⟨rfl, rfl⟩) rfl rfl rfl (fun x K hK => ?_) ?_
    rotate_left
    ·go_big_quiet_op
     exact hK
    refine done (by kernel_rfl) (fun xr => ?_)
    have hb := b2.out.trans xr.bw
    replace Q := Lib.hid (Q.out.bw hb)
    replace T := Lib.hid (T.out.trans (hb.still [g]))
    clear hb b2
    generalize xr.now = w5 at *
    clear xr
    by_cases hlt : vi < vj
    ·rw [decide_eq_true hlt, Bool.not_true]
     go_upto_region 6 with (fail)
     obtain ⟨vi, ci⟩ := Q.out.cell (fr) (by omega)
     obtain ⟨vj, cj⟩ := Q.out.cell (fc1) (by omega)
     have mi : ∀ y : LaterS [] w5, _ := fun y => y.bw.cell ci
     have mj : ∀ y : LaterS [] w5, _ := fun y => y.bw.cell cj
     clear ci cj
     refine wp_region_gg ([g]) [21] [22] (by kernel_rfl) ?_
     refine hoist [] [21] (a1 := ?_) 0 rfl (by kernel_rfl) (.inl ⟨rfl, rfl⟩) rfl rfl rfl (fun x K hK => ?_) ?_
     rotate_left
     ·go_big_quiet_op
      exact hK
     refine hoist [] [21] (a1 := ?_) 1 rfl (by kernel_rfl) (.inl ⟨rfl, rfl⟩) rfl rfl rfl (fun x K hK => ?_) ?_
     rotate_left
     ·go_big_quiet_op
      exact hK
     refine hoist [] [21] (a1 := ?_) 2 rfl (by kernel_rfl) (.inl ⟨rfl, rfl⟩) rfl rfl rfl (fun x K hK => ?_) ?_
     rotate_left
     ·go_big_quiet_op
      exact hK
     refine hoist [] [21] (a1 := ?_) 3 rfl (by kernel_rfl) (.inl ⟨rfl, rfl⟩) rfl rfl rfl (fun x K hK => ?_) ?_
     rotate_left
     ·go_big_quiet_op
      exact hK
     refine hoist ([g]) [] (a1 := ?_) 4 rfl (by kernel_rfl) (.inr rfl) rfl rfl rfl (fun x K hK => ?_) ?_
     rotate_left
     ·go_big_quiet_op
      exact hK
     refine hoist ([g]) [] (a1 := ?_) 5 rfl (by kernel_rfl) (.inr rfl) rfl rfl rfl (fun x K hK => ?_) ?_
     rotate_left
     ·go_big_quiet_op
      exact hK
     refine hoist ([g]) [] (a1 := ?_) 6 rfl (by kernel_rfl) (.inr rfl) rfl rfl rfl (fun x K hK => ?_) ?_
     rotate_left
     ·go_big_quiet_op
      exact hK
     refine hoist ([g]) [] (a1 := ?_) 7 rfl (by kernel_rfl) (.inr rfl) rfl rfl rfl (fun x K hK => ?_) ?_
     rotate_left
     ·go_big_quiet_op
      exact hK
     refine hoist [] [21] (a1 := ?_) 8 rfl (by kernel_rfl) (.inl ⟨rfl, rfl⟩) rfl rfl rfl (fun x K hK => ?_) ?_
     rotate_left
     ·go_big_quiet_op
      exact hK
     refine hoist [] [21] (a1 := ?_) 9 rfl (by kernel_rfl) (.inl ⟨rfl, rfl⟩) rfl rfl rfl (fun x K hK => ?_) ?_
     rotate_left
     ·go_big_quiet_op
      exact hK
     refine hoist [] [21] (a1 := ?_) 10 rfl (by kernel_rfl) (.inl ⟨rfl, rfl⟩) rfl rfl rfl (fun x K hK => ?_) ?_
     rotate_left
     ·go_big_quiet_op
      exact hK
     refine hoist [] [21] (a1 := ?_) 11 rfl (by kernel_rfl) (.inl ⟨rfl, rfl⟩) rfl rfl rfl (fun x K hK => ?_) ?_
     rotate_left
     ·go_big_quiet_op
      exact hK
     refine hoist [] [21] (a1 := ?_) 12 rfl (by kernel_rfl) (.inl ⟨rfl, rfl⟩) rfl rfl rfl (fun x K hK => ?_) ?_
     rotate_left
     ·go_big_quiet_op
      exact hK
     refine hoist [] [21] (a1 := ?_) 13 rfl (by kernel_rfl) (.inl ⟨rfl, rfl⟩) rfl rfl rfl (fun x K hK => ?_) ?_
     rotate_left
     ·go_big_quiet_op
      exact hK
     refine hoist [] [21] (a1 := ?_) 14 rfl (by kernel_rfl) (.inl ⟨rfl, rfl⟩) rfl rfl rfl (fun x K hK => ?_) ?_
     rotate_left
     ·go_big_quiet_op
      exact hK
     refine hoist [] [21] (a1 := ?_) 15 rfl (by kernel_rfl) (.inl ⟨rfl, rfl⟩) rfl rfl rfl (fun x K hK => ?_) ?_
     rotate_left
     ·go_big_quiet_op
      exact hK
     refine hoist [] [21] (a1 := ?_) 16 rfl (by kernel_rfl) (.inl ⟨rfl, rfl⟩) rfl rfl rfl (fun x K hK => ?_) ?_
     rotate_left
     ·go_big_quiet_op
      exact hK
     refine hoist [] [21] (a1 := ?_) 17 rfl (by kernel_rfl) (.inl ⟨rfl, rfl⟩) rfl rfl rfl (fun x K hK => ?_) ?_
     rotate_left
     ·go_big_quiet_op
      exact hK
     refine hoist [] [21] (a1 := ?_) 18 rfl (by kernel_rfl) (.inl ⟨rfl, rfl⟩) rfl rfl rfl (fun x K hK => ?_) ?_
     rotate_left
     ·go_big_quiet_op
      exact hK
     refine hoist [] [21] (a1 := ?_) 19 rfl (by kernel_rfl) (.inl ⟨rfl, rfl⟩) rfl rfl rfl (fun x K hK => ?_) ?_
     rotate_left
     ·go_big_quiet_op
      exact hK
     refine hoist [] [21] (a1 := ?_) 20 rfl (by kernel_rfl) (.inl ⟨rfl, rfl⟩) rfl rfl rfl (fun x K hK => ?_) ?_
     rotate_left
     ·go_big_quiet_op
      exact hK
     refine effect 21 rfl (by kernel_rfl) (by kernel_rfl) rfl (fun x21 K hK => ?_)
     have Qx := Lib.hid (Q.out.bw x21.bw)
     obtain ⟨zz, zi⟩ := Qx.out.cell (fr) (by omega)
     have fi := Qx.out.frz (by omega) (o + (fr))
     replace T := Lib.hid (T.out.trans ((x21.bw.still [g]).trans (still_sc x21.now g (o + (fr)) (.int .u32 (vj : Nat)))))
     have Q1 := Lib.hid (Qx.out.set (fr) (by omega) vj)
     go_simp
     refine hK _ _ (still_sc x21.now g (o + (fr)) (.int .u32 (vj : Nat))) ?_
     clear hK K mi mj zi fi Qx Q
     generalize x21.now.setCell _ _ = wy at *
     try simp only [Act.put, List.setIfInBounds_toArray, List.set_cons_succ, List.set_cons_zero]
     refine tail 22 rfl (by kernel_rfl) rfl (fun xr => ?_)
     simp only [List.drop_succ_cons, List.drop_zero]
     have Q := Lib.hid (Q1.out.bw xr.bw)
     clear Q1
     replace T := Lib.hid (T.out.trans (xr.bw.still [g]))
     generalize xr.now = wq at *
     clear xr
     obtain ⟨zz2, zj⟩ := Q.out.cell (fc1) (by omega)
     have fj := Q.out.frz (by omega) (o + (fc1))
     replace T := Lib.hid (T.out.trans (still_sc wq g (o + (fc1)) (.int .u32 (vi : Nat))))
     have Q2 := Lib.hid (Q.out.set (fc1) (by omega) vi)
     go_upto_region 7 with (fail)
     clear zj fj Q
     generalize wq.setCell _ _ = w7 at *
     have Q := Q2
     clear Q2
     clear hlt
     go_wp2_with fail
     go_roundg (hi + 1 - c1)
     case measure => omega
     case rel => exact ⟨c1, rfl, by omega, by first | rfl | (push_cast; rfl), Q, T⟩
    ·rw [decide_eq_false hlt, Bool.not_false]
     go_wp2_with fail
     refine bodyPost_ret (results_none rfl _ _ _) rfl ?_
     exact ⟨rfl, Q.out, T.out⟩
   ·have d4 : decide (vi < vj) = false := decide_eq_false hl3
    go_upto_region 5 with (fail)
    rename World => wr
    obtain ⟨vi, ci⟩ := Q.out.cell (fr) (by omega)
    obtain ⟨vj, cj⟩ := Q.out.cell (fc) (by omega)
    have mi : ∀ y : LaterS [] wr, _ := fun y => y.bw.cell ci
    have mj : ∀ y : LaterS [] wr, _ := fun y => y.bw.cell cj
    clear ci cj
    refine wp_region_gg [] [] [] (by kernel_rfl) ?_
    refine hoist [] [] (a1 := ?_) 0 rfl (by kernel_rfl) (.inl ⟨rfl, rfl⟩) rfl rfl rfl (fun x K hK => ?_) ?_
    rotate_left
    ·go_big_quiet_op
     exact hK
    refine hoist [] [] (a1 := ?_) 1 rfl (by kernel_rfl) (.inl ⟨rfl, rfl⟩) rfl rfl rfl (fun x K hK => ?_) ?_
    rotate_left
    ·go_big_quiet_op
     exact hK
    refine hoist [] [] (a1 := ?_) 2 rfl (by kernel_rfl) (.inl ⟨rfl, rfl⟩) rfl rfl rfl (fun x K hK => ?_) ?_
    rotate_left
    ·go_big_quiet_op
     exact hK
    refine hoist [] [] (a1 := ?_) 3 rfl (by kernel_rfl) (.inl ⟨rfl, rfl⟩) rfl rfl rfl (fun x K hK => ?_) ?_
    rotate_left
    ·go_big_quiet_op
     exact hK
    refine hoist [] [] (a1 := ?_) 4 rfl (by kernel_rfl) (.inl ⟨rfl, rfl⟩) rfl rfl rfl (fun x K hK => ?_) ?_
    rotate_left
    ·go_big_quiet_op
     exact hK
    refine hoist [] [] (a1 := ?_) 5 rfl (by kernel_rfl) (.inl ⟨rfl, rfl⟩) rfl rfl rfl (fun x K hK => ?_) ?_
    rotate_left
    ·go_big_quiet_op
     exact hK
    refine hoist [] [] (a1 := ?_) 6 rfl (by kernel_rfl) (.inl ⟨rfl, rfl⟩) rfl rfl rfl (fun x K hK => ?_) ?_
    rotate_left
    ·go_big_quiet_op
     exact hK
    refine hoist [] [] (a1 := ?_) 7 rfl (by kernel_rfl) (.inl ⟨rfl, rfl⟩) rfl rfl rfl (fun x K hK => ?_) ?_
    rotate_left
    ·go_big_quiet_op
     exact hK
    refine hoist [] [] (a1 := ?_) 8 rfl (by kernel_rfl) (.inl ⟨rfl, rfl⟩) rfl rfl rfl (fun x K hK => ?_) ?_
    rotate_left
    ·go_big_quiet_op
     exact hK
    refine hoist [] [] (a1 := ?_) 9 rfl (by kernel_rfl) (.inl ⟨rfl, rfl⟩) rfl rfl rfl (fun x K hK => ?_) ?_
    rotate_left
    ·go_big_quiet_op
     exact hK
    refine hoist [] [] (a1 := ?_) 10 rfl (by kernel_rfl) (.inl ⟨rfl, rfl⟩) rfl rfl rfl (fun x K hK => ?_) ?_
    rotate_left
    ·go_big_quiet_op
     exact hK
    refine hoist [] [] (a1 := ?_) 11 rfl (by kernel_rfl) (.inl ⟨rfl, rfl⟩) rfl rfl rfl (fun x K hK => ?_) ?_
    rotate_left
    ·go_big_quiet_op
     exact hK
    refine effect 12 rfl (by kernel_rfl) (by kernel_rfl) rfl (fun x12 K hK => ?_)
    go_simp
    refine Calls.mono (less_any vi vj x12.now) ?_
    rintro e wl ⟨rfl, hb⟩
    refine hK _ _ (hb.still _) ?_
    clear hK K mi mj
    have b2 := Lib.hid (x12.bw.trans hb)
    clear hb
    try simp only [Act.put, List.setIfInBounds_toArray, List.set_cons_succ, List.set_cons_zero]
    refine hoist [] [] (a1 := ?_) 13 rfl (by kernel_rfl) (.inl ⟨rfl, rfl⟩) rfl rfl rfl (fun x K hK => ?_) ?_
    rotate_left
    ·go_big_quiet_op
     exact hK
    refine done (by kernel_rfl) (fun xr => ?_)
    have hb := b2.out.trans xr.bw
    replace Q := Lib.hid (Q.out.bw hb)
    replace T := Lib.hid (T.out.trans (hb.still [g]))
    clear hb b2
    generalize xr.now = w5 at *
    clear xr
    by_cases hlt : vi < vj
    ·rw [decide_eq_true hlt, Bool.not_true]
     go_upto_region 6 with (fail)
     obtain ⟨vi, ci⟩ := Q.out.cell (fr) (by omega)
     obtain ⟨vj, cj⟩ := Q.out.cell (fc) (by omega)
     have mi : ∀ y : LaterS [] w5, _ := fun y => y.bw.cell ci
     have mj : ∀ y : LaterS [] w5, _ := fun y => y.bw.cell cj
     clear ci cj
     refine wp_region_gg ([g]) [21] [22] (by kernel_rfl) ?_
     refine hoist [] [21] (a1 := ?_) 0 rfl (by kernel_rfl) (.inl ⟨rfl, rfl⟩) rfl rfl rfl (fun x K hK => ?_) ?_
     rotate_left
     ·go_big_quiet_op
      exact hK
     refine hoist [] [21] (a1 := ?_) 1 rfl (by kernel_rfl) (.inl ⟨rfl, rfl⟩) rfl rfl rfl (fun x K hK => ?_) ?_
     rotate_left
     ·go_big_quiet_op
      exact hK
     refine hoist [] [21] (a1 := ?_) 2 rfl (by kernel_rfl) (.inl ⟨rfl, rfl⟩) rfl rfl rfl (fun x K hK => ?_) ?_
     rotate_left
     ·go_big_quiet_op
      exact hK
     refine hoist [] [21] (a1 := ?_) 3 rfl (by kernel_rfl) (.inl ⟨rfl, rfl⟩) rfl rfl rfl (fun x K hK => ?_) ?_
     rotate_left
     ·go_big_quiet_op
      exact hK
     refine hoist ([g]) [] (a1 := ?_) 4 rfl (by kernel_rfl) (.inr rfl) rfl rfl rfl (fun x K hK => ?_) ?_
     rotate_left
     ·go_big_quiet_op
      exact hK
     refine hoist ([g]) [] (a1 := ?_) 5 rfl (by kernel_rfl) (.inr rfl) rfl rfl rfl (fun x K hK => ?_) ?_
     rotate_left
     ·go_big_quiet_op
      exact hK
     refine hoist ([g]) [] (a1 := ?_) 6 rfl (by kernel_rfl) (.inr rfl) rfl rfl rfl (fun x K hK => ?_) ?_
     rotate_left
     ·go_big_quiet_op
      exact hK
     refine hoist ([g]) [] (a1 := ?_) 7 rfl (by kernel_rfl) (.inr rfl) rfl rfl rfl (fun x K hK => ?_) ?_
     rotate_left
     ·go_big_quiet_op
      exact hK
     refine hoist [] [21] (a1 := ?_) 8 rfl (by kernel_rfl) (.inl ⟨rfl, rfl⟩) rfl rfl rfl (fun x K hK => ?_) ?_
     rotate_left
     ·go_big_quiet_op
      exact hK
     refine hoist [] [21] (a1 := ?_) 9 rfl (by kernel_rfl) (.inl ⟨rfl, rfl⟩) rfl rfl rfl (fun x K hK => ?_) ?_
     rotate_left
     ·go_big_quiet_op
      exact hK
     refine hoist [] [21] (a1 := ?_) 10 rfl (by kernel_rfl) (.inl ⟨rfl, rfl⟩) rfl rfl rfl (fun x K hK => ?_) ?_
     rotate_left
     ·go_big_quiet_op
      exact hK
     refine hoist [] [21] (a1 := ?_) 11 rfl (by kernel_rfl) (.inl ⟨rfl, rfl⟩) rfl rfl rfl (fun x K hK => ?_) ?_
     rotate_left
     ·go_big_quiet_op
      exact hK
     refine hoist [] [21] (a1 := ?_) 12 rfl (by kernel_rfl) (.inl ⟨rfl, rfl⟩) rfl rfl rfl (fun x K hK => ?_) ?_
     rotate_left
     ·go_big_quiet_op
      exact hK
     refine hoist [] [21] (a1 := ?_) 13 rfl (by kernel_rfl) (.inl ⟨rfl, rfl⟩) rfl rfl rfl (fun x K hK => ?_) ?_
     rotate_left
     ·go_big_quiet_op
      exact hK
     refine hoist [] [21] (a1 := ?_) 14 rfl (by kernel_rfl) (.inl ⟨rfl, rfl⟩) rfl rfl rfl (fun x K hK => ?_) ?_
     rotate_left
     ·go_big_quiet_op
      exact hK
     refine hoist [] [21] (a1 := ?_) 15 rfl (by kernel_rfl) (.inl ⟨rfl, rfl⟩) rfl rfl rfl (fun x K hK => ?_) ?_
     rotate_left
     ·go_big_quiet_op
      exact hK
     refine hoist [] [21] (a1 := ?_) 16 rfl (by kernel_rfl) (.inl ⟨rfl, rfl⟩) rfl rfl rfl (fun x K hK => ?_) ?_
     rotate_left
     ·go_big_quiet_op
      exact hK
     refine hoist [] [21] (a1 := ?_) 17 rfl (by kernel_rfl) (.inl ⟨rfl, rfl⟩) rfl rfl rfl (fun x K hK => ?_) ?_
     rotate_left
     ·go_big_quiet_op
      exact hK
     refine hoist [] [21] (a1 := ?_) 18 rfl (by kernel_rfl) (.inl ⟨rfl, rfl⟩) rfl rfl rfl (fun x K hK => ?_) ?_
     rotate_left
     ·go_big_quiet_op
      exact hK
     refine hoist [] [21] (a1 := ?_) 19 rfl (by kernel_rfl) (.inl ⟨rfl, rfl⟩) rfl rfl rfl (fun x K hK => ?_) ?_
     rotate_left
     ·go_big_quiet_op
      exact hK
     refine hoist [] [21] (a1 := ?_) 20 rfl (by kernel_rfl) (.inl ⟨rfl, rfl⟩) rfl rfl rfl (fun x K hK => ?_) ?_
     rotate_left
     ·go_big_quiet_op
      exact hK
     refine effect 21 rfl (by kernel_rfl) (by kernel_rfl) rfl (fun x21 K hK => ?_)
     have Qx := Lib.hid (Q.out.bw x21.bw)
     obtain ⟨zz, zi⟩ := Qx.out.cell (fr) (by omega)
     have fi := Qx.out.frz (by omega) (o + (fr))
     replace T := Lib.hid (T.out.trans ((x21.bw.still [g]).trans (still_sc x21.now g (o + (fr)) (.int .u32 (vj : Nat)))))
     have Q1 := Lib.hid (Qx.out.set (fr) (by omega) vj)
     go_simp
     refine hK _ _ (still_sc x21.now g (o + (fr)) (.int .u32 (vj : Nat))) ?_
     clear hK K mi mj zi fi Qx Q
     generalize x21.now.setCell _ _ = wy at *
     try simp only [Act.put, List.setIfInBounds_toArray, List.set_cons_succ, List.set_cons_zero]
     refine tail 22 rfl (by kernel_rfl) rfl (fun xr => ?_)
     simp only [List.drop_succ_cons, List.drop_zero]
     have Q := Lib.hid (Q1.out.bw xr.bw)
     clear Q1
     replace T := Lib.hid (T.out.trans (xr.bw.still [g]))
     generalize xr.now = wq at *
     clear xr
     obtain ⟨zz2, zj⟩ := Q.out.cell (fc) (by omega)
     have fj := Q.out.frz (by omega) (o + (fc))
     replace T := Lib.hid (T.out.trans (still_sc wq g (o + (fc)) (.int .u32 (vi : Nat))))
     have Q2 := Lib.hid (Q.out.set (fc) (by omega) vi)
     go_upto_region 7 with (fail)
     clear zj fj Q
     generalize wq.setCell _ _ = w7 at *
     have Q := Q2
     clear Q2
     clear hlt
     go_wp2_with fail
     go_roundg (hi + 1 - c)
     case measure => omega
     case rel => exact ⟨c, rfl, by omega, by first | rfl | (push_cast; rfl), Q, T⟩
    ·rw [decide_eq_false hlt, Bool.not_false]
     go_wp2_with fail
     refine bodyPost_ret (results_none rfl _ _ _) rfl ?_
     exact ⟨rfl, Q.out, T.out⟩
  ·have d2 : decide ((c1 : Int) < (hi : Int)) = false := by simp; omega
   refine wp_region_gg [] [] [] (by kernel_rfl) ?_
   refine hoist [] [] (a1 := ?_) 0 rfl (by kernel_rfl) (.inl ⟨rfl, rfl⟩) rfl rfl rfl (fun x K hK => ?_) ?_
   rotate_left
   ·go_big_quiet_op
    exact hK
   refine hoist [] [] (a1 := ?_) 1 rfl (by kernel_rfl) (.inl ⟨rfl, rfl⟩) rfl rfl rfl (fun x K hK => ?_) ?_
   rotate_left
   ·go_big_quiet_op
    exact hK
   refine hoist [] [] (a1 := ?_) 2 rfl (by kernel_rfl) (.inl ⟨rfl, rfl⟩) rfl rfl rfl (fun x K hK => ?_) ?_
   rotate_left
   ·go_big_quiet_op
    exact hK
   refine hoist [] [] (a1 := ?_) 3 rfl (by kernel_rfl) (.inl ⟨rfl, rfl⟩) rfl rfl rfl (fun x K hK => ?_) ?_
   rotate_left
   ·go_big_quiet_op
    exact hK
   refine hoist [] [] (a1 := ?_) 4 rfl (by kernel_rfl) (.inl ⟨rfl, rfl⟩) rfl rfl rfl (fun x K hK => ?_) ?_
   rotate_left
   ·go_big_quiet_op
    exact hK
   refine hoist_skip [] [] 5 rfl (by kernel_rfl) (.inl ⟨rfl, rfl⟩) rfl (a1 := ?_) ?_ ?_
   rotate_left
   ·simp only [Act.put, List.setIfInBounds_toArray, List.set_cons_succ, List.set_cons_zero]; rfl
   refine hoist_skip [] [] 6 rfl (by kernel_rfl) (.inl ⟨rfl, rfl⟩) rfl (a1 := ?_) ?_ ?_
   rotate_left
   ·simp only [Act.put, List.setIfInBounds_toArray, List.set_cons_succ, List.set_cons_zero]; rfl
   refine hoist_skip [] [] 7 rfl (by kernel_rfl) (.inl ⟨rfl, rfl⟩) rfl (a1 := ?_) ?_ ?_
   rotate_left
   ·simp only [Act.put, List.setIfInBounds_toArray, List.set_cons_succ, List.set_cons_zero]; rfl
   refine hoist_skip [] [] 8 rfl (by kernel_rfl) (.inl ⟨rfl, rfl⟩) rfl (a1 := ?_) ?_ ?_
   rotate_left
   ·simp only [Act.put, List.setIfInBounds_toArray, List.set_cons_succ, List.set_cons_zero]; rfl
   refine hoist_skip [] [] 9 rfl (by kernel_rfl) (.inl ⟨rfl, rfl⟩) rfl (a1 := ?_) ?_ ?_
   rotate_left
   ·simp only [Act.put, List.setIfInBounds_toArray, List.set_cons_succ, List.set_cons_zero]; rfl
   refine hoist_skip [] [] 10 rfl (by kernel_rfl) (.inl ⟨rfl, rfl⟩) rfl (a1 := ?_) ?_ ?_
   rotate_left
   ·simp only [Act.put, List.setIfInBounds_toArray, List.set_cons_succ, List.set_cons_zero]; rfl
   refine hoist_skip [] [] 11 rfl (by kernel_rfl) (.inl ⟨rfl, rfl⟩) rfl (a1 := ?_) ?_ ?_
   rotate_left
   ·simp only [Act.put, List.setIfInBounds_toArray, List.set_cons_succ, List.set_cons_zero]; rfl
   refine hoist_skip [] [] 12 rfl (by kernel_rfl) (.inl ⟨rfl, rfl⟩) rfl (a1 := ?_) ?_ ?_
   rotate_left
   ·simp only [Act.put, List.setIfInBounds_toArray, List.set_cons_succ, List.set_cons_zero]; rfl
   refine hoist_skip [] [] 13 rfl (by kernel_rfl) (.inl ⟨rfl, rfl⟩) rfl (a1 := ?_) ?_ ?_
   rotate_left
   ·simp only [Act.put, List.setIfInBounds_toArray, List.set_cons_succ, List.set_cons_zero]; rfl
   refine hoist_skip [] [] 14 rfl (by kernel_rfl) (.inl ⟨rfl, rfl⟩) rfl (a1 := ?_) ?_ ?_
   rotate_left
   ·simp only [Act.put, List.setIfInBounds_toArray, List.set_cons_succ, List.set_cons_zero]; rfl
   refine hoist_skip [] [] 15 rfl (by kernel_rfl) (.inl ⟨rfl, rfl⟩) rfl (a1 := ?_) ?_ ?_
   rotate_left
   ·simp only [Act.put, List.setIfInBounds_toArray, List.set_cons_succ, List.set_cons_zero]; rfl
   refine hoist_skip [] [] 16 rfl (by kernel_rfl) (.inl ⟨rfl, rfl⟩) rfl (a1 := ?_) ?_ ?_
   rotate_left
   ·simp only [Act.put, List.setIfInBounds_toArray, List.set_cons_succ, List.set_cons_zero]; rfl
   refine hoist_skip [] [] 17 rfl (by kernel_rfl) (.inl ⟨rfl, rfl⟩) rfl (a1 := ?_) ?_ ?_
   rotate_left
   ·simp only [Act.put, List.setIfInBounds_toArray, List.set_cons_succ, List.set_cons_zero]; rfl
   refine hoist_skip [] [] 18 rfl (by kernel_rfl) (.inl ⟨rfl, rfl⟩) rfl (a1 := ?_) ?_ ?_
   rotate_left
   ·simp only [Act.put, List.setIfInBounds_toArray, List.set_cons_succ, List.set_cons_zero]; rfl
   refine hoist [] [] (a1 := ?_) 19 rfl (by kernel_rfl) (.inl ⟨rfl, rfl⟩) rfl rfl rfl (fun x K hK => ?_) ?_
   rotate_left
   ·go_big_quiet_op
    exact hK
   refine done (by kernel_rfl) (fun xr => ?_)
   have hb := xr.bw
   replace Q := Lib.hid (Q.out.bw hb)
   replace T := Lib.hid (T.out.trans (hb.still [g]))
   clear hb
   generalize xr.now = w3 at *
   clear xr
   go_upto_region 5 with (fail)
   rename World => wr
   obtain ⟨vi, ci⟩ := Q.out.cell (fr) (by omega)
   obtain ⟨vj, cj⟩ := Q.out.cell (fc) (by omega)
   have mi : ∀ y : LaterS [] wr, _ := fun y => y.bw.cell ci
   have mj : ∀ y : LaterS [] wr, _ := fun y => y.bw.cell cj
   clear ci cj
   refine wp_region_gg [] [] [] (by kernel_rfl) ?_
   refine hoist [] [] (a1 := ?_) 0 rfl (by kernel_rfl) (.inl ⟨rfl, rfl⟩) rfl rfl rfl (fun x K hK => ?_) ?_
   rotate_left
   ·go_big_quiet_op
    exact hK
   refine hoist [] [] (a1 := ?_) 1 rfl (by kernel_rfl) (.inl ⟨rfl, rfl⟩) rfl rfl rfl (fun x K hK => ?_) ?_
   rotate_left
   ·go_big_quiet_op
    exact hK
   refine hoist [] [] (a1 := ?_) 2 rfl (by kernel_rfl) (.inl ⟨rfl, rfl⟩) rfl rfl rfl (fun x K hK => ?_) ?_
   rotate_left
   ·go_big_quiet_op
    exact hK
   refine hoist [] [] (a1 := ?_) 3 rfl (by kernel_rfl) (.inl ⟨rfl, rfl⟩) rfl rfl rfl (fun x K hK => ?_) ?_
   rotate_left
   ·go_big_quiet_op
    exact hK
   refine hoist [] [] (a1 := ?_) 4 rfl (by kernel_rfl) (.inl ⟨rfl, rfl⟩) rfl rfl rfl (fun x K hK => ?_) ?_
   rotate_left
   ·go_big_quiet_op
    exact hK
   refine hoist [] [] (a1 := ?_) 5 rfl (by kernel_rfl) (.inl ⟨rfl, rfl⟩) rfl rfl rfl (fun x K hK => ?_) ?_
   rotate_left
   ·go_big_quiet_op
    exact hK
   refine hoist [] [] (a1 := ?_) 6 rfl (by kernel_rfl) (.inl ⟨rfl, rfl⟩) rfl rfl rfl (fun x K hK => ?_) ?_
   rotate_left
   ·go_big_quiet_op
    exact hK
   refine hoist [] [] (a1 := ?_) 7 rfl (by kernel_rfl) (.inl ⟨rfl, rfl⟩) rfl rfl rfl (fun x K hK => ?_) ?_
   rotate_left
   ·go_big_quiet_op
    exact hK
   refine hoist [] [] (a1 := ?_) 8 rfl (by kernel_rfl) (.inl ⟨rfl, rfl⟩) rfl rfl rfl (fun x K hK => ?_) ?_
   rotate_left
   ·go_big_quiet_op
    exact hK
   refine hoist [] [] (a1 := ?_) 9 rfl (by kernel_rfl) (.inl ⟨rfl, rfl⟩) rfl rfl rfl (fun x K hK => ?_) ?_
   rotate_left
   ·go_big_quiet_op
    exact hK
   refine hoist [] [] (a1 := ?_) 10 rfl (by kernel_rfl) (.inl ⟨rfl, rfl⟩) rfl rfl rfl (fun x K hK => ?_) ?_
   rotate_left
   ·go_big_quiet_op
    exact hK
   refine hoist [] [] (a1 := ?_) 11 rfl (by kernel_rfl) (.inl ⟨rfl, rfl⟩) rfl rfl rfl (fun x K hK => ?_) ?_
   rotate_left
   ·go_big_quiet_op
    exact hK
   refine effect 12 rfl (by kernel_rfl) (by kernel_rfl) rfl (fun x12 K hK => ?_)
   go_simp
   refine Calls.mono (less_any vi vj x12.now) ?_
   rintro e wl ⟨rfl, hb⟩
   refine hK _ _ (hb.still _) ?_
   clear hK K mi mj
   have b2 := Lib.hid (x12.bw.trans hb)
   clear hb
   try simp only [Act.put, List.setIfInBounds_toArray, List.set_cons_succ, List.set_cons_zero]
   refine hoist [] [] (a1 := ?_) 13 rfl (by kernel_rfl) (.inl ⟨rfl, rfl⟩) rfl rfl rfl (fun x K hK => ?_) ?_
   rotate_left
   ·go_big_quiet_op
    exact hK
   refine done (by kernel_rfl) (fun xr => ?_)
   have hb := b2.out.trans xr.bw
   replace Q := Lib.hid (Q.out.bw hb)
   replace T := Lib.hid (T.out.trans (hb.still [g]))
   clear hb b2
   generalize xr.now = w5 at *
   clear xr
   by_cases hlt : vi < vj
   ·rw [decide_eq_true hlt, Bool.not_true]
    go_upto_region 6 with (fail)
    obtain ⟨vi, ci⟩ := Q.out.cell (fr) (by omega)
    obtain ⟨vj, cj⟩ := Q.out.cell (fc) (by omega)
    have mi : ∀ y : LaterS [] w5, _ := fun y => y.bw.cell ci
    have mj : ∀ y : LaterS [] w5, _ := fun y => y.bw.cell cj
    clear ci cj
    refine wp_region_gg ([g]) [21] [22] (by kernel_rfl) ?_
    refine hoist [] [21] (a1 := ?_) 0 rfl (by kernel_rfl) (.inl ⟨rfl, rfl⟩) rfl rfl rfl (fun x K hK => ?_) ?_
    rotate_left
    ·go_big_quiet_op
     exact hK
    refine hoist [] [21] (a1 := ?_) 1 rfl (by kernel_rfl) (.inl ⟨rfl, rfl⟩) rfl rfl rfl (fun x K hK => ?_) ?_
    rotate_left
    ·go_big_quiet_op
     exact hK
    refine hoist [] [21] (a1 := ?_) 2 rfl (by kernel_rfl) (.inl ⟨rfl, rfl⟩) rfl rfl rfl (fun x K hK => ?_) ?_
    rotate_left
    ·go_big_quiet_op
     exact hK
    refine hoist [] [21] (a1 := ?_) 3 rfl (by kernel_rfl) (.inl ⟨rfl, rfl⟩) rfl rfl rfl (fun x K hK => ?_) ?_
    rotate_left
    ·go_big_quiet_op
     exact hK
    refine hoist ([g]) [] (a1 := ?_) 4 rfl (by kernel_rfl) (.inr rfl) rfl rfl rfl (fun x K hK => ?_) ?_
    rotate_left
    ·go_big_quiet_op
     exact hK
    refine hoist ([g]) [] (a1 := ?_) 5 rfl (by kernel_rfl) (.inr rfl) rfl rfl rfl (fun x K hK => ?_) ?_
    rotate_left
    ·go_big_quiet_op
     exact hK
    refine hoist ([g]) [] (a1 := ?_) 6 rfl (by kernel_rfl) (.inr rfl) rfl rfl rfl (fun x K hK => ?_) ?_
    rotate_left
    ·go_big_quiet_op
     exact hK
    refine hoist ([g]) [] (a1 := ?_) 7 rfl (by kernel_rfl) (.inr rfl) rfl rfl rfl (fun x K hK => ?_) ?_
    rotate_left
    ·go_big_quiet_op
     exact hK
    refine hoist [] [21] (a1 := ?_) 8 rfl (by kernel_rfl) (.inl ⟨rfl, rfl⟩) rfl rfl rfl (fun x K hK => ?_) ?_
    rotate_left
    ·go_big_quiet_op
     exact hK
    refine hoist [] [21] (a1 := ?_) 9 rfl (by kernel_rfl) (.inl ⟨rfl, rfl⟩) rfl rfl rfl (fun x K hK => ?_) ?_
    rotate_left
    ·go_big_quiet_op
     exact hK
    refine hoist [] [21] (a1 := ?_) 10 rfl (by kernel_rfl) (.inl ⟨rfl, rfl⟩) rfl rfl rfl (fun x K hK => ?_) ?_
    rotate_left
    ·go_big_quiet_op
     exact hK
    refine hoist [] [21] (a1 := ?_) 11 rfl (by kernel_rfl) (.inl ⟨rfl, rfl⟩) rfl rfl rfl (fun x K hK => ?_) ?_
    rotate_left
    ·go_big_quiet_op
     exact hK
    refine hoist [] [21] (a1 := ?_) 12 rfl (by kernel_rfl) (.inl ⟨rfl, rfl⟩) rfl rfl rfl (fun x K hK => ?_) ?_
    rotate_left
    ·go_big_quiet_op
     exact hK
    refine hoist [] [21] (a1 := ?_) 13 rfl (by kernel_rfl) (.inl ⟨rfl, rfl⟩) rfl rfl rfl (fun x K hK => ?_) ?_
    rotate_left
    ·go_big_quiet_op
     exact hK
    refine hoist [] [21] (a1 := ?_) 14 rfl (by kernel_rfl) (.inl ⟨rfl, rfl⟩) rfl rfl rfl (fun x K hK => ?_) ?_
    rotate_left
    ·go_big_quiet_op
     exact hK
    refine hoist [] [21] (a1 := ?_) 15 rfl (by kernel_rfl) (.inl ⟨rfl, rfl⟩) rfl rfl rfl (fun x K hK => ?_) ?_
    rotate_left
    ·go_big_quiet_op
     exact hK
    refine hoist [] [21] (a1 := ?_) 16 rfl (by kernel_rfl) (.inl ⟨rfl, rfl⟩) rfl rfl rfl (fun x K hK => ?_) ?_
    rotate_left
    ·go_big_quiet_op
     exact hK
    refine hoist [] [21] (a1 := ?_) 17 rfl (by kernel_rfl) (.inl ⟨rfl, rfl⟩) rfl rfl rfl (fun x K hK => ?_) ?_
    rotate_left
    ·go_big_quiet_op
     exact hK
    refine hoist [] [21] (a1 := ?_) 18 rfl (by kernel_rfl) (.inl ⟨rfl, rfl⟩) rfl rfl rfl (fun x K hK => ?_) ?_
    rotate_left
    ·go_big_quiet_op
     exact hK
    refine hoist [] [21] (a1 := ?_) 19 rfl (by kernel_rfl) (.inl ⟨rfl, rfl⟩) rfl rfl rfl (fun x K hK => ?_) ?_
    rotate_left
    ·go_big_quiet_op
     exact hK
    refine hoist [] [21] (a1 := ?_) 20 rfl (by kernel_rfl) (.inl ⟨rfl, rfl⟩) rfl rfl rfl (fun x K hK => ?_) ?_
    rotate_left
    ·go_big_quiet_op
     exact hK
    refine effect 21 rfl (by kernel_rfl) (by kernel_rfl) rfl (fun x21 K hK => ?_)
    have Qx := Lib.hid (Q.out.bw x21.bw)
    obtain ⟨zz, zi⟩ := Qx.out.cell (fr) (by omega)
    have fi := Qx.out.frz (by omega) (o + (fr))
    replace T := Lib.hid (T.out.trans ((x21.bw.still [g]).trans (still_sc x21.now g (o + (fr)) (.int .u32 (vj : Nat)))))
    have Q1 := Lib.hid (Qx.out.set (fr) (by omega) vj)
    go_simp
    refine hK _ _ (still_sc x21.now g (o + (fr)) (.int .u32 (vj : Nat))) ?_
    clear hK K mi mj zi fi Qx Q
    generalize x21.now.setCell _ _ = wy at *
    try simp only [Act.put, List.setIfInBounds_toArray, List.set_cons_succ, List.set_cons_zero]
    refine tail 22 rfl (by kernel_rfl) rfl (fun xr => ?_)
    simp only [List.drop_succ_cons, List.drop_zero]
    have Q := Lib.hid (Q1.out.bw xr.bw)
    clear Q1
    replace T := Lib.hid (T.out.trans (xr.bw.still [g]))
    generalize xr.now = wq at *
    clear xr
    obtain ⟨zz2, zj⟩ := Q.out.cell (fc) (by omega)
    have fj := Q.out.frz (by omega) (o + (fc))
    replace T := Lib.hid (T.out.trans (still_sc wq g (o + (fc)) (.int .u32 (vi : Nat))))
    have Q2 := Lib.hid (Q.out.set (fc) (by omega) vi)
    go_upto_region 7 with (fail)
    clear zj fj Q
    generalize wq.setCell _ _ = w7 at *
    have Q := Q2
    clear Q2
    clear hlt
    go_wp2_with fail
    go_roundg (hi + 1 - c)
    case measure => omega
    case rel => exact ⟨c, rfl, by omega, by first | rfl | (push_cast; rfl), Q, T⟩
   ·rw [decide_eq_false hlt, Bool.not_false]
    go_wp2_with fail
    refine bodyPost_ret (results_none rfl _ _ _) rfl ?_
    exact ⟨rfl, Q.out, T.out⟩
set_option maxRecDepth 100000 in
set_option maxHeartbeats 8000000 in
theorem heap_any (base g o n cap a b : Nat) (hab : a < b) (hbn : b ≤ n) (hn : n ≤ 1000000) (w : World) (h : SR w base g o n cap) :
  Calls Tryz.prog 80 #[.slice (some ⟨g, o, none⟩) n cap, .int .i64 (a : Nat), .int .i64 (b : Nat)] w fun e w' => e = .returned (.tuple #[]) ∧ SR w' base g o n cap ∧ Still [g] w w' := by
 have hcm : cap ≤ 9223372036854775807 ∧ n ≤ cap := by
  obtain ⟨l, q⟩ := h
  obtain ⟨_, _, he, hcn, hcm⟩ := q.len
  cases he
  exact ⟨hcm, hcn⟩
 obtain ⟨hcm, hcn⟩ := hcm
 have Q := Lib.hid h
 have T := Lib.hid (Still.refl [g] w)
 clear h
 go_enter Tryz.func80, Tryz.ntmps80
 obtain ⟨h1, hh⟩ : ∃ h1, h1 + 1 = b - a := ⟨b - a - 1, by omega⟩
 have e1 : (b : Int) - (a : Int) = ((h1 + 1 : Nat) : Int) := by omega
 have e2 : ((h1 + 1 : Nat) : Int) - 1 = (h1 : Int) := by omega
 obtain ⟨h2, hh2⟩ : ∃ h2, h1 / 2 = h2 := ⟨_, rfl⟩
 have e3 : (h1 : Int).tdiv 2 = (h2 : Int) := by rw [← hh2]; rfl
 have h21 : h2 ≤ h1 := by omega
 replace hh2 := Lib.hid hh2
 obtain ⟨hi, hhi⟩ : ∃ hi, h1 + 1 = hi := ⟨_, rfl⟩
 rw [hhi] at e1 e2
 have hah : a + hi ≤ n := by omega
 replace hh := Lib.hid hh
 replace hhi := Lib.hid hhi
 go_upto_region 3 with (fail)
 go_upto_region 4 with (fail)
 go_loopg [9] (h2 + 1) (fun m' i wx => ∃ (k : Nat), k = m' ∧ k ≤ h2 + 1 ∧ i = .int .i64 ((k : Int) - 1) ∧ Hid (SR wx base g o n cap) ∧ Hid (Still [g] w wx))
 case atStart => exact ⟨h2 + 1, rfl, by omega, by first | rfl | (congr 1; omega), Q, T⟩
 case round =>
  clear Q T
  obtain ⟨k, rfl, hk, rfl, Q, T⟩ := hrel
  rcases k with _ | k1
  ·have d : decide ((0 : Int) ≤ ((0 : Nat) : Int) - 1) = false := by decide
   go_upto_region 7 with (fail)
   go_upto_region 8 with (fail)
   go_loopg [10] (h1 + 1) (fun m' i wx => ∃ (k : Nat), k = m' ∧ k ≤ h1 + 1 ∧ i = .int .i64 ((k : Int) - 1) ∧ Hid (SR wx base g o n cap) ∧ Hid (Still [g] w wx))
   case atStart => exact ⟨h1 + 1, rfl, by omega, by first | rfl | (congr 1; omega), Q, T⟩
   case round =>
    clear Q T d
    obtain ⟨k, rfl, hk, rfl, Q, T⟩ := hrel
    rcases k with _ | k1
    ·have d : decide ((0 : Int) ≤ ((0 : Nat) : Int) - 1) = false := by decide
     go_wp2_with fail
     go_end0
     exact ⟨rfl, Q.out, T.out⟩
    ·have ek : ((k1 + 1 : Nat) : Int) - 1 = (k1 : Int) := by omega
     rw [ek]
     have d : decide ((0 : Int) ≤ (k1 : Int)) = true := by simp
     obtain ⟨ak, hak⟩ : ∃ x, a + k1 = x := ⟨_, rfl⟩
     have hakn : ak < n := by have := hhi.out; omega
     have han : a < n := by omega
     have eak : (a : Int) + (k1 : Int) = (ak : Int) := by omega
     go_upto_region 10 with (fail)
     obtain ⟨vi, ci⟩ := Q.out.cell (a) (by omega)
     obtain ⟨vj, cj⟩ := Q.out.cell (ak) (by omega)
     have mi : ∀ y : LaterS [] wr, _ := fun y => y.bw.cell ci
     have mj : ∀ y : LaterS [] wr, _ := fun y => y.bw.cell cj
     clear ci cj
     refine wp_region_gg ([g]) [17] [18] (by kernel_rfl) ?_
     refine hoist [] [17] (a1 := ?_) 0 rfl (by kernel_rfl) (.inl ⟨rfl, rfl⟩) rfl rfl rfl (fun x K hK => ?_) ?_
     rotate_left
     ·go_big_quiet_op
      exact hK
     refine hoist [] [17] (a1 := ?_) 1 rfl (by kernel_rfl) (.inl ⟨rfl, rfl⟩) rfl rfl rfl (fun x K hK => ?_) ?_
     rotate_left
     ·go_big_quiet_op
      exact hK
     refine hoist ([g]) [] (a1 := ?_) 2 rfl (by kernel_rfl) (.inr rfl) rfl rfl rfl (fun x K hK => ?_) ?_
     rotate_left
     ·go_big_quiet_op
      exact hK
     refine hoist ([g]) [] (a1 := ?_) 3 rfl (by kernel_rfl) (.inr rfl) rfl rfl rfl (fun x K hK => ?_) ?_
     rotate_left
     ·go_big_quiet_op
      exact hK
     refine hoist ([g]) [] (a1 := ?_) 4 rfl (by kernel_rfl) (.inr rfl) rfl rfl rfl (fun x K hK => ?_) ?_
     rotate_left
     ·go_big_quiet_op
      exact hK
     refine hoist ([g]) [] (a1 := ?_) 5 rfl (by kernel_rfl) (.inr rfl) rfl rfl rfl (fun x K hK => ?_) ?_
     rotate_left
     ·go_big_quiet_op
      exact hK
     refine hoist [] [17] (a1 := ?_) 6 rfl (by kernel_rfl) (.inl ⟨rfl, rfl⟩) rfl rfl rfl (fun x K hK => ?_) ?_
     rotate_left
     ·go_big_quiet_op
      exact hK
     refine hoist [] [17] (a1 := ?_) 7 rfl (by kernel_rfl) (.inl ⟨rfl, rfl⟩) rfl rfl rfl (fun x K hK => ?_) ?_
     rotate_left
     ·go_big_quiet_op
      exact hK
     refine hoist [] [17] (a1 := ?_) 8 rfl (by kernel_rfl) (.inl ⟨rfl, rfl⟩) rfl rfl rfl (fun x K hK => ?_) ?_
     rotate_left
     ·go_big_quiet_op
      exact hK
     refine hoist [] [17] (a1 := ?_) 9 rfl (by kernel_rfl) (.inl ⟨rfl, rfl⟩) rfl rfl rfl (fun x K hK => ?_) ?_
     rotate_left
     ·go_big_quiet_op
      exact hK
     refine hoist [] [17] (a1 := ?_) 10 rfl (by kernel_rfl) (.inl ⟨rfl, rfl⟩) rfl rfl rfl (fun x K hK => ?_) ?_
     rotate_left
     ·go_big_quiet_op
      exact hK
     refine hoist [] [17] (a1 := ?_) 11 rfl (by kernel_rfl) (.inl ⟨rfl, rfl⟩) rfl rfl rfl (fun x K hK => ?_) ?_
     rotate_left
     ·go_big_quiet_op
      exact hK
     refine hoist [] [17] (a1 := ?_) 12 rfl (by kernel_rfl) (.inl ⟨rfl, rfl⟩) rfl rfl rfl (fun x K hK => ?_) ?_
     rotate_left
     ·go_big_quiet_op
      exact hK
     refine hoist [] [17] (a1 := ?_) 13 rfl (by kernel_rfl) (.inl ⟨rfl, rfl⟩) rfl rfl rfl (fun x K hK => ?_) ?_
     rotate_left
     ·go_big_quiet_op
      exact hK
     refine hoist [] [17] (a1 := ?_) 14 rfl (by kernel_rfl) (.inl ⟨rfl, rfl⟩) rfl rfl rfl (fun x K hK => ?_) ?_
     rotate_left
     ·go_big_quiet_op
      exact hK
     refine hoist [] [17] (a1 := ?_) 15 rfl (by kernel_rfl) (.inl ⟨rfl, rfl⟩) rfl rfl rfl (fun x K hK => ?_) ?_
     rotate_left
     ·go_big_quiet_op
      exact hK
     refine hoist [] [17] (a1 := ?_) 16 rfl (by kernel_rfl) (.inl ⟨rfl, rfl⟩) rfl rfl rfl (fun x K hK => ?_) ?_
     rotate_left
     ·go_big_quiet_op
      exact hK
     refine effect 17 rfl (by kernel_rfl) (by kernel_rfl) rfl (fun x17 K hK => ?_)
     have Qx := Lib.hid (Q.out.bw x17.bw)
     obtain ⟨zz, zi⟩ := Qx.out.cell (a) (by omega)
     have fi := Qx.out.frz (by omega) (o + (a))
     replace T := Lib.hid (T.out.trans ((x17.bw.still [g]).trans (still_sc x17.now g (o + (a)) (.int .u32 (vj : Nat)))))
     have Q1 := Lib.hid (Qx.out.set (a) (by omega) vj)
     go_simp
     refine hK _ _ (still_sc x17.now g (o + (a)) (.int .u32 (vj : Nat))) ?_
     clear hK K mi mj zi fi Qx Q
     generalize x17.now.setCell _ _ = wy at *
     try simp only [Act.put, List.setIfInBounds_toArray, List.set_cons_succ, List.set_cons_zero]
     refine tail 18 rfl (by kernel_rfl) rfl (fun xr => ?_)
     simp only [List.drop_succ_cons, List.drop_zero]
     have Q := Lib.hid (Q1.out.bw xr.bw)
     clear Q1
     replace T := Lib.hid (T.out.trans (xr.bw.still [g]))
     generalize xr.now = wq at *
     clear xr
     obtain ⟨zz2, zj⟩ := Q.out.cell (ak) (by omega)
     have fj := Q.out.frz (by omega) (o + (ak))
     replace T := Lib.hid (T.out.trans (still_sc wq g (o + (ak)) (.int .u32 (vi : Nat))))
     have Q2 := Lib.hid (Q.out.set (ak) (by omega) vi)
     go_upto_region 11 with (fail)
     clear zj fj Q
     generalize wq.setCell _ _ = w7 at *
     have Q := Q2
     clear Q2
     go_wp2_with fail
     refine Calls.mono (sift_any base g o n cap (0) (k1) a (by omega) hn (by omega) _ Q.out) ?_
     rintro e w8 ⟨rfl, hq, ht⟩
     replace T := Lib.hid (T.out.trans ht)
     replace Q := Lib.hid hq
     clear ht hq
     dsimp only
     go_wp2_with fail
     go_roundg k1
     case measure => omega
     case rel => exact ⟨k1, rfl, by omega, by first | rfl | (push_cast; rfl), Q, T⟩
  ·have ek : ((k1 + 1 : Nat) : Int) - 1 = (k1 : Int) := by omega
   rw [ek]
   have d : decide ((0 : Int) ≤ (k1 : Int)) = true := by simp
   have hk1 : k1 ≤ h1 := by omega
   go_wp2_with fail
   refine Calls.mono (sift_any base g o n cap (k1) (hi) a (by omega) hn (by omega) _ Q.out) ?_
   rintro e w6 ⟨rfl, hq, ht⟩
   replace T := Lib.hid (T.out.trans ht)
   replace Q := Lib.hid hq
   clear ht hq
   dsimp only
   go_wp2_with fail
   go_roundg k1
   case measure => omega
   case rel => exact ⟨k1, rfl, by omega, by first | rfl | (push_cast; rfl), Q, T⟩
end Go.Proofs.YtafhnlnhflehhaaGreatDoor
