/- A frame's step in memory; tests of subscriptions, seats, tracks. No condition. -/
import Derived.Test.YtebeifkgjhgmeaaRmA
import Derived.Test.YtebeifkgjhgmeaaRg2
namespace Go.Proofs.Ytebeifkgjhgmeaa
open Go.RowKit
def stC (gh : Nat) (kd st nn rm tr ow ly : Int) (sf : Option Addr) (nf cf : Nat) (gl ol : Nat) (chg : Value) : Array Value :=
 #[.pointer (some ⟨gh, 0, none⟩), .int .i64 kd, .int .i64 st, .int .u64 nn, .int .i64 rm, .int .i64 tr, .int .i64 ow, .int .i64 ly, .slice sf nf cf, .pointer (some ⟨gl, ol, none⟩), chg]
def sbA (x : Sbs) : Array Value := #[.int .i64 x.o, .int .i64 x.t, .int .i64 x.l, .int .u32 (x.s : Nat)]
set_option maxRecDepth 100000 in
set_option maxHeartbeats 8000000 in
theorem track_any (t : Int) (w : World) : Calls Try.prog 28 #[.int .i64 t] w fun e w' => e = .returned (.bool (decide (0 ≤ t) && decide (t < 2))) ∧ w = w' := by
 cases h1 : decide (0 ≤ t) with
 | true =>
  go_enter Try.func28, Try.ntmps28
  go_wp2_with fail
  go_ret
  exact ⟨rfl, rfl⟩
 | false =>
  go_enter Try.func28, Try.ntmps28
  go_wp2_with fail
  go_ret
  exact ⟨rfl, rfl⟩
set_option maxRecDepth 100000 in
set_option maxHeartbeats 8000000 in
theorem seat_any (gh : Nat) (vS : Value) (sl : Option Addr) (n c : Nat) (k : Int) (w : World) (h : HpB w gh (.cells #[vS, .slice sl n c] 64)) : Calls Try.prog 14 #[.pointer (some ⟨gh, 0, none⟩), .int .i64 k] w fun e w' => e = .returned (.bool (decide (0 ≤ k) && decide (k < (n : Int)))) ∧ w = w' := by
 have z1 := (hp_cell h 1).trans (show _ = some (.slice sl n c) from rfl)
 clear h
 cases h1 : decide (0 ≤ k) with
 | true =>
  go_enter Try.func14, Try.ntmps14
  go_wp2_with fail
  go_ret
  exact ⟨rfl, rfl⟩
 | false =>
  go_enter Try.func14, Try.ntmps14
  go_wp2_with fail
  go_ret
  exact ⟨rfl, rfl⟩
set_option maxRecDepth 100000 in
set_option maxHeartbeats 8000000 in
theorem of_any (gs gh : Nat) (kd st nn rm tr ow ly : Int) (sf : Option Addr) (nf cf : Nat) (gl ol : Nat) (chg : Value) (x : Sbs) (w : World) (h : HpB w gs (.cells (stC gh kd st nn rm tr ow ly sf nf cf gl ol chg) 73)) :
  Calls Try.prog 33 #[.pointer (some ⟨gs, 0, none⟩), .agg (sbA x)] w fun e w' => e = .returned (.bool (ofT st tr x)) ∧ BW w w' := by
 have BA : BW w (w.alloc (.cells (sbA x) 50)) := (BW.refl w).alloc
 have X := HpB.new w (.cells (sbA x) 50)
 have hs := h.bw BA
 have x0 := (hp_cell X 0).trans (show _ = some (.int .i64 x.o) from rfl)
 have x1 := (hp_cell X 1).trans (show _ = some (.int .i64 x.t) from rfl)
 have x3 := (hp_cell X 3).trans (show _ = some (.int .u32 (x.s : Nat)) from rfl)
 clear X h
 have s2 := (hp_cell hs 2).trans (show _ = some (.int .i64 st) from rfl)
 have s5 := (hp_cell hs 5).trans (show _ = some (.int .i64 tr) from rfl)
 have hq : ofT st tr x = (x.o == st && x.t == tr) := rfl
 generalize ofT st tr x = b at *
 clear hs
 unfold sbA at *
 cases h1 : (x.o == st) with
 | true =>
  rw [h1] at hq
  replace hq := Lib.hid hq
  replace BA := Lib.hid BA
  go_enter Try.func33, Try.ntmps33
  go_upto_region 1 with (fail)
  generalize w.alloc (.cells #[.int .i64 x.o, .int .i64 x.t, .int .i64 x.l, .int .u32 (x.s : Nat)] 50) = w1 at *
  generalize w.heap.size = gx at *
  have m0 : ∀ y : LaterS [] w1, _ := fun y => y.bw.cell x0
  have m1 : ∀ y : LaterS [] w1, _ := fun y => y.bw.cell x1
  have n2 : ∀ y : LaterS [] w1, _ := fun y => y.bw.cell s2
  have n5 : ∀ y : LaterS [] w1, _ := fun y => y.bw.cell s5
  clear x0 x1 x3 s2 s5
  refine wp_region_gg [] [] [] (by kernel_rfl) ?_
  refine hoist [] [] (a1 := ?_) 0 rfl (by kernel_rfl) (.inl ⟨rfl, rfl⟩) rfl rfl rfl (fun x K hK => ?_) ?_
  rotate_left
  ·go_big_quiet_op
   exact hK
  refine hoist [] [] (a1 := ?_) 1 rfl (by kernel_rfl) (.inl ⟨rfl, rfl⟩) rfl rfl rfl (fun x K hK => ?_) ?_
  rotate_left
  ·go_big_quiet_op
   exact hK
  refine hoist [] [] (a1 := ?_) 2 rfl (by kernel_rfl) (.inl ⟨rfl, rfl⟩) rfl rfl rfl (fun x K hK => ?_) ?_
  rotate_left
  ·go_big_quiet_op
   exact hK
  refine hoist [] [] (a1 := ?_) 3 rfl (by kernel_rfl) (.inl ⟨rfl, rfl⟩) rfl rfl rfl (fun x K hK => ?_) ?_
  rotate_left
  ·go_big_quiet_op
   exact hK
  refine hoist [] [] (a1 := ?_) 4 rfl (by kernel_rfl) (.inl ⟨rfl, rfl⟩) rfl rfl rfl (fun x K hK => ?_) ?_
  rotate_left
  ·go_big_quiet_op
   exact hK
  refine hoist [] [] (a1 := ?_) 5 rfl (by kernel_rfl) (.inl ⟨rfl, rfl⟩) rfl rfl rfl (fun x K hK => ?_) ?_
  rotate_left
  ·go_big_quiet_op
   exact hK
  refine hoist [] [] (a1 := ?_) 6 rfl (by kernel_rfl) (.inl ⟨rfl, rfl⟩) rfl rfl rfl (fun x K hK => ?_) ?_
  rotate_left
  ·go_big_quiet_op
   exact hK
  refine hoist [] [] (a1 := ?_) 7 rfl (by kernel_rfl) (.inl ⟨rfl, rfl⟩) rfl rfl rfl (fun x K hK => ?_) ?_
  rotate_left
  ·go_big_quiet_op
   exact hK
  refine hoist [] [] (a1 := ?_) 8 rfl (by kernel_rfl) (.inl ⟨rfl, rfl⟩) rfl rfl rfl (fun x K hK => ?_) ?_
  rotate_left
  ·go_big_quiet_op
   exact hK
  refine hoist [] [] (a1 := ?_) 9 rfl (by kernel_rfl) (.inl ⟨rfl, rfl⟩) rfl rfl rfl (fun x K hK => ?_) ?_
  rotate_left
  ·go_big_quiet_op
   exact hK
  refine hoist [] [] (a1 := ?_) 10 rfl (by kernel_rfl) (.inl ⟨rfl, rfl⟩) rfl rfl rfl (fun x K hK => ?_) ?_
  rotate_left
  ·go_big_quiet_op
   exact hK
  refine hoist [] [] (a1 := ?_) 11 rfl (by kernel_rfl) (.inl ⟨rfl, rfl⟩) rfl rfl rfl (fun x K hK => ?_) ?_
  rotate_left
  ·go_big_quiet_op
   exact hK
  refine hoist [] [] (a1 := ?_) 12 rfl (by kernel_rfl) (.inl ⟨rfl, rfl⟩) rfl rfl rfl (fun x K hK => ?_) ?_
  rotate_left
  ·go_big_quiet_op
   exact hK
  refine hoist [] [] (a1 := ?_) 13 rfl (by kernel_rfl) (.inl ⟨rfl, rfl⟩) rfl rfl rfl (fun x K hK => ?_) ?_
  rotate_left
  ·go_big_quiet_op
   exact hK
  refine hoist [] [] (a1 := ?_) 14 rfl (by kernel_rfl) (.inl ⟨rfl, rfl⟩) rfl rfl rfl (fun x K hK => ?_) ?_
  rotate_left
  ·go_big_quiet_op
   exact hK
  refine hoist [] [] (a1 := ?_) 15 rfl (by kernel_rfl) (.inl ⟨rfl, rfl⟩) rfl rfl rfl (fun x K hK => ?_) ?_
  rotate_left
  ·go_big_quiet_op
   exact hK
  refine hoist [] [] (a1 := ?_) 16 rfl (by kernel_rfl) (.inl ⟨rfl, rfl⟩) rfl rfl rfl (fun x K hK => ?_) ?_
  rotate_left
  ·go_big_quiet_op
   exact hK
  refine hoist [] [] (a1 := ?_) 17 rfl (by kernel_rfl) (.inl ⟨rfl, rfl⟩) rfl rfl rfl (fun x K hK => ?_) ?_
  rotate_left
  ·go_big_quiet_op
   exact hK
  refine hoist [] [] (a1 := ?_) 18 rfl (by kernel_rfl) (.inl ⟨rfl, rfl⟩) rfl rfl rfl (fun x K hK => ?_) ?_
  rotate_left
  ·go_big_quiet_op
   exact hK
  refine done (by kernel_rfl) (fun xr => ?_)
  have hb := BA.out.trans xr.bw
  replace hb := Lib.hid hb
  go_wp2_with fail
  go_ret
  exact ⟨by rw [hq.out]; rfl, hb.out⟩
 | false =>
  rw [h1] at hq
  replace hq := Lib.hid hq
  replace BA := Lib.hid BA
  go_enter Try.func33, Try.ntmps33
  go_upto_region 1 with (fail)
  generalize w.alloc (.cells #[.int .i64 x.o, .int .i64 x.t, .int .i64 x.l, .int .u32 (x.s : Nat)] 50) = w1 at *
  generalize w.heap.size = gx at *
  have m0 : ∀ y : LaterS [] w1, _ := fun y => y.bw.cell x0
  have m1 : ∀ y : LaterS [] w1, _ := fun y => y.bw.cell x1
  have n2 : ∀ y : LaterS [] w1, _ := fun y => y.bw.cell s2
  have n5 : ∀ y : LaterS [] w1, _ := fun y => y.bw.cell s5
  clear x0 x1 x3 s2 s5
  refine wp_region_gg [] [] [] (by kernel_rfl) ?_
  refine hoist [] [] (a1 := ?_) 0 rfl (by kernel_rfl) (.inl ⟨rfl, rfl⟩) rfl rfl rfl (fun x K hK => ?_) ?_
  rotate_left
  ·go_big_quiet_op
   exact hK
  refine hoist [] [] (a1 := ?_) 1 rfl (by kernel_rfl) (.inl ⟨rfl, rfl⟩) rfl rfl rfl (fun x K hK => ?_) ?_
  rotate_left
  ·go_big_quiet_op
   exact hK
  refine hoist [] [] (a1 := ?_) 2 rfl (by kernel_rfl) (.inl ⟨rfl, rfl⟩) rfl rfl rfl (fun x K hK => ?_) ?_
  rotate_left
  ·go_big_quiet_op
   exact hK
  refine hoist [] [] (a1 := ?_) 3 rfl (by kernel_rfl) (.inl ⟨rfl, rfl⟩) rfl rfl rfl (fun x K hK => ?_) ?_
  rotate_left
  ·go_big_quiet_op
   exact hK
  refine hoist [] [] (a1 := ?_) 4 rfl (by kernel_rfl) (.inl ⟨rfl, rfl⟩) rfl rfl rfl (fun x K hK => ?_) ?_
  rotate_left
  ·go_big_quiet_op
   exact hK
  refine hoist [] [] (a1 := ?_) 5 rfl (by kernel_rfl) (.inl ⟨rfl, rfl⟩) rfl rfl rfl (fun x K hK => ?_) ?_
  rotate_left
  ·go_big_quiet_op
   exact hK
  refine hoist [] [] (a1 := ?_) 6 rfl (by kernel_rfl) (.inl ⟨rfl, rfl⟩) rfl rfl rfl (fun x K hK => ?_) ?_
  rotate_left
  ·go_big_quiet_op
   exact hK
  refine hoist [] [] (a1 := ?_) 7 rfl (by kernel_rfl) (.inl ⟨rfl, rfl⟩) rfl rfl rfl (fun x K hK => ?_) ?_
  rotate_left
  ·go_big_quiet_op
   exact hK
  refine hoist [] [] (a1 := ?_) 8 rfl (by kernel_rfl) (.inl ⟨rfl, rfl⟩) rfl rfl rfl (fun x K hK => ?_) ?_
  rotate_left
  ·go_big_quiet_op
   exact hK
  refine hoist_skip [] [] 9 rfl (by kernel_rfl) (.inl ⟨rfl, rfl⟩) rfl (a1 := ?_) ?_ ?_
  rotate_left
  ·simp only [Act.put, List.setIfInBounds_toArray, List.set_cons_succ, List.set_cons_zero]; rfl
  refine hoist_skip [] [] 10 rfl (by kernel_rfl) (.inl ⟨rfl, rfl⟩) rfl (a1 := ?_) ?_ ?_
  rotate_left
  ·simp only [Act.put, List.setIfInBounds_toArray, List.set_cons_succ, List.set_cons_zero]; rfl
  refine hoist_skip [] [] 11 rfl (by kernel_rfl) (.inl ⟨rfl, rfl⟩) rfl (a1 := ?_) ?_ ?_
  rotate_left
  ·simp only [Act.put, List.setIfInBounds_toArray, List.set_cons_succ, List.set_cons_zero]; rfl
  refine hoist_skip [] [] 12 rfl (by kernel_rfl) (.inl ⟨rfl, rfl⟩) rfl (a1 := ?_) ?_ ?_
  rotate_left
  ·simp only [Act.put, List.setIfInBounds_toArray, List.set_cons_succ, List.set_cons_zero]; rfl
  refine hoist_skip [] [] 13 rfl (by kernel_rfl) (.inl ⟨rfl, rfl⟩) rfl (a1 := ?_) ?_ ?_
  rotate_left
  ·simp only [Act.put, List.setIfInBounds_toArray, List.set_cons_succ, List.set_cons_zero]; rfl
  refine hoist_skip [] [] 14 rfl (by kernel_rfl) (.inl ⟨rfl, rfl⟩) rfl (a1 := ?_) ?_ ?_
  rotate_left
  ·simp only [Act.put, List.setIfInBounds_toArray, List.set_cons_succ, List.set_cons_zero]; rfl
  refine hoist_skip [] [] 15 rfl (by kernel_rfl) (.inl ⟨rfl, rfl⟩) rfl (a1 := ?_) ?_ ?_
  rotate_left
  ·simp only [Act.put, List.setIfInBounds_toArray, List.set_cons_succ, List.set_cons_zero]; rfl
  refine hoist_skip [] [] 16 rfl (by kernel_rfl) (.inl ⟨rfl, rfl⟩) rfl (a1 := ?_) ?_ ?_
  rotate_left
  ·simp only [Act.put, List.setIfInBounds_toArray, List.set_cons_succ, List.set_cons_zero]; rfl
  refine hoist [] [] (a1 := ?_) 17 rfl (by kernel_rfl) (.inl ⟨rfl, rfl⟩) rfl rfl rfl (fun x K hK => ?_) ?_
  rotate_left
  ·go_big_quiet_op
   exact hK
  refine hoist [] [] (a1 := ?_) 18 rfl (by kernel_rfl) (.inl ⟨rfl, rfl⟩) rfl rfl rfl (fun x K hK => ?_) ?_
  rotate_left
  ·go_big_quiet_op
   exact hK
  refine done (by kernel_rfl) (fun xr => ?_)
  have hb := BA.out.trans xr.bw
  replace hb := Lib.hid hb
  go_wp2_with fail
  go_ret
  exact ⟨by rw [hq.out]; rfl, hb.out⟩
set_option maxRecDepth 100000 in
set_option maxHeartbeats 8000000 in
theorem to_any (gs gh : Nat) (kd st nn rm tr ow ly : Int) (sf : Option Addr) (nf cf : Nat) (gl ol : Nat) (chg : Value) (x : Sbs) (w : World) (h : HpB w gs (.cells (stC gh kd st nn rm tr ow ly sf nf cf gl ol chg) 73)) :
  Calls Try.prog 35 #[.pointer (some ⟨gs, 0, none⟩), .agg (sbA x)] w fun e w' => e = .returned (.bool (ofT ow tr x)) ∧ BW w w' := by
 have BA : BW w (w.alloc (.cells (sbA x) 50)) := (BW.refl w).alloc
 have X := HpB.new w (.cells (sbA x) 50)
 have hs := h.bw BA
 have x0 := (hp_cell X 0).trans (show _ = some (.int .i64 x.o) from rfl)
 have x1 := (hp_cell X 1).trans (show _ = some (.int .i64 x.t) from rfl)
 have x3 := (hp_cell X 3).trans (show _ = some (.int .u32 (x.s : Nat)) from rfl)
 clear X h
 have s2 := (hp_cell hs 6).trans (show _ = some (.int .i64 ow) from rfl)
 have s5 := (hp_cell hs 5).trans (show _ = some (.int .i64 tr) from rfl)
 have hq : ofT ow tr x = (x.o == ow && x.t == tr) := rfl
 generalize ofT ow tr x = b at *
 clear hs
 unfold sbA at *
 cases h1 : (x.o == ow) with
 | true =>
  rw [h1] at hq
  replace hq := Lib.hid hq
  replace BA := Lib.hid BA
  go_enter Try.func35, Try.ntmps35
  go_upto_region 1 with (fail)
  generalize w.alloc (.cells #[.int .i64 x.o, .int .i64 x.t, .int .i64 x.l, .int .u32 (x.s : Nat)] 50) = w1 at *
  generalize w.heap.size = gx at *
  have m0 : ∀ y : LaterS [] w1, _ := fun y => y.bw.cell x0
  have m1 : ∀ y : LaterS [] w1, _ := fun y => y.bw.cell x1
  have n2 : ∀ y : LaterS [] w1, _ := fun y => y.bw.cell s2
  have n5 : ∀ y : LaterS [] w1, _ := fun y => y.bw.cell s5
  clear x0 x1 x3 s2 s5
  refine wp_region_gg [] [] [] (by kernel_rfl) ?_
  refine hoist [] [] (a1 := ?_) 0 rfl (by kernel_rfl) (.inl ⟨rfl, rfl⟩) rfl rfl rfl (fun x K hK => ?_) ?_
  rotate_left
  ·go_big_quiet_op
   exact hK
  refine hoist [] [] (a1 := ?_) 1 rfl (by kernel_rfl) (.inl ⟨rfl, rfl⟩) rfl rfl rfl (fun x K hK => ?_) ?_
  rotate_left
  ·go_big_quiet_op
   exact hK
  refine hoist [] [] (a1 := ?_) 2 rfl (by kernel_rfl) (.inl ⟨rfl, rfl⟩) rfl rfl rfl (fun x K hK => ?_) ?_
  rotate_left
  ·go_big_quiet_op
   exact hK
  refine hoist [] [] (a1 := ?_) 3 rfl (by kernel_rfl) (.inl ⟨rfl, rfl⟩) rfl rfl rfl (fun x K hK => ?_) ?_
  rotate_left
  ·go_big_quiet_op
   exact hK
  refine hoist [] [] (a1 := ?_) 4 rfl (by kernel_rfl) (.inl ⟨rfl, rfl⟩) rfl rfl rfl (fun x K hK => ?_) ?_
  rotate_left
  ·go_big_quiet_op
   exact hK
  refine hoist [] [] (a1 := ?_) 5 rfl (by kernel_rfl) (.inl ⟨rfl, rfl⟩) rfl rfl rfl (fun x K hK => ?_) ?_
  rotate_left
  ·go_big_quiet_op
   exact hK
  refine hoist [] [] (a1 := ?_) 6 rfl (by kernel_rfl) (.inl ⟨rfl, rfl⟩) rfl rfl rfl (fun x K hK => ?_) ?_
  rotate_left
  ·go_big_quiet_op
   exact hK
  refine hoist [] [] (a1 := ?_) 7 rfl (by kernel_rfl) (.inl ⟨rfl, rfl⟩) rfl rfl rfl (fun x K hK => ?_) ?_
  rotate_left
  ·go_big_quiet_op
   exact hK
  refine hoist [] [] (a1 := ?_) 8 rfl (by kernel_rfl) (.inl ⟨rfl, rfl⟩) rfl rfl rfl (fun x K hK => ?_) ?_
  rotate_left
  ·go_big_quiet_op
   exact hK
  refine hoist [] [] (a1 := ?_) 9 rfl (by kernel_rfl) (.inl ⟨rfl, rfl⟩) rfl rfl rfl (fun x K hK => ?_) ?_
  rotate_left
  ·go_big_quiet_op
   exact hK
  refine hoist [] [] (a1 := ?_) 10 rfl (by kernel_rfl) (.inl ⟨rfl, rfl⟩) rfl rfl rfl (fun x K hK => ?_) ?_
  rotate_left
  ·go_big_quiet_op
   exact hK
  refine hoist [] [] (a1 := ?_) 11 rfl (by kernel_rfl) (.inl ⟨rfl, rfl⟩) rfl rfl rfl (fun x K hK => ?_) ?_
  rotate_left
  ·go_big_quiet_op
   exact hK
  refine hoist [] [] (a1 := ?_) 12 rfl (by kernel_rfl) (.inl ⟨rfl, rfl⟩) rfl rfl rfl (fun x K hK => ?_) ?_
  rotate_left
  ·go_big_quiet_op
   exact hK
  refine hoist [] [] (a1 := ?_) 13 rfl (by kernel_rfl) (.inl ⟨rfl, rfl⟩) rfl rfl rfl (fun x K hK => ?_) ?_
  rotate_left
  ·go_big_quiet_op
   exact hK
  refine hoist [] [] (a1 := ?_) 14 rfl (by kernel_rfl) (.inl ⟨rfl, rfl⟩) rfl rfl rfl (fun x K hK => ?_) ?_
  rotate_left
  ·go_big_quiet_op
   exact hK
  refine hoist [] [] (a1 := ?_) 15 rfl (by kernel_rfl) (.inl ⟨rfl, rfl⟩) rfl rfl rfl (fun x K hK => ?_) ?_
  rotate_left
  ·go_big_quiet_op
   exact hK
  refine hoist [] [] (a1 := ?_) 16 rfl (by kernel_rfl) (.inl ⟨rfl, rfl⟩) rfl rfl rfl (fun x K hK => ?_) ?_
  rotate_left
  ·go_big_quiet_op
   exact hK
  refine hoist [] [] (a1 := ?_) 17 rfl (by kernel_rfl) (.inl ⟨rfl, rfl⟩) rfl rfl rfl (fun x K hK => ?_) ?_
  rotate_left
  ·go_big_quiet_op
   exact hK
  refine hoist [] [] (a1 := ?_) 18 rfl (by kernel_rfl) (.inl ⟨rfl, rfl⟩) rfl rfl rfl (fun x K hK => ?_) ?_
  rotate_left
  ·go_big_quiet_op
   exact hK
  refine done (by kernel_rfl) (fun xr => ?_)
  have hb := BA.out.trans xr.bw
  replace hb := Lib.hid hb
  go_wp2_with fail
  go_ret
  exact ⟨by rw [hq.out]; rfl, hb.out⟩
 | false =>
  rw [h1] at hq
  replace hq := Lib.hid hq
  replace BA := Lib.hid BA
  go_enter Try.func35, Try.ntmps35
  go_upto_region 1 with (fail)
  generalize w.alloc (.cells #[.int .i64 x.o, .int .i64 x.t, .int .i64 x.l, .int .u32 (x.s : Nat)] 50) = w1 at *
  generalize w.heap.size = gx at *
  have m0 : ∀ y : LaterS [] w1, _ := fun y => y.bw.cell x0
  have m1 : ∀ y : LaterS [] w1, _ := fun y => y.bw.cell x1
  have n2 : ∀ y : LaterS [] w1, _ := fun y => y.bw.cell s2
  have n5 : ∀ y : LaterS [] w1, _ := fun y => y.bw.cell s5
  clear x0 x1 x3 s2 s5
  refine wp_region_gg [] [] [] (by kernel_rfl) ?_
  refine hoist [] [] (a1 := ?_) 0 rfl (by kernel_rfl) (.inl ⟨rfl, rfl⟩) rfl rfl rfl (fun x K hK => ?_) ?_
  rotate_left
  ·go_big_quiet_op
   exact hK
  refine hoist [] [] (a1 := ?_) 1 rfl (by kernel_rfl) (.inl ⟨rfl, rfl⟩) rfl rfl rfl (fun x K hK => ?_) ?_
  rotate_left
  ·go_big_quiet_op
   exact hK
  refine hoist [] [] (a1 := ?_) 2 rfl (by kernel_rfl) (.inl ⟨rfl, rfl⟩) rfl rfl rfl (fun x K hK => ?_) ?_
  rotate_left
  ·go_big_quiet_op
   exact hK
  refine hoist [] [] (a1 := ?_) 3 rfl (by kernel_rfl) (.inl ⟨rfl, rfl⟩) rfl rfl rfl (fun x K hK => ?_) ?_
  rotate_left
  ·go_big_quiet_op
   exact hK
  refine hoist [] [] (a1 := ?_) 4 rfl (by kernel_rfl) (.inl ⟨rfl, rfl⟩) rfl rfl rfl (fun x K hK => ?_) ?_
  rotate_left
  ·go_big_quiet_op
   exact hK
  refine hoist [] [] (a1 := ?_) 5 rfl (by kernel_rfl) (.inl ⟨rfl, rfl⟩) rfl rfl rfl (fun x K hK => ?_) ?_
  rotate_left
  ·go_big_quiet_op
   exact hK
  refine hoist [] [] (a1 := ?_) 6 rfl (by kernel_rfl) (.inl ⟨rfl, rfl⟩) rfl rfl rfl (fun x K hK => ?_) ?_
  rotate_left
  ·go_big_quiet_op
   exact hK
  refine hoist [] [] (a1 := ?_) 7 rfl (by kernel_rfl) (.inl ⟨rfl, rfl⟩) rfl rfl rfl (fun x K hK => ?_) ?_
  rotate_left
  ·go_big_quiet_op
   exact hK
  refine hoist [] [] (a1 := ?_) 8 rfl (by kernel_rfl) (.inl ⟨rfl, rfl⟩) rfl rfl rfl (fun x K hK => ?_) ?_
  rotate_left
  ·go_big_quiet_op
   exact hK
  refine hoist_skip [] [] 9 rfl (by kernel_rfl) (.inl ⟨rfl, rfl⟩) rfl (a1 := ?_) ?_ ?_
  rotate_left
  ·simp only [Act.put, List.setIfInBounds_toArray, List.set_cons_succ, List.set_cons_zero]; rfl
  refine hoist_skip [] [] 10 rfl (by kernel_rfl) (.inl ⟨rfl, rfl⟩) rfl (a1 := ?_) ?_ ?_
  rotate_left
  ·simp only [Act.put, List.setIfInBounds_toArray, List.set_cons_succ, List.set_cons_zero]; rfl
  refine hoist_skip [] [] 11 rfl (by kernel_rfl) (.inl ⟨rfl, rfl⟩) rfl (a1 := ?_) ?_ ?_
  rotate_left
  ·simp only [Act.put, List.setIfInBounds_toArray, List.set_cons_succ, List.set_cons_zero]; rfl
  refine hoist_skip [] [] 12 rfl (by kernel_rfl) (.inl ⟨rfl, rfl⟩) rfl (a1 := ?_) ?_ ?_
  rotate_left
  ·simp only [Act.put, List.setIfInBounds_toArray, List.set_cons_succ, List.set_cons_zero]; rfl
  refine hoist_skip [] [] 13 rfl (by kernel_rfl) (.inl ⟨rfl, rfl⟩) rfl (a1 := ?_) ?_ ?_
  rotate_left
  ·simp only [Act.put, List.setIfInBounds_toArray, List.set_cons_succ, List.set_cons_zero]; rfl
  refine hoist_skip [] [] 14 rfl (by kernel_rfl) (.inl ⟨rfl, rfl⟩) rfl (a1 := ?_) ?_ ?_
  rotate_left
  ·simp only [Act.put, List.setIfInBounds_toArray, List.set_cons_succ, List.set_cons_zero]; rfl
  refine hoist_skip [] [] 15 rfl (by kernel_rfl) (.inl ⟨rfl, rfl⟩) rfl (a1 := ?_) ?_ ?_
  rotate_left
  ·simp only [Act.put, List.setIfInBounds_toArray, List.set_cons_succ, List.set_cons_zero]; rfl
  refine hoist_skip [] [] 16 rfl (by kernel_rfl) (.inl ⟨rfl, rfl⟩) rfl (a1 := ?_) ?_ ?_
  rotate_left
  ·simp only [Act.put, List.setIfInBounds_toArray, List.set_cons_succ, List.set_cons_zero]; rfl
  refine hoist [] [] (a1 := ?_) 17 rfl (by kernel_rfl) (.inl ⟨rfl, rfl⟩) rfl rfl rfl (fun x K hK => ?_) ?_
  rotate_left
  ·go_big_quiet_op
   exact hK
  refine hoist [] [] (a1 := ?_) 18 rfl (by kernel_rfl) (.inl ⟨rfl, rfl⟩) rfl rfl rfl (fun x K hK => ?_) ?_
  rotate_left
  ·go_big_quiet_op
   exact hK
  refine done (by kernel_rfl) (fun xr => ?_)
  have hb := BA.out.trans xr.bw
  replace hb := Lib.hid hb
  go_wp2_with fail
  go_ret
  exact ⟨by rw [hq.out]; rfl, hb.out⟩
end Go.Proofs.Ytebeifkgjhgmeaa
