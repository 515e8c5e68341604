/- The writer of an egress: Map and Follow, whatever comes (printed by wip/gen/genEsC.py). No condition but the numbers' bounds. -/
import Derived.Test.YtojedpahaifjgaaGEm
namespace Go.Proofs.Ytojedpahaifjgaa
open Go.RowKit
set_option maxRecDepth 100000 in
set_option maxHeartbeats 8000000 in
theorem wfollow_neg (g : Nat) (i s p : Int) (hi : i < 0) (w : World) :
  Calls Try.prog 39 #[.pointer (some ⟨g, 4, none⟩), .agg #[.int .i64 i, .int .u32 s, .int .u16 p]] w fun e w' => e = .returned (.int .i64 10) ∧ BW w w' := by
 have d : decide (i < 0) = true := by simpa using hi
 have B1 := Lib.hid (show BW w (w.alloc (.cells #[.int .i64 i, .int .u32 s, .int .u16 p] 51)) from (BW.refl w).alloc)
 have X1 := HpB.new w (.cells #[.int .i64 i, .int .u32 s, .int .u16 p] 51)
 go_enter Try.func39, Try.ntmps39
 go_upto_region 1 with (fail)
 generalize w.alloc (.cells #[.int .i64 i, .int .u32 s, .int .u16 p] 51) = w1 at *
 generalize w.heap.size = gx at *
 have z0 := (hp_cell X1 0).trans (show _ = some (.int .i64 i) from rfl)
 replace X1 := Lib.hid X1
 go_wp2_with fail
 go_ret
 exact ⟨rfl, B1.out⟩
set_option maxRecDepth 100000 in
set_option maxHeartbeats 8000000 in
theorem wmap_no1 (g gc gr gb : Nat) (kf pf : Value) (src first : Int) (a0 a1 a2 b0 b1 b2 : Int) (out : Bool) (l0 l1 l2 i s p : Int)  (w : World) (h : HpB w g (.cells (egC gc kf pf src first false a0 a1 a2 b0 b1 b2 out l0 l1 l2 gr gb) 57)) :
  Calls Try.prog 40 #[.pointer (some ⟨g, 4, none⟩), .agg #[.int .i64 i, .int .u32 s, .int .u16 p]] w fun e w' => ∃ er : Int, e = .returned (.tuple #[.agg #[.int .i64 0, .int .u32 0, .int .u16 0], .int .i64 er]) ∧ er ≠ 0 ∧ BW w w' := by
 have BA : BW w (w.alloc (.cells #[.int .i64 i, .int .u32 s, .int .u16 p] 51)) := (BW.refl w).alloc
 have X1 := HpB.new w (.cells #[.int .i64 i, .int .u32 s, .int .u16 p] 51)
 generalize hw1 : w.alloc (.cells #[.int .i64 i, .int .u32 s, .int .u16 p] 51) = w1 at *
 have BB : BW w1 (w1.alloc (.cells #[.int .i64 0, .int .u32 0, .int .u16 0] 51)) := (BW.refl w1).alloc
 have X2 := HpB.new w1 (.cells #[.int .i64 0, .int .u32 0, .int .u16 0] 51)
 have X1' := X1.bw BB
 have B2 := BA.trans BB
 have hBs := Lib.hid BA.size
 have H2 := h.bw B2
 clear h X1 BA BB
 go_enter Try.func40, Try.ntmps40
 go_upto_region 1 with (fail)
 generalize w1.alloc (.cells #[.int .i64 0, .int .u32 0, .int .u16 0] 51) = w2 at *
 generalize hgx : w.heap.size = gx at *
 generalize hgy : w1.heap.size = gy at *
 have x0 := (hp_cell X1' 0).trans (show _ = some (.int .i64 i) from rfl)
 have q0 := (hp_cell X2 0).trans (show _ = some (.int .i64 0) from rfl)
 have q1 := (hp_cell X2 1).trans (show _ = some (.int .u32 0) from rfl)
 have q2 := (hp_cell X2 2).trans (show _ = some (.int .u16 0) from rfl)
 have f0 := hp_frz X2 0
 have f1 := hp_frz X2 1
 have f2 := hp_frz X2 2
 have z5 := (hp_cell H2 5).trans (show _ = some (.bool false) from rfl)
 have z6 := (hp_cell H2 6).trans (show _ = some (.int .i64 a0) from rfl)
 have hB2 := Lib.hid B2
 have hX2 := Lib.hid X2
 clear H2 X2 X1' B2
 replace hw1 := Lib.hid hw1
 replace hgx := Lib.hid hgx
 replace hgy := Lib.hid hgy
 have T9 := Lib.hid (BW.stP hB2.out (still_st3 w2 gy (.int .i64 0) (.int .u32 0) (.int .u16 0)) (fun k hk => by obtain rfl : k = gy := (by simpa using hk); have := hgy.out; have := hgx.out; have := hBs.out; omega))
 have Y9 := Lib.hid (hX2.out.st3 rfl (.int .i64 0) (.int .u32 0) (.int .u16 0))
 go_wp2_with fail
 try (generalize (((w2.setCell ⟨gy, 0, none⟩ (.int .i64 0)).setCell ⟨gy, 1, none⟩ (.int .u32 0)).setCell ⟨gy, 2, none⟩ (.int .u16 0)) = w9 at *)
 clear q0 q1 q2 f0 f1 f2
 have q0 := (hp_cell Y9.out 0).trans (show _ = some (.int .i64 0) from rfl)
 have q1 := (hp_cell Y9.out 1).trans (show _ = some (.int .u32 0) from rfl)
 have q2 := (hp_cell Y9.out 2).trans (show _ = some (.int .u16 0) from rfl)
 exact bodyPost_ret (v := .tuple #[.agg #[.int .i64 0, .int .u32 0, .int .u16 0], .int .i64 10]) (by simp [results, Try.results40, go_sem, q0, q1, q2]) rfl ⟨_, rfl, by decide, T9.out⟩
set_option maxRecDepth 100000 in
set_option maxHeartbeats 8000000 in
theorem wmap_no2 (g gc gr gb : Nat) (kf pf : Value) (src first : Int) (a0 a1 a2 b0 b1 b2 : Int) (out : Bool) (l0 l1 l2 i s p : Int) (hi : i < 0) (w : World) (h : HpB w g (.cells (egC gc kf pf src first true a0 a1 a2 b0 b1 b2 out l0 l1 l2 gr gb) 57)) :
  Calls Try.prog 40 #[.pointer (some ⟨g, 4, none⟩), .agg #[.int .i64 i, .int .u32 s, .int .u16 p]] w fun e w' => ∃ er : Int, e = .returned (.tuple #[.agg #[.int .i64 0, .int .u32 0, .int .u16 0], .int .i64 er]) ∧ er ≠ 0 ∧ BW w w' := by
 have d : decide (i < 0) = true := by simpa using hi
 have BA : BW w (w.alloc (.cells #[.int .i64 i, .int .u32 s, .int .u16 p] 51)) := (BW.refl w).alloc
 have X1 := HpB.new w (.cells #[.int .i64 i, .int .u32 s, .int .u16 p] 51)
 generalize hw1 : w.alloc (.cells #[.int .i64 i, .int .u32 s, .int .u16 p] 51) = w1 at *
 have BB : BW w1 (w1.alloc (.cells #[.int .i64 0, .int .u32 0, .int .u16 0] 51)) := (BW.refl w1).alloc
 have X2 := HpB.new w1 (.cells #[.int .i64 0, .int .u32 0, .int .u16 0] 51)
 have X1' := X1.bw BB
 have B2 := BA.trans BB
 have hBs := Lib.hid BA.size
 have H2 := h.bw B2
 clear h X1 BA BB
 go_enter Try.func40, Try.ntmps40
 go_upto_region 1 with (fail)
 generalize w1.alloc (.cells #[.int .i64 0, .int .u32 0, .int .u16 0] 51) = w2 at *
 generalize hgx : w.heap.size = gx at *
 generalize hgy : w1.heap.size = gy at *
 have x0 := (hp_cell X1' 0).trans (show _ = some (.int .i64 i) from rfl)
 have q0 := (hp_cell X2 0).trans (show _ = some (.int .i64 0) from rfl)
 have q1 := (hp_cell X2 1).trans (show _ = some (.int .u32 0) from rfl)
 have q2 := (hp_cell X2 2).trans (show _ = some (.int .u16 0) from rfl)
 have f0 := hp_frz X2 0
 have f1 := hp_frz X2 1
 have f2 := hp_frz X2 2
 have z5 := (hp_cell H2 5).trans (show _ = some (.bool true) from rfl)
 have z6 := (hp_cell H2 6).trans (show _ = some (.int .i64 a0) from rfl)
 have hB2 := Lib.hid B2
 have hX2 := Lib.hid X2
 clear H2 X2 X1' B2
 replace hw1 := Lib.hid hw1
 replace hgx := Lib.hid hgx
 replace hgy := Lib.hid hgy
 have T9 := Lib.hid (BW.stP hB2.out (still_st3 w2 gy (.int .i64 0) (.int .u32 0) (.int .u16 0)) (fun k hk => by obtain rfl : k = gy := (by simpa using hk); have := hgy.out; have := hgx.out; have := hBs.out; omega))
 have Y9 := Lib.hid (hX2.out.st3 rfl (.int .i64 0) (.int .u32 0) (.int .u16 0))
 go_wp2_with fail
 try (generalize (((w2.setCell ⟨gy, 0, none⟩ (.int .i64 0)).setCell ⟨gy, 1, none⟩ (.int .u32 0)).setCell ⟨gy, 2, none⟩ (.int .u16 0)) = w9 at *)
 clear q0 q1 q2 f0 f1 f2
 have q0 := (hp_cell Y9.out 0).trans (show _ = some (.int .i64 0) from rfl)
 have q1 := (hp_cell Y9.out 1).trans (show _ = some (.int .u32 0) from rfl)
 have q2 := (hp_cell Y9.out 2).trans (show _ = some (.int .u16 0) from rfl)
 exact bodyPost_ret (v := .tuple #[.agg #[.int .i64 0, .int .u32 0, .int .u16 0], .int .i64 10]) (by simp [results, Try.results40, go_sem, q0, q1, q2]) rfl ⟨_, rfl, by decide, T9.out⟩
set_option maxRecDepth 100000 in
set_option maxHeartbeats 8000000 in
theorem wmap_no3 (g gc gr gb : Nat) (kf pf : Value) (src first : Int) (a0 a1 a2 b0 b1 b2 : Int) (out : Bool) (l0 l1 l2 i s p : Int) (hi : 0 ≤ i) (ha : i < a0) (w : World) (h : HpB w g (.cells (egC gc kf pf src first true a0 a1 a2 b0 b1 b2 out l0 l1 l2 gr gb) 57)) :
  Calls Try.prog 40 #[.pointer (some ⟨g, 4, none⟩), .agg #[.int .i64 i, .int .u32 s, .int .u16 p]] w fun e w' => ∃ er : Int, e = .returned (.tuple #[.agg #[.int .i64 0, .int .u32 0, .int .u16 0], .int .i64 er]) ∧ er ≠ 0 ∧ BW w w' := by
 have d : decide (i < 0) = false := by simp; omega
 have d2 : decide (i < a0) = true := by simpa using ha
 have BA : BW w (w.alloc (.cells #[.int .i64 i, .int .u32 s, .int .u16 p] 51)) := (BW.refl w).alloc
 have X1 := HpB.new w (.cells #[.int .i64 i, .int .u32 s, .int .u16 p] 51)
 generalize hw1 : w.alloc (.cells #[.int .i64 i, .int .u32 s, .int .u16 p] 51) = w1 at *
 have BB : BW w1 (w1.alloc (.cells #[.int .i64 0, .int .u32 0, .int .u16 0] 51)) := (BW.refl w1).alloc
 have X2 := HpB.new w1 (.cells #[.int .i64 0, .int .u32 0, .int .u16 0] 51)
 have X1' := X1.bw BB
 have B2 := BA.trans BB
 have hBs := Lib.hid BA.size
 have H2 := h.bw B2
 clear h X1 BA BB
 go_enter Try.func40, Try.ntmps40
 go_upto_region 1 with (fail)
 generalize w1.alloc (.cells #[.int .i64 0, .int .u32 0, .int .u16 0] 51) = w2 at *
 generalize hgx : w.heap.size = gx at *
 generalize hgy : w1.heap.size = gy at *
 have x0 := (hp_cell X1' 0).trans (show _ = some (.int .i64 i) from rfl)
 have q0 := (hp_cell X2 0).trans (show _ = some (.int .i64 0) from rfl)
 have q1 := (hp_cell X2 1).trans (show _ = some (.int .u32 0) from rfl)
 have q2 := (hp_cell X2 2).trans (show _ = some (.int .u16 0) from rfl)
 have f0 := hp_frz X2 0
 have f1 := hp_frz X2 1
 have f2 := hp_frz X2 2
 have z5 := (hp_cell H2 5).trans (show _ = some (.bool true) from rfl)
 have z6 := (hp_cell H2 6).trans (show _ = some (.int .i64 a0) from rfl)
 have hB2 := Lib.hid B2
 have hX2 := Lib.hid X2
 clear H2 X2 X1' B2
 replace hw1 := Lib.hid hw1
 replace hgx := Lib.hid hgx
 replace hgy := Lib.hid hgy
 go_upto_region 3 with (fail)
 have m0 : ∀ y : LaterS [] w2, _ := fun y => y.bw.cell x0
 have m6 : ∀ y : LaterS [] w2, _ := fun y => y.bw.cell z6
 refine wp_region_gg [] [] [] (by kernel_rfl) ?_
 refine hoist [] [] (a1 := ?_) 0 rfl (by kernel_rfl) (.inl ⟨rfl, rfl⟩) rfl rfl rfl (fun x K hK => ?_) ?_
 rotate_left
 ·go_big_quiet_op
  exact hK
 refine hoist [] [] (a1 := ?_) 1 rfl (by kernel_rfl) (.inl ⟨rfl, rfl⟩) rfl rfl rfl (fun x K hK => ?_) ?_
 rotate_left
 ·go_big_quiet_op
  exact hK
 refine hoist [] [] (a1 := ?_) 2 rfl (by kernel_rfl) (.inl ⟨rfl, rfl⟩) rfl rfl rfl (fun x K hK => ?_) ?_
 rotate_left
 ·go_big_quiet_op
  exact hK
 refine hoist [] [] (a1 := ?_) 3 rfl (by kernel_rfl) (.inl ⟨rfl, rfl⟩) rfl rfl rfl (fun x K hK => ?_) ?_
 rotate_left
 ·go_big_quiet_op
  exact hK
 refine hoist [] [] (a1 := ?_) 4 rfl (by kernel_rfl) (.inl ⟨rfl, rfl⟩) rfl rfl rfl (fun x K hK => ?_) ?_
 rotate_left
 ·go_big_quiet_op
  exact hK
 refine hoist [] [] (a1 := ?_) 5 rfl (by kernel_rfl) (.inl ⟨rfl, rfl⟩) rfl rfl rfl (fun x K hK => ?_) ?_
 rotate_left
 ·go_big_quiet_op
  exact hK
 refine hoist [] [] (a1 := ?_) 6 rfl (by kernel_rfl) (.inl ⟨rfl, rfl⟩) rfl rfl rfl (fun x K hK => ?_) ?_
 rotate_left
 ·go_big_quiet_op
  exact hK
 refine hoist [] [] (a1 := ?_) 7 rfl (by kernel_rfl) (.inl ⟨rfl, rfl⟩) rfl rfl rfl (fun x K hK => ?_) ?_
 rotate_left
 ·go_big_quiet_op
  exact hK
 refine hoist [] [] (a1 := ?_) 8 rfl (by kernel_rfl) (.inl ⟨rfl, rfl⟩) rfl rfl rfl (fun x K hK => ?_) ?_
 rotate_left
 ·go_big_quiet_op
  exact hK
 refine done (by kernel_rfl) (fun xr => ?_)
 have hB3 := Lib.hid (hB2.out.trans xr.bw)
 have hX3 := Lib.hid (hX2.out.bw xr.bw)
 clear m0 m6 x0 z5 z6 q0 q1 q2 f0 f1 f2 hX2 hB2
 generalize xr.now = w3 at *
 have q0 := (hp_cell hX3.out 0).trans (show _ = some (.int .i64 0) from rfl)
 have q1 := (hp_cell hX3.out 1).trans (show _ = some (.int .u32 0) from rfl)
 have q2 := (hp_cell hX3.out 2).trans (show _ = some (.int .u16 0) from rfl)
 have f0 := hp_frz hX3.out 0
 have f1 := hp_frz hX3.out 1
 have f2 := hp_frz hX3.out 2
 have T9 := Lib.hid (BW.stP hB3.out (still_st3 w3 gy (.int .i64 0) (.int .u32 0) (.int .u16 0)) (fun k hk => by obtain rfl : k = gy := (by simpa using hk); have := hgy.out; have := hgx.out; have := hBs.out; omega))
 have Y9 := Lib.hid (hX3.out.st3 rfl (.int .i64 0) (.int .u32 0) (.int .u16 0))
 go_wp2_with fail
 try (generalize (((w3.setCell ⟨gy, 0, none⟩ (.int .i64 0)).setCell ⟨gy, 1, none⟩ (.int .u32 0)).setCell ⟨gy, 2, none⟩ (.int .u16 0)) = w9 at *)
 clear q0 q1 q2 f0 f1 f2
 have q0 := (hp_cell Y9.out 0).trans (show _ = some (.int .i64 0) from rfl)
 have q1 := (hp_cell Y9.out 1).trans (show _ = some (.int .u32 0) from rfl)
 have q2 := (hp_cell Y9.out 2).trans (show _ = some (.int .u16 0) from rfl)
 exact bodyPost_ret (v := .tuple #[.agg #[.int .i64 0, .int .u32 0, .int .u16 0], .int .i64 5]) (by simp [results, Try.results40, go_sem, q0, q1, q2]) rfl ⟨_, rfl, by decide, T9.out⟩
set_option maxRecDepth 100000 in
set_option maxHeartbeats 8000000 in
theorem wmap_low (g gc gr gb : Nat) (kf pf : Value) (src first : Int) (a0 a1 a2 b0 b1 b2 : Int) (l0 l1 l2 i s p y0 : Int) (hi : 0 ≤ i ∧ i ≤ 1152921504606846976) (ha : 0 ≤ a0 ∧ a0 ≤ i) (hb : 0 ≤ b0 ∧ b0 ≤ 1152921504606846976) (hy : b0 + i - a0 = y0) (hl : y0 < l0) (w : World) (h : HpB w g (.cells (egC gc kf pf src first true a0 a1 a2 b0 b1 b2 true l0 l1 l2 gr gb) 57)) :
  Calls Try.prog 40 #[.pointer (some ⟨g, 4, none⟩), .agg #[.int .i64 i, .int .u32 s, .int .u16 p]] w fun e w' => e = .returned (.tuple #[.agg #[.int .i64 y0, .int .u32 (mpS b1 s a1), .int .u16 (mpP b2 p a2)], .int .i64 0]) ∧ HpB w' g (.cells (egC gc kf pf src first true a0 a1 a2 b0 b1 b2 true l0 l1 l2 gr gb) 57) ∧ Still [g] w w' := by
 have d : decide (i < 0) = false := by simp; omega
 have d2 : decide (i < a0) = false := by simp; omega
 have d3 : decide (l0 ≤ y0) = false := by simp; omega
 have BA : BW w (w.alloc (.cells #[.int .i64 i, .int .u32 s, .int .u16 p] 51)) := (BW.refl w).alloc
 have X1 := HpB.new w (.cells #[.int .i64 i, .int .u32 s, .int .u16 p] 51)
 generalize hw1 : w.alloc (.cells #[.int .i64 i, .int .u32 s, .int .u16 p] 51) = w1 at *
 have BB : BW w1 (w1.alloc (.cells #[.int .i64 0, .int .u32 0, .int .u16 0] 51)) := (BW.refl w1).alloc
 have X2 := HpB.new w1 (.cells #[.int .i64 0, .int .u32 0, .int .u16 0] 51)
 have X1' := X1.bw BB
 have B2 := BA.trans BB
 have H2 := h.bw B2
 have hlt := h.lt
 have hz : w.heap.size ≤ w1.heap.size := BA.size
 have hx12 : w.heap.size < w1.heap.size := X1.lt
 clear h X1 BA BB
 replace hz := Lib.hid hz
 go_enter Try.func40, Try.ntmps40
 go_upto_region 1 with (fail)
 generalize w1.alloc (.cells #[.int .i64 0, .int .u32 0, .int .u16 0] 51) = w2 at *
 generalize hgx : w.heap.size = gx at *
 generalize hgy : w1.heap.size = gy at *
 have x0 := (hp_cell X1' 0).trans (show _ = some (.int .i64 i) from rfl)
 have x1 := (hp_cell X1' 1).trans (show _ = some (.int .u32 s) from rfl)
 have x2 := (hp_cell X1' 2).trans (show _ = some (.int .u16 p) from rfl)
 have z5 := (hp_cell H2 5).trans (show _ = some (.bool true) from rfl)
 have z6 := (hp_cell H2 6).trans (show _ = some (.int .i64 a0) from rfl)
 have hH2 := Lib.hid H2
 have hX2 := Lib.hid X2
 have hX1 := Lib.hid X1'
 have hB2 := Lib.hid B2
 clear H2 X2 X1' B2
 replace hw1 := Lib.hid hw1
 replace hgx := Lib.hid hgx
 replace hgy := Lib.hid hgy
 go_upto_region 3 with (fail)
 have m0 : ∀ y : LaterS [] w2, _ := fun y => y.bw.cell x0
 have m6 : ∀ y : LaterS [] w2, _ := fun y => y.bw.cell z6
 refine wp_region_gg [] [] [] (by kernel_rfl) ?_
 refine hoist [] [] (a1 := ?_) 0 rfl (by kernel_rfl) (.inl ⟨rfl, rfl⟩) rfl rfl rfl (fun x K hK => ?_) ?_
 rotate_left
 ·go_big_quiet_op
  exact hK
 refine hoist [] [] (a1 := ?_) 1 rfl (by kernel_rfl) (.inl ⟨rfl, rfl⟩) rfl rfl rfl (fun x K hK => ?_) ?_
 rotate_left
 ·go_big_quiet_op
  exact hK
 refine hoist [] [] (a1 := ?_) 2 rfl (by kernel_rfl) (.inl ⟨rfl, rfl⟩) rfl rfl rfl (fun x K hK => ?_) ?_
 rotate_left
 ·go_big_quiet_op
  exact hK
 refine hoist [] [] (a1 := ?_) 3 rfl (by kernel_rfl) (.inl ⟨rfl, rfl⟩) rfl rfl rfl (fun x K hK => ?_) ?_
 rotate_left
 ·go_big_quiet_op
  exact hK
 refine hoist [] [] (a1 := ?_) 4 rfl (by kernel_rfl) (.inl ⟨rfl, rfl⟩) rfl rfl rfl (fun x K hK => ?_) ?_
 rotate_left
 ·go_big_quiet_op
  exact hK
 refine hoist [] [] (a1 := ?_) 5 rfl (by kernel_rfl) (.inl ⟨rfl, rfl⟩) rfl rfl rfl (fun x K hK => ?_) ?_
 rotate_left
 ·go_big_quiet_op
  exact hK
 refine hoist [] [] (a1 := ?_) 6 rfl (by kernel_rfl) (.inl ⟨rfl, rfl⟩) rfl rfl rfl (fun x K hK => ?_) ?_
 rotate_left
 ·go_big_quiet_op
  exact hK
 refine hoist [] [] (a1 := ?_) 7 rfl (by kernel_rfl) (.inl ⟨rfl, rfl⟩) rfl rfl rfl (fun x K hK => ?_) ?_
 rotate_left
 ·go_big_quiet_op
  exact hK
 refine hoist [] [] (a1 := ?_) 8 rfl (by kernel_rfl) (.inl ⟨rfl, rfl⟩) rfl rfl rfl (fun x K hK => ?_) ?_
 rotate_left
 ·go_big_quiet_op
  exact hK
 refine done (by kernel_rfl) (fun xr => ?_)
 have b3 := Lib.hid xr.bw
 clear m0 m6 x0 x1 x2 z5 z6
 generalize xr.now = w3 at *
 have H3 := Lib.hid (hH2.out.bw b3.out)
 have Y3 := Lib.hid (hX2.out.bw b3.out)
 have B3 := Lib.hid (hB2.out.trans b3.out)
 have X3 := hX1.out.bw b3.out
 have x0 := (hp_cell X3 0).trans (show _ = some (.int .i64 i) from rfl)
 have x1 := (hp_cell X3 1).trans (show _ = some (.int .u32 s) from rfl)
 have x2 := (hp_cell X3 2).trans (show _ = some (.int .u16 p) from rfl)
 have z6 := (hp_cell H3.out 6).trans (show _ = some (.int .i64 a0) from rfl)
 have z7 := (hp_cell H3.out 7).trans (show _ = some (.int .u32 a1) from rfl)
 have z8 := (hp_cell H3.out 8).trans (show _ = some (.int .u16 a2) from rfl)
 have z9 := (hp_cell H3.out 9).trans (show _ = some (.int .i64 b0) from rfl)
 have z10 := (hp_cell H3.out 10).trans (show _ = some (.int .u32 b1) from rfl)
 have z11 := (hp_cell H3.out 11).trans (show _ = some (.int .u16 b2) from rfl)
 clear X3 hH2 hX2 hX1 hB2 b3
 have q1 : IntKind.i64.wrap (b0 + i) = b0 + i := IntWalk.i64_in _ (by omega)
 have q2 : IntKind.i64.wrap (b0 + i - a0) = b0 + i - a0 := IntWalk.i64_in _ (by omega)
 go_upto_region 5 with (fail)
 have m0 : ∀ y : LaterS [] w3, _ := fun y => y.bw.cell x0
 have m1 : ∀ y : LaterS [] w3, _ := fun y => y.bw.cell x1
 have m2 : ∀ y : LaterS [] w3, _ := fun y => y.bw.cell x2
 have m6 : ∀ y : LaterS [] w3, _ := fun y => y.bw.cell z6
 have m7 : ∀ y : LaterS [] w3, _ := fun y => y.bw.cell z7
 have m8 : ∀ y : LaterS [] w3, _ := fun y => y.bw.cell z8
 have m9 : ∀ y : LaterS [] w3, _ := fun y => y.bw.cell z9
 have m10 : ∀ y : LaterS [] w3, _ := fun y => y.bw.cell z10
 have m11 : ∀ y : LaterS [] w3, _ := fun y => y.bw.cell z11
 refine wp_region_gg [] [] [45] (by kernel_rfl) ?_
 refine hoist [] [] (a1 := ?_) 0 rfl (by kernel_rfl) (.inl ⟨rfl, rfl⟩) rfl rfl rfl (fun x K hK => ?_) ?_
 rotate_left
 ·go_big_quiet_op
  exact hK
 refine hoist [] [] (a1 := ?_) 1 rfl (by kernel_rfl) (.inl ⟨rfl, rfl⟩) rfl rfl rfl (fun x K hK => ?_) ?_
 rotate_left
 ·go_big_quiet_op
  exact hK
 refine hoist [] [] (a1 := ?_) 2 rfl (by kernel_rfl) (.inl ⟨rfl, rfl⟩) rfl rfl rfl (fun x K hK => ?_) ?_
 rotate_left
 ·go_big_quiet_op
  exact hK
 refine hoist [] [] (a1 := ?_) 3 rfl (by kernel_rfl) (.inl ⟨rfl, rfl⟩) rfl rfl rfl (fun x K hK => ?_) ?_
 rotate_left
 ·go_big_quiet_op
  exact hK
 refine hoist [] [] (a1 := ?_) 4 rfl (by kernel_rfl) (.inl ⟨rfl, rfl⟩) rfl rfl rfl (fun x K hK => ?_) ?_
 rotate_left
 ·go_big_quiet_op
  exact hK
 refine hoist [] [] (a1 := ?_) 5 rfl (by kernel_rfl) (.inl ⟨rfl, rfl⟩) rfl rfl rfl (fun x K hK => ?_) ?_
 rotate_left
 ·go_big_quiet_op
  exact hK
 refine hoist [] [] (a1 := ?_) 6 rfl (by kernel_rfl) (.inl ⟨rfl, rfl⟩) rfl rfl rfl (fun x K hK => ?_) ?_
 rotate_left
 ·go_big_quiet_op
  exact hK
 refine hoist [] [] (a1 := ?_) 7 rfl (by kernel_rfl) (.inl ⟨rfl, rfl⟩) rfl rfl rfl (fun x K hK => ?_) ?_
 rotate_left
 ·go_big_quiet_op
  exact hK
 refine hoist [] [] (a1 := ?_) 8 rfl (by kernel_rfl) (.inl ⟨rfl, rfl⟩) rfl rfl rfl (fun x K hK => ?_) ?_
 rotate_left
 ·go_big_quiet_op
  exact hK
 refine hoist [] [] (a1 := ?_) 9 rfl (by kernel_rfl) (.inl ⟨rfl, rfl⟩) rfl rfl rfl (fun x K hK => ?_) ?_
 rotate_left
 ·go_big_quiet_op
  exact hK
 refine hoist [] [] (a1 := ?_) 10 rfl (by kernel_rfl) (.inl ⟨rfl, rfl⟩) rfl rfl rfl (fun x K hK => ?_) ?_
 rotate_left
 ·go_big_quiet_op
  exact hK
 refine hoist [] [] (a1 := ?_) 11 rfl (by kernel_rfl) (.inl ⟨rfl, rfl⟩) rfl rfl rfl (fun x K hK => ?_) ?_
 rotate_left
 ·go_big_quiet_op
  exact hK
 refine hoist [] [] (a1 := ?_) 12 rfl (by kernel_rfl) (.inl ⟨rfl, rfl⟩) rfl rfl rfl (fun x K hK => ?_) ?_
 rotate_left
 ·go_big_quiet_op
  exact hK
 refine hoist [] [] (a1 := ?_) 13 rfl (by kernel_rfl) (.inl ⟨rfl, rfl⟩) rfl rfl rfl (fun x K hK => ?_) ?_
 rotate_left
 ·go_big_quiet_op
  exact hK
 refine hoist [] [] (a1 := ?_) 14 rfl (by kernel_rfl) (.inl ⟨rfl, rfl⟩) rfl rfl rfl (fun x K hK => ?_) ?_
 rotate_left
 ·go_big_quiet_op
  exact hK
 refine hoist [] [] (a1 := ?_) 15 rfl (by kernel_rfl) (.inl ⟨rfl, rfl⟩) rfl rfl rfl (fun x K hK => ?_) ?_
 rotate_left
 ·go_big_quiet_op
  exact hK
 refine hoist [] [] (a1 := ?_) 16 rfl (by kernel_rfl) (.inl ⟨rfl, rfl⟩) rfl rfl rfl (fun x K hK => ?_) ?_
 rotate_left
 ·go_big_quiet_op
  exact hK
 refine hoist [] [] (a1 := ?_) 17 rfl (by kernel_rfl) (.inl ⟨rfl, rfl⟩) rfl rfl rfl (fun x K hK => ?_) ?_
 rotate_left
 ·go_big_quiet_op
  exact hK
 refine hoist [] [] (a1 := ?_) 18 rfl (by kernel_rfl) (.inl ⟨rfl, rfl⟩) rfl rfl rfl (fun x K hK => ?_) ?_
 rotate_left
 ·go_big_quiet_op
  exact hK
 refine hoist [] [] (a1 := ?_) 19 rfl (by kernel_rfl) (.inl ⟨rfl, rfl⟩) rfl rfl rfl (fun x K hK => ?_) ?_
 rotate_left
 ·go_big_quiet_op
  exact hK
 refine hoist [] [] (a1 := ?_) 20 rfl (by kernel_rfl) (.inl ⟨rfl, rfl⟩) rfl rfl rfl (fun x K hK => ?_) ?_
 rotate_left
 ·go_big_quiet_op
  exact hK
 refine hoist [] [] (a1 := ?_) 21 rfl (by kernel_rfl) (.inl ⟨rfl, rfl⟩) rfl rfl rfl (fun x K hK => ?_) ?_
 rotate_left
 ·go_big_quiet_op
  exact hK
 refine hoist [] [] (a1 := ?_) 22 rfl (by kernel_rfl) (.inl ⟨rfl, rfl⟩) rfl rfl rfl (fun x K hK => ?_) ?_
 rotate_left
 ·go_big_quiet_op
  exact hK
 refine hoist [] [] (a1 := ?_) 23 rfl (by kernel_rfl) (.inl ⟨rfl, rfl⟩) rfl rfl rfl (fun x K hK => ?_) ?_
 rotate_left
 ·go_big_quiet_op
  exact hK
 refine hoist [] [] (a1 := ?_) 24 rfl (by kernel_rfl) (.inl ⟨rfl, rfl⟩) rfl rfl rfl (fun x K hK => ?_) ?_
 rotate_left
 ·go_big_quiet_op
  exact hK
 refine hoist [] [] (a1 := ?_) 25 rfl (by kernel_rfl) (.inl ⟨rfl, rfl⟩) rfl rfl rfl (fun x K hK => ?_) ?_
 rotate_left
 ·go_big_quiet_op
  exact hK
 refine hoist [] [] (a1 := ?_) 26 rfl (by kernel_rfl) (.inl ⟨rfl, rfl⟩) rfl rfl rfl (fun x K hK => ?_) ?_
 rotate_left
 ·go_big_quiet_op
  exact hK
 refine hoist [] [] (a1 := ?_) 27 rfl (by kernel_rfl) (.inl ⟨rfl, rfl⟩) rfl rfl rfl (fun x K hK => ?_) ?_
 rotate_left
 ·go_big_quiet_op
  exact hK
 refine hoist [] [] (a1 := ?_) 28 rfl (by kernel_rfl) (.inl ⟨rfl, rfl⟩) rfl rfl rfl (fun x K hK => ?_) ?_
 rotate_left
 ·go_big_quiet_op
  exact hK
 refine hoist [] [] (a1 := ?_) 29 rfl (by kernel_rfl) (.inl ⟨rfl, rfl⟩) rfl rfl rfl (fun x K hK => ?_) ?_
 rotate_left
 ·go_big_quiet_op
  exact hK
 refine hoist [] [] (a1 := ?_) 30 rfl (by kernel_rfl) (.inl ⟨rfl, rfl⟩) rfl rfl rfl (fun x K hK => ?_) ?_
 rotate_left
 ·go_big_quiet_op
  exact hK
 refine hoist [] [] (a1 := ?_) 31 rfl (by kernel_rfl) (.inl ⟨rfl, rfl⟩) rfl rfl rfl (fun x K hK => ?_) ?_
 rotate_left
 ·go_big_quiet_op
  exact hK
 refine hoist [] [] (a1 := ?_) 32 rfl (by kernel_rfl) (.inl ⟨rfl, rfl⟩) rfl rfl rfl (fun x K hK => ?_) ?_
 rotate_left
 ·go_big_quiet_op
  exact hK
 refine hoist [] [] (a1 := ?_) 33 rfl (by kernel_rfl) (.inl ⟨rfl, rfl⟩) rfl rfl rfl (fun x K hK => ?_) ?_
 rotate_left
 ·go_big_quiet_op
  exact hK
 refine hoist [] [] (a1 := ?_) 34 rfl (by kernel_rfl) (.inl ⟨rfl, rfl⟩) rfl rfl rfl (fun x K hK => ?_) ?_
 rotate_left
 ·go_big_quiet_op
  exact hK
 refine hoist [] [] (a1 := ?_) 35 rfl (by kernel_rfl) (.inl ⟨rfl, rfl⟩) rfl rfl rfl (fun x K hK => ?_) ?_
 rotate_left
 ·go_big_quiet_op
  exact hK
 refine hoist [] [] (a1 := ?_) 36 rfl (by kernel_rfl) (.inl ⟨rfl, rfl⟩) rfl rfl rfl (fun x K hK => ?_) ?_
 rotate_left
 ·go_big_quiet_op
  exact hK
 refine hoist [] [] (a1 := ?_) 37 rfl (by kernel_rfl) (.inl ⟨rfl, rfl⟩) rfl rfl rfl (fun x K hK => ?_) ?_
 rotate_left
 ·go_big_quiet_op
  exact hK
 refine hoist [] [] (a1 := ?_) 38 rfl (by kernel_rfl) (.inl ⟨rfl, rfl⟩) rfl rfl rfl (fun x K hK => ?_) ?_
 rotate_left
 ·go_big_quiet_op
  exact hK
 refine hoist [] [] (a1 := ?_) 39 rfl (by kernel_rfl) (.inl ⟨rfl, rfl⟩) rfl rfl rfl (fun x K hK => ?_) ?_
 rotate_left
 ·go_big_quiet_op
  exact hK
 refine hoist [] [] (a1 := ?_) 40 rfl (by kernel_rfl) (.inl ⟨rfl, rfl⟩) rfl rfl rfl (fun x K hK => ?_) ?_
 rotate_left
 ·go_big_quiet_op
  exact hK
 refine hoist [] [] (a1 := ?_) 41 rfl (by kernel_rfl) (.inl ⟨rfl, rfl⟩) rfl rfl rfl (fun x K hK => ?_) ?_
 rotate_left
 ·go_big_quiet_op
  exact hK
 refine hoist [] [] (a1 := ?_) 42 rfl (by kernel_rfl) (.inl ⟨rfl, rfl⟩) rfl rfl rfl (fun x K hK => ?_) ?_
 rotate_left
 ·go_big_quiet_op
  exact hK
 refine hoist [] [] (a1 := ?_) 43 rfl (by kernel_rfl) (.inl ⟨rfl, rfl⟩) rfl rfl rfl (fun x K hK => ?_) ?_
 rotate_left
 ·go_big_quiet_op
  exact hK
 refine effect 44 rfl (by kernel_rfl) (by kernel_rfl) rfl (fun x44 K hK => ?_)
 go_simp
 refine hK _ _ (Still.of_below ((Below.refl _ _).alloc (Nat.le_refl _) _)) ?_
 clear hK K
 have hb := x44.bw.trans ((BW.refl x44.now).alloc (o := .cells #[.int .i64 0, .int .u32 0, .int .u16 0] 51))
 have H4 := Lib.hid (H3.out.bw hb)
 have Y4 := Lib.hid (Y3.out.bw hb)
 have B4 := Lib.hid (B3.out.trans hb)
 have Z4 := Lib.hid (HpB.new x44.now (.cells #[.int .i64 0, .int .u32 0, .int .u16 0] 51))
 have hyz := Lib.hid (Nat.ne_of_lt (Y3.out.bw x44.bw).lt)
 have hgz := Lib.hid (Nat.ne_of_lt (H3.out.bw x44.bw).lt)
 have hwz := Lib.hid (Nat.le_trans B3.out.size x44.bw.size)
 clear hb m0 m1 m2 m6 m7 m8 m9 m10 m11 H3 Y3 B3
 generalize x44.now.alloc (.cells #[.int .i64 0, .int .u32 0, .int .u16 0] 51) = w4 at *
 generalize x44.now.heap.size = gz at *
 try simp only [Act.put, List.setIfInBounds_toArray, List.set_cons_succ, List.set_cons_zero]
 refine tail 45 rfl (by kernel_rfl) rfl (fun xr => ?_)
 simp only [List.drop_succ_cons, List.drop_zero]
 have H5 := Lib.hid (H4.out.bw xr.bw)
 have Y5 := Lib.hid (Y4.out.bw xr.bw)
 have B5 := Lib.hid (B4.out.trans xr.bw)
 have Z5 := Lib.hid (Z4.out.bw xr.bw)
 clear x0 x1 x2 z6 z7 z8 z9 z10 z11 H4 Y4 B4 Z4 q1 q2
 generalize xr.now = w5 at *
 generalize hn1 : (b1 + s - a1) % 4294967296 = n1 at *
 generalize hn2 : bits BinOp.and IntKind.u16 (IntKind.u16.wrap (IntKind.u16.wrap (b2 + p) - a2)) 32767 = n2 at *
 replace hn1 := Lib.hid hn1
 replace hn2 := Lib.hid hn2
 have q0 := (hp_cell Z5.out 0).trans (show _ = some (.int .i64 0) from rfl)
 have q1 := (hp_cell Z5.out 1).trans (show _ = some (.int .u32 0) from rfl)
 have q2 := (hp_cell Z5.out 2).trans (show _ = some (.int .u16 0) from rfl)
 have f0 := hp_frz Z5.out 0
 have f1 := hp_frz Z5.out 1
 have f2 := hp_frz Z5.out 2
 have st6 := still_st3 w5 gz (.int .i64 y0) (.int .u32 n1) (.int .u16 n2)
 have Z6 := Lib.hid (Z5.out.st3 rfl (.int .i64 y0) (.int .u32 n1) (.int .u16 n2))
 have H6 := Lib.hid (H5.out.st st6 (by simpa using hgz.out))
 have Y6 := Lib.hid (Y5.out.st st6 (by simpa using hyz.out))
 have B6 := Lib.hid (BW.stP B5.out st6 (fun k hk => by obtain rfl : k = gz := (by simpa using hk); exact hwz.out))
 clear st6 Z5 H5 Y5 B5
 go_upto_region 6 with (fail)
 generalize ((w5.setCell ⟨gz, 0, none⟩ (.int .i64 y0)).setCell ⟨gz, 1, none⟩ (.int .u32 n1)).setCell ⟨gz, 2, none⟩ (.int .u16 n2) = w6 at *
 clear q0 q1 q2 f0 f1 f2
 have z13 := (hp_cell H6.out 13).trans (show _ = some (.int .i64 l0) from rfl)
 have q0 := (hp_cell Z6.out 0).trans (show _ = some (.int .i64 y0) from rfl)
 have m0 : ∀ y : LaterS [] w6, _ := fun y => y.bw.cell q0
 have m13 : ∀ y : LaterS [] w6, _ := fun y => y.bw.cell z13
 have z12 := (hp_cell H6.out 12).trans (show _ = some (.bool true) from rfl)
 have m12 : ∀ y : LaterS [] w6, _ := fun y => y.bw.cell z12
 refine wp_region_gg [] [] [] (by kernel_rfl) ?_
 refine hoist [] [] (a1 := ?_) 0 rfl (by kernel_rfl) (.inl ⟨rfl, rfl⟩) rfl rfl rfl (fun x K hK => ?_) ?_
 rotate_left
 ·go_big_quiet_op
  exact hK
 refine hoist [] [] (a1 := ?_) 1 rfl (by kernel_rfl) (.inl ⟨rfl, rfl⟩) rfl rfl rfl (fun x K hK => ?_) ?_
 rotate_left
 ·go_big_quiet_op
  exact hK
 refine hoist [] [] (a1 := ?_) 2 rfl (by kernel_rfl) (.inl ⟨rfl, rfl⟩) rfl rfl rfl (fun x K hK => ?_) ?_
 rotate_left
 ·go_big_quiet_op
  exact hK
 refine hoist [] [] (a1 := ?_) 3 rfl (by kernel_rfl) (.inl ⟨rfl, rfl⟩) rfl rfl rfl (fun x K hK => ?_) ?_
 rotate_left
 ·go_big_quiet_op
  exact hK
 refine hoist [] [] (a1 := ?_) 4 rfl (by kernel_rfl) (.inl ⟨rfl, rfl⟩) rfl rfl rfl (fun x K hK => ?_) ?_
 rotate_left
 ·go_big_quiet_op
  exact hK
 refine hoist [] [] (a1 := ?_) 5 rfl (by kernel_rfl) (.inl ⟨rfl, rfl⟩) rfl rfl rfl (fun x K hK => ?_) ?_
 rotate_left
 ·go_big_quiet_op
  exact hK
 refine hoist [] [] (a1 := ?_) 6 rfl (by kernel_rfl) (.inl ⟨rfl, rfl⟩) rfl rfl rfl (fun x K hK => ?_) ?_
 rotate_left
 ·go_big_quiet_op
  exact hK
 refine hoist [] [] (a1 := ?_) 7 rfl (by kernel_rfl) (.inl ⟨rfl, rfl⟩) rfl rfl rfl (fun x K hK => ?_) ?_
 rotate_left
 ·go_big_quiet_op
  exact hK
 refine hoist [] [] (a1 := ?_) 8 rfl (by kernel_rfl) (.inl ⟨rfl, rfl⟩) rfl rfl rfl (fun x K hK => ?_) ?_
 rotate_left
 ·go_big_quiet_op
  exact hK
 refine hoist [] [] (a1 := ?_) 9 rfl (by kernel_rfl) (.inl ⟨rfl, rfl⟩) rfl rfl rfl (fun x K hK => ?_) ?_
 rotate_left
 ·go_big_quiet_op
  exact hK
 refine hoist [] [] (a1 := ?_) 10 rfl (by kernel_rfl) (.inl ⟨rfl, rfl⟩) rfl rfl rfl (fun x K hK => ?_) ?_
 rotate_left
 ·go_big_quiet_op
  exact hK
 refine hoist [] [] (a1 := ?_) 11 rfl (by kernel_rfl) (.inl ⟨rfl, rfl⟩) rfl rfl rfl (fun x K hK => ?_) ?_
 rotate_left
 ·go_big_quiet_op
  exact hK
 refine hoist [] [] (a1 := ?_) 12 rfl (by kernel_rfl) (.inl ⟨rfl, rfl⟩) rfl rfl rfl (fun x K hK => ?_) ?_
 rotate_left
 ·go_big_quiet_op
  exact hK
 refine hoist [] [] (a1 := ?_) 13 rfl (by kernel_rfl) (.inl ⟨rfl, rfl⟩) rfl rfl rfl (fun x K hK => ?_) ?_
 rotate_left
 ·go_big_quiet_op
  exact hK
 refine hoist [] [] (a1 := ?_) 14 rfl (by kernel_rfl) (.inl ⟨rfl, rfl⟩) rfl rfl rfl (fun x K hK => ?_) ?_
 rotate_left
 ·go_big_quiet_op
  exact hK
 refine done (by kernel_rfl) (fun xr => ?_)
 have H7 := Lib.hid (H6.out.bw xr.bw)
 have Y7 := Lib.hid (Y6.out.bw xr.bw)
 have B7 := Lib.hid (B6.out.trans xr.bw)
 have Z7 := Lib.hid (Z6.out.bw xr.bw)
 clear m0 m13 z13 q0 H6 Y6 B6 Z6 m12 z12
 generalize xr.now = w7 at *
 have q0 := (hp_cell Z7.out 0).trans (show _ = some (.int .i64 y0) from rfl)
 have q1 := (hp_cell Z7.out 1).trans (show _ = some (.int .u32 n1) from rfl)
 have q2 := (hp_cell Z7.out 2).trans (show _ = some (.int .u16 n2) from rfl)
 have r0 := (hp_cell Y7.out 0).trans (show _ = some (.int .i64 0) from rfl)
 have r1 := (hp_cell Y7.out 1).trans (show _ = some (.int .u32 0) from rfl)
 have r2 := (hp_cell Y7.out 2).trans (show _ = some (.int .u16 0) from rfl)
 have f0 := hp_frz Y7.out 0
 have f1 := hp_frz Y7.out 1
 have f2 := hp_frz Y7.out 2
 have hgy' : g ≠ gy := by have := hgy.out; have := hz.out; omega
 have st9 := still_st3 w7 gy (.int .i64 y0) (.int .u32 n1) (.int .u16 n2)
 have Y9 := Lib.hid (Y7.out.st3 rfl (.int .i64 y0) (.int .u32 n1) (.int .u16 n2))
 have H9 := Lib.hid (H7.out.st st9 (by simpa using hgy'))
 have T9 := Lib.hid (Still.stNew (B7.out.still [g]) st9 (fun k hk => by obtain rfl : k = gy := (by simpa using hk); have := hgy.out; have := hz.out; have := hgx.out; omega))
 clear st9
 replace hgy' := Lib.hid hgy'
 go_wp2_with fail
 generalize ((w7.setCell ⟨gy, 0, none⟩ (.int .i64 y0)).setCell ⟨gy, 1, none⟩ (.int .u32 n1)).setCell ⟨gy, 2, none⟩ (.int .u16 n2) = w9 at *
 clear q0 q1 q2 r0 r1 r2 f0 f1 f2
 have q0 := (hp_cell Y9.out 0).trans (show _ = some (.int .i64 y0) from rfl)
 have q1 := (hp_cell Y9.out 1).trans (show _ = some (.int .u32 n1) from rfl)
 have q2 := (hp_cell Y9.out 2).trans (show _ = some (.int .u16 n2) from rfl)
 exact bodyPost_ret (v := .tuple #[.agg #[.int .i64 y0, .int .u32 n1, .int .u16 n2], .int .i64 0]) (by simp [results, Try.results40, go_sem, q0, q1, q2]) rfl ⟨by rw [← hn1.out, ← hn2.out]; rfl, H9.out, T9.out⟩
def mapN (fol : Bool) (a0 a1 a2 b0 b1 b2 : Int) (out : Bool) (l0 l1 l2 i s p : Int) : Option (Int × Int × Int) × Bool × Int × Int × Int :=
 if fol = false ∨ i < 0 ∨ i < a0 then (none, out, l0, l1, l2) else if l0 ≤ b0 + i - a0 then (some (b0 + i - a0, mpS b1 s a1, mpP b2 p a2), true, b0 + i - a0, mpS b1 s a1, mpP b2 p a2) else (some (b0 + i - a0, mpS b1 s a1, mpP b2 p a2), out, l0, l1, l2)
def MapR (o : Option (Int × Int × Int)) (n0 n1 n2 er : Int) : Prop := (o = none ∧ (er != 0) = true) ∨ (o = some (n0, n1, n2) ∧ er = 0)
theorem wmap_any (g gc gr gb : Nat) (kf pf : Value) (src first : Int) (fol : Bool) (a0 a1 a2 b0 b1 b2 : Int) (out : Bool) (l0 l1 l2 i s p : Int) (hi : i ≤ 1152921504606846976) (ha : fol = true → 0 ≤ a0) (hb : 0 ≤ b0 ∧ b0 ≤ 1152921504606846976) (hl : out = false → l0 = 0) (w : World) (h : HpB w g (.cells (egC gc kf pf src first fol a0 a1 a2 b0 b1 b2 out l0 l1 l2 gr gb) 57)) (M : Option (Int × Int × Int) × Bool × Int × Int × Int) (hM : mapN fol a0 a1 a2 b0 b1 b2 out l0 l1 l2 i s p = M) :
  Calls Try.prog 40 #[.pointer (some ⟨g, 4, none⟩), .agg #[.int .i64 i, .int .u32 s, .int .u16 p]] w fun e w' => ∃ n0 n1 n2 er : Int, e = .returned (.tuple #[.agg #[.int .i64 n0, .int .u32 n1, .int .u16 n2], .int .i64 er]) ∧ MapR M.1 n0 n1 n2 er ∧ HpB w' g (.cells (egC gc kf pf src first fol a0 a1 a2 b0 b1 b2 M.2.1 M.2.2.1 M.2.2.2.1 M.2.2.2.2 gr gb) 57) ∧ Still [g] w w' := by
 subst hM
 unfold mapN
 cases fol with
 | false =>
  rw [if_pos (.inl rfl)]
  exact (wmap_no1 g gc gr gb kf pf src first a0 a1 a2 b0 b1 b2 out l0 l1 l2 i s p w h).mono fun _ _ ⟨er, k1, k2, k3⟩ => ⟨_, _, _, er, k1, .inl ⟨rfl, bne_iff_ne.2 k2⟩, h.bw k3, k3.still _⟩
 | true =>
  by_cases h1 : i < 0
  ·rw [if_pos (.inr (.inl h1))]
   exact (wmap_no2 g gc gr gb kf pf src first a0 a1 a2 b0 b1 b2 out l0 l1 l2 i s p h1 w h).mono fun _ _ ⟨er, k1, k2, k3⟩ => ⟨_, _, _, er, k1, .inl ⟨rfl, bne_iff_ne.2 k2⟩, h.bw k3, k3.still _⟩
  by_cases h2 : i < a0
  ·rw [if_pos (.inr (.inr h2))]
   exact (wmap_no3 g gc gr gb kf pf src first a0 a1 a2 b0 b1 b2 out l0 l1 l2 i s p (by omega) h2 w h).mono fun _ _ ⟨er, k1, k2, k3⟩ => ⟨_, _, _, er, k1, .inl ⟨rfl, bne_iff_ne.2 k2⟩, h.bw k3, k3.still _⟩
  rw [if_neg (by rintro (h | h | h); cases h; exact h1 h; exact h2 h)]
  have ha' := ha rfl
  by_cases h3 : l0 ≤ b0 + i - a0
  ·rw [if_pos h3]
   exact (wmap_okx g gc gr gb kf pf src first a0 a1 a2 b0 b1 b2 out l0 l1 l2 i s p _ ⟨by omega, hi⟩ ⟨ha', by omega⟩ hb rfl h3 w h).mono fun _ _ ⟨k1, k2, k3⟩ => ⟨_, _, _, 0, k1, .inr ⟨rfl, rfl⟩, k2, k3⟩
  ·rw [if_neg h3]
   cases out with
   | false => have := hl rfl; omega
   | true =>
    exact (wmap_low g gc gr gb kf pf src first a0 a1 a2 b0 b1 b2 l0 l1 l2 i s p _ ⟨by omega, hi⟩ ⟨ha', by omega⟩ hb rfl (by omega) w h).mono fun _ _ ⟨k1, k2, k3⟩ => ⟨_, _, _, 0, k1, .inr ⟨rfl, rfl⟩, k2, k3⟩
end Go.Proofs.Ytojedpahaifjgaa
