/- The reference's writer (tenailleref22): Map, taken; printed by wip/gen/genEpF.py. No condition but the numbers' bounds. -/
import Derived.Test.YtojedpahaifjgaaGEf
import Derived.Test.YtojedpahaifjgaaEpK
namespace Go.Proofs.Ytojedpahaifjgaa
open Go.RowKit
set_option maxRecDepth 100000 in
set_option maxHeartbeats 8000000 in
theorem map22_ok (base g : Nat) (first : Int) (a b x : Mpd) (v : Value) (L : List Mpd) (hx : 0 ≤ x.1) (ha : a.1 ≤ x.1) (hx2 : 0 ≤ x.2.2 ∧ x.2.2 ≤ 65535) (ha2 : 0 ≤ a.2.2 ∧ a.2.2 ≤ 65535) (hb2 : 0 ≤ b.2.2 ∧ b.2.2 ≤ 65535) (hb : 0 ≤ b.1 ∧ b.1 ≤ 1152921504606846976) (ha1 : 0 ≤ a.1) (hx1 : x.1 ≤ 1152921504606846976) (hL : L.length ≤ 1000000) (w : World) (hbase : base ≤ w.heap.size) (h : W22 w base g first true a b v L) :
  Calls Try.prog 61 #[.pointer (some ⟨g, 0, none⟩), .agg #[.int .i64 x.1, .int .u32 x.2.1, .int .u16 x.2.2]] w fun e w' => e = .returned (.tuple #[.agg #[.int .i64 (mapM a b x).1, .int .u32 (mapM a b x).2.1, .int .u16 (mapM a b x).2.2], .int .i64 0]) ∧ ∃ v', W22 w' base g first true a b v' (L ++ [mapM a b x]) ∧ Still (g :: v.ownBlock.toList) w w' ∧ (∀ j, v'.ownBlock = some j → v.ownBlock = some j ∨ w.heap.size ≤ j) := by
 obtain ⟨i, s, p⟩ := x
 obtain ⟨a0, a1, a2⟩ := a
 obtain ⟨b0, b1, b2⟩ := b
 obtain ⟨sv, cv, rfl, hnc, hmc⟩ := h.q.len
 unfold maxLen at hmc
 have hgs : ∀ k, (Value.slice sv L.length cv).ownBlock = some k → k ≠ g := fun k hk => h.q.ne h.hp (by decide) k hk
 have hglt := h.hp.lt
 have hol : ∀ k, (Value.slice sv L.length cv).ownBlock = some k → k < w.heap.size := fun k hk => h.q.lt' k hk
 unfold mapM
 dsimp only at hx ha hx2 ha2 hb2 hb ha1 hx1 ⊢
 obtain ⟨n, hn⟩ : ∃ n, L.length = n := ⟨_, rfl⟩
 obtain ⟨y, hy⟩ : ∃ y : Int, b0 + (i - a0) = y := ⟨_, rfl⟩
 obtain ⟨y1, hy1⟩ : ∃ y1 : Int, (b1 + (s - a1)) % 4294967296 = y1 := ⟨_, rfl⟩
 obtain ⟨y2, hy2⟩ : ∃ y2 : Int, (b2 + p - a2) % 32768 = y2 := ⟨_, rfl⟩
 rw [hn] at hgs hol hnc hL ⊢
 rw [hy, hy1, hy2]
 replace hn := Lib.hid hn
 replace hy := Lib.hid hy
 replace hy1 := Lib.hid hy1
 replace hgs := Lib.hid hgs
 replace hol := Lib.hid hol
 replace hglt := Lib.hid hglt
 replace hbase := Lib.hid hbase
 have d : decide (i < 0) = false := by simp; omega
 have d2 : decide (i < a0) = false := by simp; omega
 have BA : BW w (w.alloc (.cells #[.int .i64 i, .int .u32 s, .int .u16 p] 51)) := (BW.refl w).alloc
 have X1 := HpB.new w (.cells #[.int .i64 i, .int .u32 s, .int .u16 p] 51)
 generalize hw1 : w.alloc (.cells #[.int .i64 i, .int .u32 s, .int .u16 p] 51) = w1 at *
 have BB : BW w1 (w1.alloc (.cells #[.int .i64 0, .int .u32 0, .int .u16 0] 51)) := (BW.refl w1).alloc
 have X2 := Lib.hid (HpB.new w1 (.cells #[.int .i64 0, .int .u32 0, .int .u16 0] 51))
 replace X1 := Lib.hid (X1.bw BB)
 have hz := Lib.hid BA.size
 have B2 := Lib.hid (BA.trans BB)
 have H2 := Lib.hid (h.hp.bw B2.out)
 have Q2 := Lib.hid (h.q.bw B2.out)
 clear h BA BB
 unfold w22 at H2
 dsimp only at H2
 go_enter Try.func61, Try.ntmps61
 go_upto_region 1 with (fail)
 generalize w1.alloc _ = w2 at *
 generalize hgx : w.heap.size = gx at *
 generalize hgy : w1.heap.size = gy at *
 replace hw1 := Lib.hid hw1
 replace hgx := Lib.hid hgx
 replace hgy := Lib.hid hgy
 have x0 := (hp_cell X1.out 0).trans (show _ = some (.int .i64 i) from rfl)
 have z1 := (hp_cell H2.out 1).trans (show _ = some (.bool true) from rfl)
 have z2 := (hp_cell H2.out 2).trans (show _ = some (.int .i64 a0) from rfl)
 go_upto_region 3 with (fail)
 have m0 : ∀ y : LaterS [] w2, _ := fun y => y.bw.cell x0
 have m2 : ∀ y : LaterS [] w2, _ := fun y => y.bw.cell z2
 refine wp_region_gg [] [] [] (by kernel_rfl) ?_
 refine hoist [] [] (a1 := ?_) 0 rfl (by kernel_rfl) (.inl ⟨rfl, rfl⟩) rfl rfl rfl (fun x K hK => ?_) ?_
 rotate_left
 ·go_big_quiet_op
  exact hK
 refine hoist [] [] (a1 := ?_) 1 rfl (by kernel_rfl) (.inl ⟨rfl, rfl⟩) rfl rfl rfl (fun x K hK => ?_) ?_
 rotate_left
 ·go_big_quiet_op
  exact hK
 refine hoist [] [] (a1 := ?_) 2 rfl (by kernel_rfl) (.inl ⟨rfl, rfl⟩) rfl rfl rfl (fun x K hK => ?_) ?_
 rotate_left
 ·go_big_quiet_op
  exact hK
 refine hoist [] [] (a1 := ?_) 3 rfl (by kernel_rfl) (.inl ⟨rfl, rfl⟩) rfl rfl rfl (fun x K hK => ?_) ?_
 rotate_left
 ·go_big_quiet_op
  exact hK
 refine hoist [] [] (a1 := ?_) 4 rfl (by kernel_rfl) (.inl ⟨rfl, rfl⟩) rfl rfl rfl (fun x K hK => ?_) ?_
 rotate_left
 ·go_big_quiet_op
  exact hK
 refine hoist [] [] (a1 := ?_) 5 rfl (by kernel_rfl) (.inl ⟨rfl, rfl⟩) rfl rfl rfl (fun x K hK => ?_) ?_
 rotate_left
 ·go_big_quiet_op
  exact hK
 refine hoist [] [] (a1 := ?_) 6 rfl (by kernel_rfl) (.inl ⟨rfl, rfl⟩) rfl rfl rfl (fun x K hK => ?_) ?_
 rotate_left
 ·go_big_quiet_op
  exact hK
 refine hoist [] [] (a1 := ?_) 7 rfl (by kernel_rfl) (.inl ⟨rfl, rfl⟩) rfl rfl rfl (fun x K hK => ?_) ?_
 rotate_left
 ·go_big_quiet_op
  exact hK
 refine done (by kernel_rfl) (fun xr => ?_)
 replace B2 := Lib.hid (B2.out.trans xr.bw)
 replace X2 := Lib.hid (X2.out.bw xr.bw)
 replace X1 := Lib.hid (X1.out.bw xr.bw)
 replace H2 := Lib.hid (H2.out.bw xr.bw)
 replace Q2 := Lib.hid (Q2.out.bw xr.bw)
 clear m0 m2 x0 z1 z2
 generalize xr.now = w3 at *
 clear xr
 have x2 := (hp_cell X1.out 2).trans (show _ = some (.int .u16 p) from rfl)
 have z4 := (hp_cell H2.out 4).trans (show _ = some (.int .u16 a2) from rfl)
 have z7 := (hp_cell H2.out 7).trans (show _ = some (.int .u16 b2) from rfl)
 have ep : wrap64 p = p := IntWalk.wrap64_in _ (by omega)
 have ea : wrap64 a2 = a2 := IntWalk.wrap64_in _ (by omega)
 have eb : wrap64 b2 = b2 := IntWalk.wrap64_in _ (by omega)
 go_upto_region 5 with (fail)
 have m2 : ∀ y : LaterS [] w3, _ := fun y => y.bw.cell x2
 have m4 : ∀ y : LaterS [] w3, _ := fun y => y.bw.cell z4
 have m7 : ∀ y : LaterS [] w3, _ := fun y => y.bw.cell z7
 clear x2 z4 z7
 try simp only [Act.put, List.setIfInBounds_toArray, List.set_cons_succ, List.set_cons_zero]
 refine wp_region_gg [] [] [] (by kernel_rfl) ?_
 refine hoist [] [] (a1 := ?_) 0 rfl (by kernel_rfl) (.inl ⟨rfl, rfl⟩) rfl rfl rfl (fun x K hK => ?_) ?_
 rotate_left
 ·go_big_quiet_op
  exact hK
 refine hoist [] [] (a1 := ?_) 1 rfl (by kernel_rfl) (.inl ⟨rfl, rfl⟩) rfl rfl rfl (fun x K hK => ?_) ?_
 rotate_left
 ·go_big_quiet_op
  exact hK
 refine hoist [] [] (a1 := ?_) 2 rfl (by kernel_rfl) (.inl ⟨rfl, rfl⟩) rfl rfl rfl (fun x K hK => ?_) ?_
 rotate_left
 ·go_big_quiet_op
  exact hK
 refine hoist [] [] (a1 := ?_) 3 rfl (by kernel_rfl) (.inl ⟨rfl, rfl⟩) rfl rfl rfl (fun x K hK => ?_) ?_
 rotate_left
 ·go_big_quiet_op
  exact hK
 refine hoist [] [] (a1 := ?_) 4 rfl (by kernel_rfl) (.inl ⟨rfl, rfl⟩) rfl rfl rfl (fun x K hK => ?_) ?_
 rotate_left
 ·go_big_quiet_op
  exact hK
 refine hoist [] [] (a1 := ?_) 5 rfl (by kernel_rfl) (.inl ⟨rfl, rfl⟩) rfl rfl rfl (fun x K hK => ?_) ?_
 rotate_left
 ·go_big_quiet_op
  exact hK
 refine hoist [] [] (a1 := ?_) 6 rfl (by kernel_rfl) (.inl ⟨rfl, rfl⟩) rfl rfl rfl (fun x K hK => ?_) ?_
 rotate_left
 ·go_big_quiet_op
  exact hK
 refine hoist [] [] (a1 := ?_) 7 rfl (by kernel_rfl) (.inl ⟨rfl, rfl⟩) rfl rfl rfl (fun x K hK => ?_) ?_
 rotate_left
 ·go_big_quiet_op
  exact hK
 refine hoist [] [] (a1 := ?_) 8 rfl (by kernel_rfl) (.inl ⟨rfl, rfl⟩) rfl rfl rfl (fun x K hK => ?_) ?_
 rotate_left
 ·go_big_quiet_op
  exact hK
 refine hoist [] [] (a1 := ?_) 9 rfl (by kernel_rfl) (.inl ⟨rfl, rfl⟩) rfl rfl rfl (fun x K hK => ?_) ?_
 rotate_left
 ·go_big_quiet_op
  exact hK
 refine hoist [] [] (a1 := ?_) 10 rfl (by kernel_rfl) (.inl ⟨rfl, rfl⟩) rfl rfl rfl (fun x K hK => ?_) ?_
 rotate_left
 ·go_big_quiet_op
  exact hK
 refine hoist [] [] (a1 := ?_) 11 rfl (by kernel_rfl) (.inl ⟨rfl, rfl⟩) rfl rfl rfl (fun x K hK => ?_) ?_
 rotate_left
 ·go_big_quiet_op
  exact hK
 refine hoist [] [] (a1 := ?_) 12 rfl (by kernel_rfl) (.inl ⟨rfl, rfl⟩) rfl rfl rfl (fun x K hK => ?_) ?_
 rotate_left
 ·go_big_quiet_op
  exact hK
 refine hoist [] [] (a1 := ?_) 13 rfl (by kernel_rfl) (.inl ⟨rfl, rfl⟩) rfl rfl rfl (fun x K hK => ?_) ?_
 rotate_left
 ·go_big_quiet_op
  exact hK
 refine hoist [] [] (a1 := ?_) 14 rfl (by kernel_rfl) (.inl ⟨rfl, rfl⟩) rfl rfl rfl (fun x K hK => ?_) ?_
 rotate_left
 ·go_big_quiet_op
  exact hK
 refine hoist [] [] (a1 := ?_) 15 rfl (by kernel_rfl) (.inl ⟨rfl, rfl⟩) rfl rfl rfl (fun x K hK => ?_) ?_
 rotate_left
 ·go_big_quiet_op
  exact hK
 refine hoist [] [] (a1 := ?_) 16 rfl (by kernel_rfl) (.inl ⟨rfl, rfl⟩) rfl rfl rfl (fun x K hK => ?_) ?_
 rotate_left
 ·go_big_quiet_op
  exact hK
 refine hoist [] [] (a1 := ?_) 17 rfl (by kernel_rfl) (.inl ⟨rfl, rfl⟩) rfl rfl rfl (fun x K hK => ?_) ?_
 rotate_left
 ·go_big_quiet_op
  exact hK
 refine hoist [] [] (a1 := ?_) 18 rfl (by kernel_rfl) (.inl ⟨rfl, rfl⟩) rfl rfl rfl (fun x K hK => ?_) ?_
 rotate_left
 ·go_big_quiet_op
  exact hK
 refine done (by kernel_rfl) (fun xr => ?_)
 replace B2 := Lib.hid (B2.out.trans xr.bw)
 replace X2 := Lib.hid (X2.out.bw xr.bw)
 replace X1 := Lib.hid (X1.out.bw xr.bw)
 replace H2 := Lib.hid (H2.out.bw xr.bw)
 replace Q2 := Lib.hid (Q2.out.bw xr.bw)
 clear m2 m4 m7 ep ea eb
 generalize xr.now = w4 at *
 clear xr
 have hmod : ∃ pq : Int, 0 ≤ pq ∧ pq ≤ 32767 ∧ pq = (b2 + p - a2) % 32768 ∧ pq = (if (b2 + p - a2).tmod 32768 < 0 then (b2 + p - a2).tmod 32768 + 32768 else (b2 + p - a2).tmod 32768) ∧ -32768 < (b2 + p - a2).tmod 32768 ∧ (b2 + p - a2).tmod 32768 < 32768 := by
  refine ⟨(b2 + p - a2) % 32768, by omega, by omega, rfl, ?_, ?_, ?_⟩
  ·rw [Int.tmod_eq_emod]
   split <;> split <;> simp_all <;> omega
  ·rw [Int.tmod_eq_emod]; split <;> simp <;> omega
  ·rw [Int.tmod_eq_emod]; split <;> simp <;> omega
 obtain ⟨pq, hq0, hq1, hq2, hq3, hq4, hq5⟩ := hmod
 obtain rfl : y2 = pq := by rw [hq2]; exact hy2.symm
 clear hq2 hy2
 generalize (b2 + p - a2).tmod 32768 = pp at *
 generalize b2 + p - a2 = xx at *
 have x0 := (hp_cell X1.out 0).trans (show _ = some (.int .i64 i) from rfl)
 have x1 := (hp_cell X1.out 1).trans (show _ = some (.int .u32 s) from rfl)
 have z2 := (hp_cell H2.out 2).trans (show _ = some (.int .i64 a0) from rfl)
 have z3 := (hp_cell H2.out 3).trans (show _ = some (.int .u32 a1) from rfl)
 have z5 := (hp_cell H2.out 5).trans (show _ = some (.int .i64 b0) from rfl)
 have z6 := (hp_cell H2.out 6).trans (show _ = some (.int .u32 b1) from rfl)
 have hway : pp < 0 ∨ ¬ pp < 0 := by omega
 rcases hway with hp | hp
 ·have d3 : decide (pp < 0) = true := decide_eq_true hp
  rw [if_pos hp] at hq3
  go_upto_region 8 with (fail)
  rw [← hq3]
  clear hq3 d3
  have e1 : IntKind.i64.wrap (i - a0) = i - a0 := IntWalk.i64_in _ (by omega)
  have e2 : IntKind.i64.wrap (b0 + (i - a0)) = y := (IntWalk.i64_in _ (by omega)).trans hy.out
  have e4 : (b1 + (s - a1)) % 4294967296 = y1 := hy1.out
  have e3 : IntKind.u16.wrap y2 = y2 := IntWalk.u16_in _ (by omega)
  have m0 : ∀ y : LaterS [] w4, _ := fun y => y.bw.cell x0
  have m1 : ∀ y : LaterS [] w4, _ := fun y => y.bw.cell x1
  have m2 : ∀ y : LaterS [] w4, _ := fun y => y.bw.cell z2
  have m3 : ∀ y : LaterS [] w4, _ := fun y => y.bw.cell z3
  have m5 : ∀ y : LaterS [] w4, _ := fun y => y.bw.cell z5
  have m6 : ∀ y : LaterS [] w4, _ := fun y => y.bw.cell z6
  clear x0 x1 z2 z3 z5 z6
  try simp only [Act.put, List.setIfInBounds_toArray, List.set_cons_succ, List.set_cons_zero]
  refine wp_region_gg [] [] [32] (by kernel_rfl) ?_
  refine hoist [] [] (a1 := ?_) 0 rfl (by kernel_rfl) (.inl ⟨rfl, rfl⟩) rfl rfl rfl (fun x K hK => ?_) ?_
  rotate_left
  ·go_big_quiet_op
   exact hK
  refine hoist [] [] (a1 := ?_) 1 rfl (by kernel_rfl) (.inl ⟨rfl, rfl⟩) rfl rfl rfl (fun x K hK => ?_) ?_
  rotate_left
  ·go_big_quiet_op
   exact hK
  refine hoist [] [] (a1 := ?_) 2 rfl (by kernel_rfl) (.inl ⟨rfl, rfl⟩) rfl rfl rfl (fun x K hK => ?_) ?_
  rotate_left
  ·go_big_quiet_op
   exact hK
  refine hoist [] [] (a1 := ?_) 3 rfl (by kernel_rfl) (.inl ⟨rfl, rfl⟩) rfl rfl rfl (fun x K hK => ?_) ?_
  rotate_left
  ·go_big_quiet_op
   exact hK
  refine hoist [] [] (a1 := ?_) 4 rfl (by kernel_rfl) (.inl ⟨rfl, rfl⟩) rfl rfl rfl (fun x K hK => ?_) ?_
  rotate_left
  ·go_big_quiet_op
   exact hK
  refine hoist [] [] (a1 := ?_) 5 rfl (by kernel_rfl) (.inl ⟨rfl, rfl⟩) rfl rfl rfl (fun x K hK => ?_) ?_
  rotate_left
  ·go_big_quiet_op
   exact hK
  refine hoist [] [] (a1 := ?_) 6 rfl (by kernel_rfl) (.inl ⟨rfl, rfl⟩) rfl rfl rfl (fun x K hK => ?_) ?_
  rotate_left
  ·go_big_quiet_op
   exact hK
  refine hoist [] [] (a1 := ?_) 7 rfl (by kernel_rfl) (.inl ⟨rfl, rfl⟩) rfl rfl rfl (fun x K hK => ?_) ?_
  rotate_left
  ·go_big_quiet_op
   exact hK
  refine hoist [] [] (a1 := ?_) 8 rfl (by kernel_rfl) (.inl ⟨rfl, rfl⟩) rfl rfl rfl (fun x K hK => ?_) ?_
  rotate_left
  ·go_big_quiet_op
   exact hK
  refine hoist [] [] (a1 := ?_) 9 rfl (by kernel_rfl) (.inl ⟨rfl, rfl⟩) rfl rfl rfl (fun x K hK => ?_) ?_
  rotate_left
  ·go_big_quiet_op
   exact hK
  refine hoist [] [] (a1 := ?_) 10 rfl (by kernel_rfl) (.inl ⟨rfl, rfl⟩) rfl rfl rfl (fun x K hK => ?_) ?_
  rotate_left
  ·go_big_quiet_op
   exact hK
  refine hoist [] [] (a1 := ?_) 11 rfl (by kernel_rfl) (.inl ⟨rfl, rfl⟩) rfl rfl rfl (fun x K hK => ?_) ?_
  rotate_left
  ·go_big_quiet_op
   exact hK
  refine hoist [] [] (a1 := ?_) 12 rfl (by kernel_rfl) (.inl ⟨rfl, rfl⟩) rfl rfl rfl (fun x K hK => ?_) ?_
  rotate_left
  ·go_big_quiet_op
   exact hK
  refine hoist [] [] (a1 := ?_) 13 rfl (by kernel_rfl) (.inl ⟨rfl, rfl⟩) rfl rfl rfl (fun x K hK => ?_) ?_
  rotate_left
  ·go_big_quiet_op
   exact hK
  refine hoist [] [] (a1 := ?_) 14 rfl (by kernel_rfl) (.inl ⟨rfl, rfl⟩) rfl rfl rfl (fun x K hK => ?_) ?_
  rotate_left
  ·go_big_quiet_op
   exact hK
  refine hoist [] [] (a1 := ?_) 15 rfl (by kernel_rfl) (.inl ⟨rfl, rfl⟩) rfl rfl rfl (fun x K hK => ?_) ?_
  rotate_left
  ·go_big_quiet_op
   exact hK
  refine hoist [] [] (a1 := ?_) 16 rfl (by kernel_rfl) (.inl ⟨rfl, rfl⟩) rfl rfl rfl (fun x K hK => ?_) ?_
  rotate_left
  ·go_big_quiet_op
   exact hK
  refine hoist [] [] (a1 := ?_) 17 rfl (by kernel_rfl) (.inl ⟨rfl, rfl⟩) rfl rfl rfl (fun x K hK => ?_) ?_
  rotate_left
  ·go_big_quiet_op
   exact hK
  refine hoist [] [] (a1 := ?_) 18 rfl (by kernel_rfl) (.inl ⟨rfl, rfl⟩) rfl rfl rfl (fun x K hK => ?_) ?_
  rotate_left
  ·go_big_quiet_op
   exact hK
  refine hoist [] [] (a1 := ?_) 19 rfl (by kernel_rfl) (.inl ⟨rfl, rfl⟩) rfl rfl rfl (fun x K hK => ?_) ?_
  rotate_left
  ·go_big_quiet_op
   exact hK
  refine hoist [] [] (a1 := ?_) 20 rfl (by kernel_rfl) (.inl ⟨rfl, rfl⟩) rfl rfl rfl (fun x K hK => ?_) ?_
  rotate_left
  ·go_big_quiet_op
   exact hK
  refine hoist [] [] (a1 := ?_) 21 rfl (by kernel_rfl) (.inl ⟨rfl, rfl⟩) rfl rfl rfl (fun x K hK => ?_) ?_
  rotate_left
  ·go_big_quiet_op
   exact hK
  refine hoist [] [] (a1 := ?_) 22 rfl (by kernel_rfl) (.inl ⟨rfl, rfl⟩) rfl rfl rfl (fun x K hK => ?_) ?_
  rotate_left
  ·go_big_quiet_op
   exact hK
  refine hoist [] [] (a1 := ?_) 23 rfl (by kernel_rfl) (.inl ⟨rfl, rfl⟩) rfl rfl rfl (fun x K hK => ?_) ?_
  rotate_left
  ·go_big_quiet_op
   exact hK
  refine hoist [] [] (a1 := ?_) 24 rfl (by kernel_rfl) (.inl ⟨rfl, rfl⟩) rfl rfl rfl (fun x K hK => ?_) ?_
  rotate_left
  ·go_big_quiet_op
   exact hK
  refine hoist [] [] (a1 := ?_) 25 rfl (by kernel_rfl) (.inl ⟨rfl, rfl⟩) rfl rfl rfl (fun x K hK => ?_) ?_
  rotate_left
  ·go_big_quiet_op
   exact hK
  refine hoist [] [] (a1 := ?_) 26 rfl (by kernel_rfl) (.inl ⟨rfl, rfl⟩) rfl rfl rfl (fun x K hK => ?_) ?_
  rotate_left
  ·go_big_quiet_op
   exact hK
  refine hoist [] [] (a1 := ?_) 27 rfl (by kernel_rfl) (.inl ⟨rfl, rfl⟩) rfl rfl rfl (fun x K hK => ?_) ?_
  rotate_left
  ·go_big_quiet_op
   exact hK
  refine hoist [] [] (a1 := ?_) 28 rfl (by kernel_rfl) (.inl ⟨rfl, rfl⟩) rfl rfl rfl (fun x K hK => ?_) ?_
  rotate_left
  ·go_big_quiet_op
   exact hK
  refine hoist [] [] (a1 := ?_) 29 rfl (by kernel_rfl) (.inl ⟨rfl, rfl⟩) rfl rfl rfl (fun x K hK => ?_) ?_
  rotate_left
  ·go_big_quiet_op
   exact hK
  refine hoist [] [] (a1 := ?_) 30 rfl (by kernel_rfl) (.inl ⟨rfl, rfl⟩) rfl rfl rfl (fun x K hK => ?_) ?_
  rotate_left
  ·go_big_quiet_op
   exact hK
  refine effect 31 rfl (by kernel_rfl) (by kernel_rfl) rfl (fun x31 K hK => ?_)
  go_simp
  refine hK _ _ (Still.of_below ((Below.refl _ _).alloc (Nat.le_refl _) _)) ?_
  clear hK K
  have hyz := Lib.hid (Nat.ne_of_lt (X2.out.bw x31.bw).lt)
  have hgz := Lib.hid (Nat.ne_of_lt (H2.out.bw x31.bw).lt)
  have hwz := Lib.hid (Nat.le_trans B2.out.size x31.bw.size)
  have hb := x31.bw.trans ((BW.refl x31.now).alloc (o := .cells #[.int .i64 0, .int .u32 0, .int .u16 0] 51))
  replace X2 := Lib.hid (X2.out.bw hb)
  replace H2 := Lib.hid (H2.out.bw hb)
  replace Q2 := Lib.hid (Q2.out.bw hb)
  replace B2 := Lib.hid (B2.out.trans hb)
  have Z4 := Lib.hid (HpB.new x31.now (.cells #[.int .i64 0, .int .u32 0, .int .u16 0] 51))
  clear hb m0 m1 m2 m3 m5 m6 X1
  generalize x31.now.alloc (.cells #[.int .i64 0, .int .u32 0, .int .u16 0] 51) = w5 at *
  generalize x31.now.heap.size = gz at *
  try simp only [Act.put, List.setIfInBounds_toArray, List.set_cons_succ, List.set_cons_zero]
  refine tail 32 rfl (by kernel_rfl) rfl (fun xr => ?_)
  simp only [List.drop_succ_cons, List.drop_zero]
  replace X2 := Lib.hid (X2.out.bw xr.bw)
  replace H2 := Lib.hid (H2.out.bw xr.bw)
  replace Q2 := Lib.hid (Q2.out.bw xr.bw)
  replace B2 := Lib.hid (B2.out.trans xr.bw)
  replace Z4 := Lib.hid (Z4.out.bw xr.bw)
  clear e1 e2 e3 e4
  generalize xr.now = w6 at *
  clear xr
  have st6 := still_rowS w6 gz #[.int .i64 y, .int .u32 y1, .int .u16 y2]
  have Z6 := Lib.hid (Z4.out.rowS #[.int .i64 y, .int .u32 y1, .int .u16 y2])
  replace X2 := Lib.hid (X2.out.st st6 (by simpa using hyz.out))
  replace H2 := Lib.hid (H2.out.st st6 (by simpa using hgz.out))
  replace Q2 := Lib.hid (Q2.out.still st6 (fun _ _ => trivial) (fun k hk hm => by
   obtain rfl : k = gz := by simpa using hm
   rw [hn.out] at hk
   have := hol.out _ hk
   have := hwz.out
   have := hgx.out
   omega))
  replace B2 := Lib.hid (BW.stP B2.out st6 (fun k hk => by obtain rfl : k = gz := (by simpa using hk); exact hwz.out))
  clear st6
  go_upto_region 9 with (refine swSt swMp rfl rfl rfl rfl Z4.out rfl rfl (by kernel_rfl) ?_)
  clear Z4
  generalize w6.setRow _ _ = w7 at *
  rw [hn.out] at H2
  have z8 := (hp_cell H2.out 8).trans (show _ = some (.slice sv n cv) from rfl)
  have m8 : ∀ y : LaterS [] w7, _ := fun y => y.bw.cell z8
  clear z8
  try simp only [Act.put, List.setIfInBounds_toArray, List.set_cons_succ, List.set_cons_zero]
  refine wp_region_gg ((Value.slice sv n cv).ownBlock.toList) [7] [8] (by kernel_rfl) ?_
  refine hoist ((Value.slice sv n cv).ownBlock.toList) [] (a1 := ?_) 0 rfl (by kernel_rfl) (.inr rfl) rfl rfl rfl (fun x K hK => ?_) ?_
  rotate_left
  ·go_big_quiet_op
   exact hK
  refine hoist [] [7] (a1 := ?_) 1 rfl (by kernel_rfl) (.inl ⟨rfl, rfl⟩) rfl rfl rfl (fun x K hK => ?_) ?_
  rotate_left
  ·go_big_quiet_op
   exact hK
  refine hoist [] [7] (a1 := ?_) 2 rfl (by kernel_rfl) (.inl ⟨rfl, rfl⟩) rfl rfl rfl (fun x K hK => ?_) ?_
  rotate_left
  ·go_big_quiet_op
   exact hK
  refine hoist [] [7] (a1 := ?_) 3 rfl (by kernel_rfl) (.inl ⟨rfl, rfl⟩) rfl rfl rfl (fun x K hK => ?_) ?_
  rotate_left
  ·go_big_quiet_op
   exact hK
  refine hoist [] [7] (a1 := ?_) 4 rfl (by kernel_rfl) (.inl ⟨rfl, rfl⟩) rfl rfl rfl (fun x K hK => ?_) ?_
  rotate_left
  ·go_big_quiet_op
   exact hK
  refine hoist [] [7] (a1 := ?_) 5 rfl (by kernel_rfl) (.inl ⟨rfl, rfl⟩) rfl rfl rfl (fun x K hK => ?_) ?_
  rotate_left
  ·refine swQl swMp (l := [.int .i64 y, .int .u32 y1, .int .u16 y2]) rfl (by rfl) rfl (fun w' hw => by subst hw; exact (Z6.out.bw x.bw).range 0 _ rfl) (by simp only [Act.put, List.setIfInBounds_toArray, List.set_cons_succ, List.set_cons_zero]; rfl) ?_
   exact hK
  refine effect 6 rfl (by kernel_rfl) (by kernel_rfl) rfl (fun x6 K hK => ?_)
  go_simp
  refine hK _ _ (Still.of_below ((Below.refl _ _).alloc (Nat.le_refl _) _)) ?_
  clear hK K m8
  have B6 := Lib.hid (x6.bw.alloc (o := .cells #[.int .i64 y, .int .u32 y1, .int .u16 y2] 51))
  have L6 := Lib.hid (Sls.new1 (E := EMp) x6.now 51 (mpV (y, y1, y2)) rfl)
  have L6 : Hid (Sls (x6.now.alloc (.cells #[.int .i64 y, .int .u32 y1, .int .u16 y2] 51)) EMp.size (.slice (some ⟨x6.now.heap.size, 0, none⟩) 1 1) 1 (mpV (y, y1, y2))) := L6
  generalize x6.now.alloc (.cells #[.int .i64 y, .int .u32 y1, .int .u16 y2] 51) = w8 at *
  generalize x6.now.heap.size = gq at *
  try simp only [Act.put, List.setIfInBounds_toArray, List.set_cons_succ, List.set_cons_zero]
  refine effect 7 rfl (by kernel_rfl) (by kernel_rfl) rfl (fun x7 K hK => ?_)
  have B7 := Lib.hid (B2.out.trans (B6.out.trans x7.bw))
  have H7 := H2.out.bw (B6.out.trans x7.bw)
  have X7 := X2.out.bw (B6.out.trans x7.bw)
  have Z7 := Z6.out.bw (B6.out.trans x7.bw)
  have Q7 := Q2.out.bw (B6.out.trans x7.bw)
  rw [hn.out] at Q7
  refine wp_apEQ slMp _ _ rfl base (.slice sv n cv) n L rfl Q7 _ rfl 1 [(y, y1, y2)] (mpV (y, y1, y2)) (L6.out.bw x7.bw) (EL.single rfl) rfl (by omega) (by have := B7.out.size; have := hbase.out; have := hgx.out; omega) (fun _ _ => trivial) ?_
  intro s4 c4 w9 hc4 hm4 Q4 T4 B4 G4
  refine hK _ _ T4 ?_
  clear hK K Q7
  have H4 := Lib.hid (H7.st T4 (fun hm => by
   rw [Option.mem_toList] at hm
   exact hgs.out _ hm rfl))
  have X4 := Lib.hid (X7.st T4 (fun hm => by
   rw [Option.mem_toList] at hm
   have := hol.out _ hm
   have := hgy.out
   have := hgx.out
   have := hz.out
   omega))
  have Z8 := Lib.hid (Z7.st T4 (fun hm => by
   rw [Option.mem_toList] at hm
   have := hol.out _ hm
   have := hwz.out
   have := hgx.out
   omega))
  have N4 := Lib.hid (fun j hj => show j ≠ gy by
   rcases G4 j hj with h' | h'
   ·have := hol.out _ h'
    have := hgy.out
    have := hgx.out
    have := hz.out
    omega
   ·have := X7.lt
    omega)
  replace T4 := Lib.hid ((B7.out.still (g :: (Value.slice sv n cv).ownBlock.toList)).trans (T4.weaken (fun k hk => List.mem_cons_of_mem _ hk)))
  replace Q4 := Lib.hid Q4
  replace G4 := Lib.hid (fun j hj => (G4 j hj).imp_right (Nat.le_trans B7.out.size))
  clear B4 B7 B6 L6 H7 X7 Z7 H2 X2 Z6 Q2 B2
  try simp only [Act.put, List.setIfInBounds_toArray, List.set_cons_succ, List.set_cons_zero]
  refine tail 8 rfl (by kernel_rfl) rfl (fun xr => ?_)
  simp only [List.drop_succ_cons, List.drop_zero]
  have H5 := Lib.hid (H4.out.bw xr.bw)
  have X5 := Lib.hid (X4.out.bw xr.bw)
  have Z9 := Lib.hid (Z8.out.bw xr.bw)
  have Q5 := Lib.hid (Q4.out.bw xr.bw)
  have T5 := Lib.hid (T4.out.trans (xr.bw.still (g :: (Value.slice sv n cv).ownBlock.toList)))
  clear H4 X4 Z8 Q4 T4
  generalize xr.now = wa at *
  clear xr
  have z8 := (hp_cell H5.out 8).trans (show _ = some (.slice sv n cv) from rfl)
  have y8 := hp_frz H5.out 8
  have hst := still_sc wa g 8 (.slice s4 (n + 1) c4)
  have H6 : Hid (HpB (wa.setCell ⟨g, 8, none⟩ (.slice s4 (n + 1) c4)) g (.cells (w22 first true (a0, a1, a2) (b0, b1, b2) (.slice s4 (n + 1) c4)) 129)) := Lib.hid (hp_set H5.out 8 (.slice s4 (n + 1) c4))
  have Q6 := Lib.hid (Q5.out.still hst (fun _ _ => trivial) (fun k hk hm => by
   obtain rfl : k = g := by simpa using hm
   exact Q5.out.ne H5.out (by decide) _ hk rfl))
  have X6 := Lib.hid (X5.out.st hst (by
   have := hglt.out
   have := hgy.out
   have := hgx.out
   have := hz.out
   simp only [List.mem_singleton]
   omega))
  have Z9 := Lib.hid (Z9.out.st hst (by simpa using fun e => hgz.out e.symm))
  have T6 := Lib.hid (T5.out.trans (hst.weaken (fun k hk => by
   obtain rfl : k = g := by simpa using hk
   exact List.mem_cons_self)))
  clear hst
  go_upto_region 10 with (fail)
  clear y8 z8 H5 Q5 X5 T5
  generalize wa.setCell _ _ = wb at *
  have Xc := Lib.hid (X6.out.rowS #[.int .i64 y, .int .u32 y1, .int .u16 y2])
  have st9 := still_rowS wb gy #[.int .i64 y, .int .u32 y1, .int .u16 y2]
  have Hc := Lib.hid (H6.out.st st9 (by
   have := hglt.out
   have := hgy.out
   have := hgx.out
   have := hz.out
   simp only [List.mem_singleton]
   omega))
  have Qc := Lib.hid (Q6.out.still st9 (fun _ _ => trivial) (fun k hk hm => by
   obtain rfl : k = gy := by simpa using hm
   exact N4.out _ hk rfl))
  have Tc := Lib.hid (Still.stNew T6.out st9 (fun k hk => by
   obtain rfl : k = gy := by simpa using hk
   have := hgy.out
   have := hgx.out
   have := hz.out
   omega))
  clear st9
  go_wp2_with (first | (refine swLdC swMp rfl rfl rfl (Z9.out.range 0 (#[.int .i64 y, .int .u32 y1, .int .u16 y2] : Array Value).toList rfl) rfl ?_) | (refine swSt swMp rfl rfl rfl rfl X6.out rfl rfl (by kernel_rfl) ?_))
  generalize wb.setRow _ _ = wd at *
  have q0 := (hp_cell Xc.out 0).trans (show _ = some (.int .i64 y) from rfl)
  have q1 := (hp_cell Xc.out 1).trans (show _ = some (.int .u32 y1) from rfl)
  have q2 := (hp_cell Xc.out 2).trans (show _ = some (.int .u16 y2) from rfl)
  refine bodyPost_ret (v := .tuple #[.agg #[.int .i64 y, .int .u32 y1, .int .u16 y2], .int .i64 0]) ?_ rfl ⟨rfl, _, ⟨Hc.out, by rw [List.length_append, hn.out]; exact Qc.out⟩, Tc.out, fun j hj => (G4.out j hj)⟩
  simp [results, Try.results61, go_sem, q0, q1, q2]
 ·have d3 : decide (pp < 0) = false := decide_eq_false hp
  rw [if_neg hp] at hq3
  subst hq3
  go_upto_region 8 with (fail)
  clear d3
  have e1 : IntKind.i64.wrap (i - a0) = i - a0 := IntWalk.i64_in _ (by omega)
  have e2 : IntKind.i64.wrap (b0 + (i - a0)) = y := (IntWalk.i64_in _ (by omega)).trans hy.out
  have e4 : (b1 + (s - a1)) % 4294967296 = y1 := hy1.out
  have e3 : IntKind.u16.wrap y2 = y2 := IntWalk.u16_in _ (by omega)
  have m0 : ∀ y : LaterS [] w4, _ := fun y => y.bw.cell x0
  have m1 : ∀ y : LaterS [] w4, _ := fun y => y.bw.cell x1
  have m2 : ∀ y : LaterS [] w4, _ := fun y => y.bw.cell z2
  have m3 : ∀ y : LaterS [] w4, _ := fun y => y.bw.cell z3
  have m5 : ∀ y : LaterS [] w4, _ := fun y => y.bw.cell z5
  have m6 : ∀ y : LaterS [] w4, _ := fun y => y.bw.cell z6
  clear x0 x1 z2 z3 z5 z6
  try simp only [Act.put, List.setIfInBounds_toArray, List.set_cons_succ, List.set_cons_zero]
  refine wp_region_gg [] [] [32] (by kernel_rfl) ?_
  refine hoist [] [] (a1 := ?_) 0 rfl (by kernel_rfl) (.inl ⟨rfl, rfl⟩) rfl rfl rfl (fun x K hK => ?_) ?_
  rotate_left
  ·go_big_quiet_op
   exact hK
  refine hoist [] [] (a1 := ?_) 1 rfl (by kernel_rfl) (.inl ⟨rfl, rfl⟩) rfl rfl rfl (fun x K hK => ?_) ?_
  rotate_left
  ·go_big_quiet_op
   exact hK
  refine hoist [] [] (a1 := ?_) 2 rfl (by kernel_rfl) (.inl ⟨rfl, rfl⟩) rfl rfl rfl (fun x K hK => ?_) ?_
  rotate_left
  ·go_big_quiet_op
   exact hK
  refine hoist [] [] (a1 := ?_) 3 rfl (by kernel_rfl) (.inl ⟨rfl, rfl⟩) rfl rfl rfl (fun x K hK => ?_) ?_
  rotate_left
  ·go_big_quiet_op
   exact hK
  refine hoist [] [] (a1 := ?_) 4 rfl (by kernel_rfl) (.inl ⟨rfl, rfl⟩) rfl rfl rfl (fun x K hK => ?_) ?_
  rotate_left
  ·go_big_quiet_op
   exact hK
  refine hoist [] [] (a1 := ?_) 5 rfl (by kernel_rfl) (.inl ⟨rfl, rfl⟩) rfl rfl rfl (fun x K hK => ?_) ?_
  rotate_left
  ·go_big_quiet_op
   exact hK
  refine hoist [] [] (a1 := ?_) 6 rfl (by kernel_rfl) (.inl ⟨rfl, rfl⟩) rfl rfl rfl (fun x K hK => ?_) ?_
  rotate_left
  ·go_big_quiet_op
   exact hK
  refine hoist [] [] (a1 := ?_) 7 rfl (by kernel_rfl) (.inl ⟨rfl, rfl⟩) rfl rfl rfl (fun x K hK => ?_) ?_
  rotate_left
  ·go_big_quiet_op
   exact hK
  refine hoist [] [] (a1 := ?_) 8 rfl (by kernel_rfl) (.inl ⟨rfl, rfl⟩) rfl rfl rfl (fun x K hK => ?_) ?_
  rotate_left
  ·go_big_quiet_op
   exact hK
  refine hoist [] [] (a1 := ?_) 9 rfl (by kernel_rfl) (.inl ⟨rfl, rfl⟩) rfl rfl rfl (fun x K hK => ?_) ?_
  rotate_left
  ·go_big_quiet_op
   exact hK
  refine hoist [] [] (a1 := ?_) 10 rfl (by kernel_rfl) (.inl ⟨rfl, rfl⟩) rfl rfl rfl (fun x K hK => ?_) ?_
  rotate_left
  ·go_big_quiet_op
   exact hK
  refine hoist [] [] (a1 := ?_) 11 rfl (by kernel_rfl) (.inl ⟨rfl, rfl⟩) rfl rfl rfl (fun x K hK => ?_) ?_
  rotate_left
  ·go_big_quiet_op
   exact hK
  refine hoist [] [] (a1 := ?_) 12 rfl (by kernel_rfl) (.inl ⟨rfl, rfl⟩) rfl rfl rfl (fun x K hK => ?_) ?_
  rotate_left
  ·go_big_quiet_op
   exact hK
  refine hoist [] [] (a1 := ?_) 13 rfl (by kernel_rfl) (.inl ⟨rfl, rfl⟩) rfl rfl rfl (fun x K hK => ?_) ?_
  rotate_left
  ·go_big_quiet_op
   exact hK
  refine hoist [] [] (a1 := ?_) 14 rfl (by kernel_rfl) (.inl ⟨rfl, rfl⟩) rfl rfl rfl (fun x K hK => ?_) ?_
  rotate_left
  ·go_big_quiet_op
   exact hK
  refine hoist [] [] (a1 := ?_) 15 rfl (by kernel_rfl) (.inl ⟨rfl, rfl⟩) rfl rfl rfl (fun x K hK => ?_) ?_
  rotate_left
  ·go_big_quiet_op
   exact hK
  refine hoist [] [] (a1 := ?_) 16 rfl (by kernel_rfl) (.inl ⟨rfl, rfl⟩) rfl rfl rfl (fun x K hK => ?_) ?_
  rotate_left
  ·go_big_quiet_op
   exact hK
  refine hoist [] [] (a1 := ?_) 17 rfl (by kernel_rfl) (.inl ⟨rfl, rfl⟩) rfl rfl rfl (fun x K hK => ?_) ?_
  rotate_left
  ·go_big_quiet_op
   exact hK
  refine hoist [] [] (a1 := ?_) 18 rfl (by kernel_rfl) (.inl ⟨rfl, rfl⟩) rfl rfl rfl (fun x K hK => ?_) ?_
  rotate_left
  ·go_big_quiet_op
   exact hK
  refine hoist [] [] (a1 := ?_) 19 rfl (by kernel_rfl) (.inl ⟨rfl, rfl⟩) rfl rfl rfl (fun x K hK => ?_) ?_
  rotate_left
  ·go_big_quiet_op
   exact hK
  refine hoist [] [] (a1 := ?_) 20 rfl (by kernel_rfl) (.inl ⟨rfl, rfl⟩) rfl rfl rfl (fun x K hK => ?_) ?_
  rotate_left
  ·go_big_quiet_op
   exact hK
  refine hoist [] [] (a1 := ?_) 21 rfl (by kernel_rfl) (.inl ⟨rfl, rfl⟩) rfl rfl rfl (fun x K hK => ?_) ?_
  rotate_left
  ·go_big_quiet_op
   exact hK
  refine hoist [] [] (a1 := ?_) 22 rfl (by kernel_rfl) (.inl ⟨rfl, rfl⟩) rfl rfl rfl (fun x K hK => ?_) ?_
  rotate_left
  ·go_big_quiet_op
   exact hK
  refine hoist [] [] (a1 := ?_) 23 rfl (by kernel_rfl) (.inl ⟨rfl, rfl⟩) rfl rfl rfl (fun x K hK => ?_) ?_
  rotate_left
  ·go_big_quiet_op
   exact hK
  refine hoist [] [] (a1 := ?_) 24 rfl (by kernel_rfl) (.inl ⟨rfl, rfl⟩) rfl rfl rfl (fun x K hK => ?_) ?_
  rotate_left
  ·go_big_quiet_op
   exact hK
  refine hoist [] [] (a1 := ?_) 25 rfl (by kernel_rfl) (.inl ⟨rfl, rfl⟩) rfl rfl rfl (fun x K hK => ?_) ?_
  rotate_left
  ·go_big_quiet_op
   exact hK
  refine hoist [] [] (a1 := ?_) 26 rfl (by kernel_rfl) (.inl ⟨rfl, rfl⟩) rfl rfl rfl (fun x K hK => ?_) ?_
  rotate_left
  ·go_big_quiet_op
   exact hK
  refine hoist [] [] (a1 := ?_) 27 rfl (by kernel_rfl) (.inl ⟨rfl, rfl⟩) rfl rfl rfl (fun x K hK => ?_) ?_
  rotate_left
  ·go_big_quiet_op
   exact hK
  refine hoist [] [] (a1 := ?_) 28 rfl (by kernel_rfl) (.inl ⟨rfl, rfl⟩) rfl rfl rfl (fun x K hK => ?_) ?_
  rotate_left
  ·go_big_quiet_op
   exact hK
  refine hoist [] [] (a1 := ?_) 29 rfl (by kernel_rfl) (.inl ⟨rfl, rfl⟩) rfl rfl rfl (fun x K hK => ?_) ?_
  rotate_left
  ·go_big_quiet_op
   exact hK
  refine hoist [] [] (a1 := ?_) 30 rfl (by kernel_rfl) (.inl ⟨rfl, rfl⟩) rfl rfl rfl (fun x K hK => ?_) ?_
  rotate_left
  ·go_big_quiet_op
   exact hK
  refine effect 31 rfl (by kernel_rfl) (by kernel_rfl) rfl (fun x31 K hK => ?_)
  go_simp
  refine hK _ _ (Still.of_below ((Below.refl _ _).alloc (Nat.le_refl _) _)) ?_
  clear hK K
  have hyz := Lib.hid (Nat.ne_of_lt (X2.out.bw x31.bw).lt)
  have hgz := Lib.hid (Nat.ne_of_lt (H2.out.bw x31.bw).lt)
  have hwz := Lib.hid (Nat.le_trans B2.out.size x31.bw.size)
  have hb := x31.bw.trans ((BW.refl x31.now).alloc (o := .cells #[.int .i64 0, .int .u32 0, .int .u16 0] 51))
  replace X2 := Lib.hid (X2.out.bw hb)
  replace H2 := Lib.hid (H2.out.bw hb)
  replace Q2 := Lib.hid (Q2.out.bw hb)
  replace B2 := Lib.hid (B2.out.trans hb)
  have Z4 := Lib.hid (HpB.new x31.now (.cells #[.int .i64 0, .int .u32 0, .int .u16 0] 51))
  clear hb m0 m1 m2 m3 m5 m6 X1
  generalize x31.now.alloc (.cells #[.int .i64 0, .int .u32 0, .int .u16 0] 51) = w5 at *
  generalize x31.now.heap.size = gz at *
  try simp only [Act.put, List.setIfInBounds_toArray, List.set_cons_succ, List.set_cons_zero]
  refine tail 32 rfl (by kernel_rfl) rfl (fun xr => ?_)
  simp only [List.drop_succ_cons, List.drop_zero]
  replace X2 := Lib.hid (X2.out.bw xr.bw)
  replace H2 := Lib.hid (H2.out.bw xr.bw)
  replace Q2 := Lib.hid (Q2.out.bw xr.bw)
  replace B2 := Lib.hid (B2.out.trans xr.bw)
  replace Z4 := Lib.hid (Z4.out.bw xr.bw)
  clear e1 e2 e3 e4
  generalize xr.now = w6 at *
  clear xr
  have st6 := still_rowS w6 gz #[.int .i64 y, .int .u32 y1, .int .u16 y2]
  have Z6 := Lib.hid (Z4.out.rowS #[.int .i64 y, .int .u32 y1, .int .u16 y2])
  replace X2 := Lib.hid (X2.out.st st6 (by simpa using hyz.out))
  replace H2 := Lib.hid (H2.out.st st6 (by simpa using hgz.out))
  replace Q2 := Lib.hid (Q2.out.still st6 (fun _ _ => trivial) (fun k hk hm => by
   obtain rfl : k = gz := by simpa using hm
   rw [hn.out] at hk
   have := hol.out _ hk
   have := hwz.out
   have := hgx.out
   omega))
  replace B2 := Lib.hid (BW.stP B2.out st6 (fun k hk => by obtain rfl : k = gz := (by simpa using hk); exact hwz.out))
  clear st6
  go_upto_region 9 with (refine swSt swMp rfl rfl rfl rfl Z4.out rfl rfl (by kernel_rfl) ?_)
  clear Z4
  generalize w6.setRow _ _ = w7 at *
  rw [hn.out] at H2
  have z8 := (hp_cell H2.out 8).trans (show _ = some (.slice sv n cv) from rfl)
  have m8 : ∀ y : LaterS [] w7, _ := fun y => y.bw.cell z8
  clear z8
  try simp only [Act.put, List.setIfInBounds_toArray, List.set_cons_succ, List.set_cons_zero]
  refine wp_region_gg ((Value.slice sv n cv).ownBlock.toList) [7] [8] (by kernel_rfl) ?_
  refine hoist ((Value.slice sv n cv).ownBlock.toList) [] (a1 := ?_) 0 rfl (by kernel_rfl) (.inr rfl) rfl rfl rfl (fun x K hK => ?_) ?_
  rotate_left
  ·go_big_quiet_op
   exact hK
  refine hoist [] [7] (a1 := ?_) 1 rfl (by kernel_rfl) (.inl ⟨rfl, rfl⟩) rfl rfl rfl (fun x K hK => ?_) ?_
  rotate_left
  ·go_big_quiet_op
   exact hK
  refine hoist [] [7] (a1 := ?_) 2 rfl (by kernel_rfl) (.inl ⟨rfl, rfl⟩) rfl rfl rfl (fun x K hK => ?_) ?_
  rotate_left
  ·go_big_quiet_op
   exact hK
  refine hoist [] [7] (a1 := ?_) 3 rfl (by kernel_rfl) (.inl ⟨rfl, rfl⟩) rfl rfl rfl (fun x K hK => ?_) ?_
  rotate_left
  ·go_big_quiet_op
   exact hK
  refine hoist [] [7] (a1 := ?_) 4 rfl (by kernel_rfl) (.inl ⟨rfl, rfl⟩) rfl rfl rfl (fun x K hK => ?_) ?_
  rotate_left
  ·go_big_quiet_op
   exact hK
  refine hoist [] [7] (a1 := ?_) 5 rfl (by kernel_rfl) (.inl ⟨rfl, rfl⟩) rfl rfl rfl (fun x K hK => ?_) ?_
  rotate_left
  ·refine swQl swMp (l := [.int .i64 y, .int .u32 y1, .int .u16 y2]) rfl (by rfl) rfl (fun w' hw => by subst hw; exact (Z6.out.bw x.bw).range 0 _ rfl) (by simp only [Act.put, List.setIfInBounds_toArray, List.set_cons_succ, List.set_cons_zero]; rfl) ?_
   exact hK
  refine effect 6 rfl (by kernel_rfl) (by kernel_rfl) rfl (fun x6 K hK => ?_)
  go_simp
  refine hK _ _ (Still.of_below ((Below.refl _ _).alloc (Nat.le_refl _) _)) ?_
  clear hK K m8
  have B6 := Lib.hid (x6.bw.alloc (o := .cells #[.int .i64 y, .int .u32 y1, .int .u16 y2] 51))
  have L6 := Lib.hid (Sls.new1 (E := EMp) x6.now 51 (mpV (y, y1, y2)) rfl)
  have L6 : Hid (Sls (x6.now.alloc (.cells #[.int .i64 y, .int .u32 y1, .int .u16 y2] 51)) EMp.size (.slice (some ⟨x6.now.heap.size, 0, none⟩) 1 1) 1 (mpV (y, y1, y2))) := L6
  generalize x6.now.alloc (.cells #[.int .i64 y, .int .u32 y1, .int .u16 y2] 51) = w8 at *
  generalize x6.now.heap.size = gq at *
  try simp only [Act.put, List.setIfInBounds_toArray, List.set_cons_succ, List.set_cons_zero]
  refine effect 7 rfl (by kernel_rfl) (by kernel_rfl) rfl (fun x7 K hK => ?_)
  have B7 := Lib.hid (B2.out.trans (B6.out.trans x7.bw))
  have H7 := H2.out.bw (B6.out.trans x7.bw)
  have X7 := X2.out.bw (B6.out.trans x7.bw)
  have Z7 := Z6.out.bw (B6.out.trans x7.bw)
  have Q7 := Q2.out.bw (B6.out.trans x7.bw)
  rw [hn.out] at Q7
  refine wp_apEQ slMp _ _ rfl base (.slice sv n cv) n L rfl Q7 _ rfl 1 [(y, y1, y2)] (mpV (y, y1, y2)) (L6.out.bw x7.bw) (EL.single rfl) rfl (by omega) (by have := B7.out.size; have := hbase.out; have := hgx.out; omega) (fun _ _ => trivial) ?_
  intro s4 c4 w9 hc4 hm4 Q4 T4 B4 G4
  refine hK _ _ T4 ?_
  clear hK K Q7
  have H4 := Lib.hid (H7.st T4 (fun hm => by
   rw [Option.mem_toList] at hm
   exact hgs.out _ hm rfl))
  have X4 := Lib.hid (X7.st T4 (fun hm => by
   rw [Option.mem_toList] at hm
   have := hol.out _ hm
   have := hgy.out
   have := hgx.out
   have := hz.out
   omega))
  have Z8 := Lib.hid (Z7.st T4 (fun hm => by
   rw [Option.mem_toList] at hm
   have := hol.out _ hm
   have := hwz.out
   have := hgx.out
   omega))
  have N4 := Lib.hid (fun j hj => show j ≠ gy by
   rcases G4 j hj with h' | h'
   ·have := hol.out _ h'
    have := hgy.out
    have := hgx.out
    have := hz.out
    omega
   ·have := X7.lt
    omega)
  replace T4 := Lib.hid ((B7.out.still (g :: (Value.slice sv n cv).ownBlock.toList)).trans (T4.weaken (fun k hk => List.mem_cons_of_mem _ hk)))
  replace Q4 := Lib.hid Q4
  replace G4 := Lib.hid (fun j hj => (G4 j hj).imp_right (Nat.le_trans B7.out.size))
  clear B4 B7 B6 L6 H7 X7 Z7 H2 X2 Z6 Q2 B2
  try simp only [Act.put, List.setIfInBounds_toArray, List.set_cons_succ, List.set_cons_zero]
  refine tail 8 rfl (by kernel_rfl) rfl (fun xr => ?_)
  simp only [List.drop_succ_cons, List.drop_zero]
  have H5 := Lib.hid (H4.out.bw xr.bw)
  have X5 := Lib.hid (X4.out.bw xr.bw)
  have Z9 := Lib.hid (Z8.out.bw xr.bw)
  have Q5 := Lib.hid (Q4.out.bw xr.bw)
  have T5 := Lib.hid (T4.out.trans (xr.bw.still (g :: (Value.slice sv n cv).ownBlock.toList)))
  clear H4 X4 Z8 Q4 T4
  generalize xr.now = wa at *
  clear xr
  have z8 := (hp_cell H5.out 8).trans (show _ = some (.slice sv n cv) from rfl)
  have y8 := hp_frz H5.out 8
  have hst := still_sc wa g 8 (.slice s4 (n + 1) c4)
  have H6 : Hid (HpB (wa.setCell ⟨g, 8, none⟩ (.slice s4 (n + 1) c4)) g (.cells (w22 first true (a0, a1, a2) (b0, b1, b2) (.slice s4 (n + 1) c4)) 129)) := Lib.hid (hp_set H5.out 8 (.slice s4 (n + 1) c4))
  have Q6 := Lib.hid (Q5.out.still hst (fun _ _ => trivial) (fun k hk hm => by
   obtain rfl : k = g := by simpa using hm
   exact Q5.out.ne H5.out (by decide) _ hk rfl))
  have X6 := Lib.hid (X5.out.st hst (by
   have := hglt.out
   have := hgy.out
   have := hgx.out
   have := hz.out
   simp only [List.mem_singleton]
   omega))
  have Z9 := Lib.hid (Z9.out.st hst (by simpa using fun e => hgz.out e.symm))
  have T6 := Lib.hid (T5.out.trans (hst.weaken (fun k hk => by
   obtain rfl : k = g := by simpa using hk
   exact List.mem_cons_self)))
  clear hst
  go_upto_region 10 with (fail)
  clear y8 z8 H5 Q5 X5 T5
  generalize wa.setCell _ _ = wb at *
  have Xc := Lib.hid (X6.out.rowS #[.int .i64 y, .int .u32 y1, .int .u16 y2])
  have st9 := still_rowS wb gy #[.int .i64 y, .int .u32 y1, .int .u16 y2]
  have Hc := Lib.hid (H6.out.st st9 (by
   have := hglt.out
   have := hgy.out
   have := hgx.out
   have := hz.out
   simp only [List.mem_singleton]
   omega))
  have Qc := Lib.hid (Q6.out.still st9 (fun _ _ => trivial) (fun k hk hm => by
   obtain rfl : k = gy := by simpa using hm
   exact N4.out _ hk rfl))
  have Tc := Lib.hid (Still.stNew T6.out st9 (fun k hk => by
   obtain rfl : k = gy := by simpa using hk
   have := hgy.out
   have := hgx.out
   have := hz.out
   omega))
  clear st9
  go_wp2_with (first | (refine swLdC swMp rfl rfl rfl (Z9.out.range 0 (#[.int .i64 y, .int .u32 y1, .int .u16 y2] : Array Value).toList rfl) rfl ?_) | (refine swSt swMp rfl rfl rfl rfl X6.out rfl rfl (by kernel_rfl) ?_))
  generalize wb.setRow _ _ = wd at *
  have q0 := (hp_cell Xc.out 0).trans (show _ = some (.int .i64 y) from rfl)
  have q1 := (hp_cell Xc.out 1).trans (show _ = some (.int .u32 y1) from rfl)
  have q2 := (hp_cell Xc.out 2).trans (show _ = some (.int .u16 y2) from rfl)
  refine bodyPost_ret (v := .tuple #[.agg #[.int .i64 y, .int .u32 y1, .int .u16 y2], .int .i64 0]) ?_ rfl ⟨rfl, _, ⟨Hc.out, by rw [List.length_append, hn.out]; exact Qc.out⟩, Tc.out, fun j hj => (G4.out j hj)⟩
  simp [results, Try.results61, go_sem, q0, q1, q2]
end Go.Proofs.Ytojedpahaifjgaa
