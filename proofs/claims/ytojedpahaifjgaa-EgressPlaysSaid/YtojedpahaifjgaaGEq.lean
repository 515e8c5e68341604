/- An egress of any codec, any limits: New, and New refused (printed by wip/gen/genEpX.py). No condition but the numbers' bounds. An egress: New refused (printed by wip/gen/genEpX.py). No condition. -/
import Derived.Test.YtojedpahaifjgaaGEp
import Derived.Deep.CutBlock
namespace Go.Proofs.Ytojedpahaifjgaa
open Go.RowKit
set_option maxRecDepth 100000 in
set_option maxHeartbeats 8000000 in
theorem wstart_neg (g gc gr gb : Nat) (kf pf : Value) (src first : Int) (hf : first < 0) (w : World) (h : HpB w g (.cells (egC gc kf pf src 0 false 0 0 0 0 0 0 false 0 0 0 gr gb) 57)) :
  Calls Try.prog 36 #[.pointer (some ⟨g, 4, none⟩), .int .i64 first] w fun e w' => e = .returned (.tuple #[]) ∧ HpB w' g (.cells (egC gc kf pf src 0 false 0 0 0 0 0 0 false 0 0 0 gr gb) 57) ∧ Still [g] w w' := by
 have z0 := (hp_cell h 4).trans (show _ = some (.int .i64 0) from rfl)
 have z1 := (hp_cell h 5).trans (show _ = some (.bool false) from rfl)
 have z2 := (hp_cell h 6).trans (show _ = some (.int .i64 0) from rfl)
 have z3 := (hp_cell h 7).trans (show _ = some (.int .u32 0) from rfl)
 have z4 := (hp_cell h 8).trans (show _ = some (.int .u16 0) from rfl)
 have z5 := (hp_cell h 9).trans (show _ = some (.int .i64 0) from rfl)
 have z6 := (hp_cell h 10).trans (show _ = some (.int .u32 0) from rfl)
 have z7 := (hp_cell h 11).trans (show _ = some (.int .u16 0) from rfl)
 have z8 := (hp_cell h 12).trans (show _ = some (.bool false) from rfl)
 have z9 := (hp_cell h 13).trans (show _ = some (.int .i64 0) from rfl)
 have z10 := (hp_cell h 14).trans (show _ = some (.int .u32 0) from rfl)
 have z11 := (hp_cell h 15).trans (show _ = some (.int .u16 0) from rfl)
 have d : decide (0 ≤ first) = false := by simp; omega
 have m0 : ∀ y : LaterS [] w, _ := fun y => y.bw.cell z0
 have m1 : ∀ y : LaterS [] w, _ := fun y => y.bw.cell z1
 have m2 : ∀ y : LaterS [] w, _ := fun y => y.bw.cell z2
 have m3 : ∀ y : LaterS [] w, _ := fun y => y.bw.cell z3
 have m4 : ∀ y : LaterS [] w, _ := fun y => y.bw.cell z4
 have m5 : ∀ y : LaterS [] w, _ := fun y => y.bw.cell z5
 have m6 : ∀ y : LaterS [] w, _ := fun y => y.bw.cell z6
 have m7 : ∀ y : LaterS [] w, _ := fun y => y.bw.cell z7
 have m8 : ∀ y : LaterS [] w, _ := fun y => y.bw.cell z8
 have m9 : ∀ y : LaterS [] w, _ := fun y => y.bw.cell z9
 have m10 : ∀ y : LaterS [] w, _ := fun y => y.bw.cell z10
 have m11 : ∀ y : LaterS [] w, _ := fun y => y.bw.cell z11
 have hH := Lib.hid h
 clear h
 go_enter Try.func36, Try.ntmps36
 go_upto_region 0 with (fail)
 refine wp_region_gg [] [] [] (by kernel_rfl) ?_
 refine hoist [] [] (a1 := ?_) 0 rfl (by kernel_rfl) (.inl ⟨rfl, rfl⟩) rfl rfl rfl (fun x K hK => ?_) ?_
 rotate_left
 ·go_big_quiet_op
  exact hK
 refine hoist [] [] (a1 := ?_) 1 rfl (by kernel_rfl) (.inl ⟨rfl, rfl⟩) rfl rfl rfl (fun x K hK => ?_) ?_
 rotate_left
 ·go_big_quiet_op
  exact hK
 refine hoist [] [] (a1 := ?_) 2 rfl (by kernel_rfl) (.inl ⟨rfl, rfl⟩) rfl rfl rfl (fun x K hK => ?_) ?_
 rotate_left
 ·go_big_quiet_op
  exact hK
 refine hoist [] [] (a1 := ?_) 3 rfl (by kernel_rfl) (.inl ⟨rfl, rfl⟩) rfl rfl rfl (fun x K hK => ?_) ?_
 rotate_left
 ·go_big_quiet_op
  exact hK
 refine hoist [] [] (a1 := ?_) 4 rfl (by kernel_rfl) (.inl ⟨rfl, rfl⟩) rfl rfl rfl (fun x K hK => ?_) ?_
 rotate_left
 ·go_big_quiet_op
  exact hK
 refine hoist [] [] (a1 := ?_) 5 rfl (by kernel_rfl) (.inl ⟨rfl, rfl⟩) rfl rfl rfl (fun x K hK => ?_) ?_
 rotate_left
 ·go_big_quiet_op
  exact hK
 refine hoist [] [] (a1 := ?_) 6 rfl (by kernel_rfl) (.inl ⟨rfl, rfl⟩) rfl rfl rfl (fun x K hK => ?_) ?_
 rotate_left
 ·go_big_quiet_op
  exact hK
 refine hoist_skip [] [] 7 rfl (by kernel_rfl) (.inl ⟨rfl, rfl⟩) rfl (a1 := ?_) ?_ ?_
 rotate_left
 ·simp only [Act.put, List.setIfInBounds_toArray, List.set_cons_succ, List.set_cons_zero]; rfl
 refine hoist_skip [] [] 8 rfl (by kernel_rfl) (.inl ⟨rfl, rfl⟩) rfl (a1 := ?_) ?_ ?_
 rotate_left
 ·simp only [Act.put, List.setIfInBounds_toArray, List.set_cons_succ, List.set_cons_zero]; rfl
 refine hoist_skip [] [] 9 rfl (by kernel_rfl) (.inl ⟨rfl, rfl⟩) rfl (a1 := ?_) ?_ ?_
 rotate_left
 ·simp only [Act.put, List.setIfInBounds_toArray, List.set_cons_succ, List.set_cons_zero]; rfl
 refine hoist_skip [] [] 10 rfl (by kernel_rfl) (.inl ⟨rfl, rfl⟩) rfl (a1 := ?_) ?_ ?_
 rotate_left
 ·simp only [Act.put, List.setIfInBounds_toArray, List.set_cons_succ, List.set_cons_zero]; rfl
 refine hoist_skip [] [] 11 rfl (by kernel_rfl) (.inl ⟨rfl, rfl⟩) rfl (a1 := ?_) ?_ ?_
 rotate_left
 ·simp only [Act.put, List.setIfInBounds_toArray, List.set_cons_succ, List.set_cons_zero]; rfl
 refine hoist_skip [] [] 12 rfl (by kernel_rfl) (.inl ⟨rfl, rfl⟩) rfl (a1 := ?_) ?_ ?_
 rotate_left
 ·simp only [Act.put, List.setIfInBounds_toArray, List.set_cons_succ, List.set_cons_zero]; rfl
 refine hoist_skip [] [] 13 rfl (by kernel_rfl) (.inl ⟨rfl, rfl⟩) rfl (a1 := ?_) ?_ ?_
 rotate_left
 ·simp only [Act.put, List.setIfInBounds_toArray, List.set_cons_succ, List.set_cons_zero]; rfl
 refine hoist_skip [] [] 14 rfl (by kernel_rfl) (.inl ⟨rfl, rfl⟩) rfl (a1 := ?_) ?_ ?_
 rotate_left
 ·simp only [Act.put, List.setIfInBounds_toArray, List.set_cons_succ, List.set_cons_zero]; rfl
 refine hoist_skip [] [] 15 rfl (by kernel_rfl) (.inl ⟨rfl, rfl⟩) rfl (a1 := ?_) ?_ ?_
 rotate_left
 ·simp only [Act.put, List.setIfInBounds_toArray, List.set_cons_succ, List.set_cons_zero]; rfl
 refine hoist [] [] (a1 := ?_) 16 rfl (by kernel_rfl) (.inl ⟨rfl, rfl⟩) rfl rfl rfl (fun x K hK => ?_) ?_
 rotate_left
 ·go_big_quiet_op
  exact hK
 refine done (by kernel_rfl) (fun xr => ?_)
 have B1 := Lib.hid xr.bw
 clear m0 m1 m2 m3 m4 m5 m6 m7 m8 m9 m10 m11 z0 z1 z2 z3 z4 z5 z6 z7 z8 z9 z10 z11
 generalize xr.now = w1 at *
 go_wp2_with fail
 go_end0
 exact ⟨rfl, hH.out.bw B1.out, B1.out.still [g]⟩
theorem wstart_x (g gc gr gb : Nat) (kf pf : Value) (src first : Int) (w : World) (h : HpB w g (.cells (egC gc kf pf src 0 false 0 0 0 0 0 0 false 0 0 0 gr gb) 57)) :
  Calls Try.prog 36 #[.pointer (some ⟨g, 4, none⟩), .int .i64 first] w fun e w' => e = .returned (.tuple #[]) ∧ HpB w' g (.cells (egC gc kf pf src (max first 0) false 0 0 0 0 0 0 false 0 0 0 gr gb) 57) ∧ Still [g] w w' := by
 by_cases hf : 0 ≤ first
 ·rw [show max first 0 = first by omega]
  exact wstart_any g gc gr gb kf pf src first hf w h
 ·rw [show max first 0 = 0 by omega]
  exact wstart_neg g gc gr gb kf pf src first (by omega) w h
set_option maxRecDepth 100000 in
set_option maxHeartbeats 8000000 in
theorem egnewx_0 (src many first l0 l1 l2 l3 l4 l5 pk by_ again : Int) (hm : 1 ≤ many ∧ many ≤ 4) (hpk : 1 ≤ pk) (hby : 0 ≤ by_) (ha : 0 ≤ again ∧ again ≤ 18446744073709551615) (w : World) :
  Calls Try.prog 7 #[.int .u32 src, .int .i64 0, .int .i64 many, .int .i64 first, .agg (limX l0 l1 l2 l3 l4 l5 pk by_ again)] w fun e w' => ∃ g gc gr gb, e = .returned (.pointer (some ⟨g, 0, none⟩)) ∧ (w.heap.size ≤ g ∧ w.heap.size ≤ gc ∧ w.heap.size ≤ gr ∧ w.heap.size ≤ gb) ∧ EsI w' w.heap.size g gc gr gb 69 68 src many (-1) (-1) (max first 0) Wr.zero pk by_ (.slice none 0 0) [] again (burN again) (burN again) ∧ BW w w' := by
 have B0 := Lib.hid (show BW w (w.alloc (.cells (limX l0 l1 l2 l3 l4 l5 pk by_ again) 31)) from (BW.refl w).alloc)
 have X0 := HpB.new w (.cells (limX l0 l1 l2 l3 l4 l5 pk by_ again) 31)
 obtain ⟨burst, hbu⟩ : ∃ u, burN again = u := ⟨_, rfl⟩
 rw [hbu]
 unfold burN at hbu
 replace hbu := Lib.hid hbu
 go_enter Try.func7, Try.ntmps7
 unfold limX at *
 go_upto_region 1 with (fail)
 generalize w.alloc (.cells #[.int .i64 l0, .int .i64 l1, .int .i64 l2, .int .i64 l3, .int .i64 l4, .int .i64 l5, .int .i64 pk, .int .i64 by_, .int .u64 again] 31) = w1 at *
 generalize hbe : w.heap.size = bx at *
 have z6 := (hp_cell X0 6).trans (show _ = some (.int .i64 pk) from rfl)
 have z7 := (hp_cell X0 7).trans (show _ = some (.int .i64 by_) from rfl)
 have hX := Lib.hid X0
 clear X0
 replace hbe := Lib.hid hbe
 have m6 : ∀ y : LaterS [] w1, _ := fun y => y.bw.cell z6
 have m7 : ∀ y : LaterS [] w1, _ := fun y => y.bw.cell z7
 clear z6 z7
 refine wp_region_gg [] [] [11] (by kernel_rfl) ?_
 refine float 8 (fun g => .pointer (some ⟨g, 0, none⟩)) (.cells #[.nilFunc, .nilFunc, .nilFunc, .nilFunc, .nilFunc, .nilFunc] 106) rfl (by kernel_rfl) (by first | assumption | (intro k hk; cases hk) | omega) rfl (fun x => (by go_simp)) ?_
 refine hoist [] [] (a1 := ?_) 0 rfl (by kernel_rfl) (.inl ⟨rfl, rfl⟩) rfl rfl rfl (fun x K hK => ?_) ?_
 rotate_left
 ·go_big_quiet_op
  exact hK
 refine hoist [] [] (a1 := ?_) 2 rfl (by kernel_rfl) (.inl ⟨rfl, rfl⟩) rfl rfl rfl (fun x K hK => ?_) ?_
 rotate_left
 ·go_big_quiet_op
  exact hK
 refine hoist [] [] (a1 := ?_) 3 rfl (by kernel_rfl) (.inl ⟨rfl, rfl⟩) rfl rfl rfl (fun x K hK => ?_) ?_
 rotate_left
 ·go_big_quiet_op
  exact hK
 refine hoist [] [] (a1 := ?_) 4 rfl (by kernel_rfl) (.inl ⟨rfl, rfl⟩) rfl rfl rfl (fun x K hK => ?_) ?_
 rotate_left
 ·go_big_quiet_op
  exact hK
 refine hoist [] [] (a1 := ?_) 5 rfl (by kernel_rfl) (.inl ⟨rfl, rfl⟩) rfl rfl rfl (fun x K hK => ?_) ?_
 rotate_left
 ·go_big_quiet_op
  exact hK
 refine effect 1 rfl (by kernel_rfl) (by kernel_rfl) rfl (fun x1 K hK => ?_)
 go_simp
 refine Calls.mono (lnew_any many hm x1.now) ?_
 rintro e w2 ⟨rfl, C2, hb⟩
 refine hK _ _ (hb.still []) ?_
 clear hK K
 have B2 := Lib.hid ((B0.out.trans x1.bw).trans hb)
 have X2 := Lib.hid ((hX.out.bw x1.bw).bw hb)
 have hgc := Lib.hid (Nat.le_trans B0.out.size x1.bw.size)
 generalize x1.now.heap.size = gc at *
 replace C2 := Lib.hid C2
 clear hb
 try simp only [Act.put, List.setIfInBounds_toArray, List.set_cons_succ, List.set_cons_zero]
 refine effect 6 rfl (by kernel_rfl) (by kernel_rfl) rfl (fun x6 K hK => ?_)
 go_simp
 refine Calls.mono (ring_new pk by_ x6.now hpk hby) ?_
 rintro e w3 ⟨rfl, R3, hb⟩
 refine hK _ _ (hb.still []) ?_
 clear hK K
 have hgr := Lib.hid (Nat.le_trans B2.out.size x6.bw.size)
 have B3 := Lib.hid ((B2.out.trans x6.bw).trans hb)
 have X3 := Lib.hid ((X2.out.bw x6.bw).bw hb)
 have C3 := Lib.hid ((C2.out.bw x6.bw).bw hb)
 replace R3 := Lib.hid (R3 bx)
 generalize x6.now.heap.size = gr at *
 clear hb m6 m7 B2 X2 C2
 try simp only [Act.put, List.setIfInBounds_toArray, List.set_cons_succ, List.set_cons_zero]
 refine effect 7 rfl (by kernel_rfl) (by kernel_rfl) rfl (fun x7 K hK => ?_)
 go_simp
 refine Calls.mono (codecs_any x7.now) ?_
 rintro e w4 ⟨rfl, hb⟩
 refine hK _ _ (hb.still []) ?_
 clear hK K
 have B4 := Lib.hid ((B3.out.trans x7.bw).trans hb)
 have X4 := Lib.hid ((X3.out.bw x7.bw).bw hb)
 have C4 := Lib.hid ((C3.out.bw x7.bw).bw hb)
 have R4 := Lib.hid ((R3.out.bw x7.bw).bw hb)
 clear hb B3 X3 C3 R3
 try simp only [Act.put, List.setIfInBounds_toArray, List.set_cons_succ, List.set_cons_zero]
 refine hoist [] [] (a1 := ?_) 9 rfl (by kernel_rfl) (.inl ⟨rfl, rfl⟩) rfl rfl rfl (fun x K hK => ?_) ?_
 rotate_left
 ·go_big_quiet_op
  exact hK
 refine hoist [] [] (a1 := ?_) 10 rfl (by kernel_rfl) (.inl ⟨rfl, rfl⟩) rfl rfl rfl (fun x K hK => ?_) ?_
 rotate_left
 ·go_big_quiet_op
  exact hK
 refine tailF 11 rfl (by kernel_rfl) rfl (fun xr => ?_)
 intro g8 hg8 hG8
 refine fin_nil ?_
 dsimp only at hg8 hG8
 try simp only [Act.put, List.setIfInBounds_toArray, List.set_cons_succ, List.set_cons_zero]
 simp only [List.drop_succ_cons, List.drop_zero]
 have B5 := Lib.hid (B4.out.trans xr.bw)
 have X5 := Lib.hid (X4.out.bw xr.bw)
 have C5 := Lib.hid (C4.out.bw xr.bw)
 have R5 := Lib.hid (R4.out.bw xr.bw)
 clear B4 X4 C4 R4
 have X8 : HpB xr.now g8 (.cells #[.nilFunc, .nilFunc, .nilFunc, .nilFunc, .nilFunc, .nilFunc] 106) := hG8
 clear hG8
 generalize xr.now = w5 at *
 have q0 := (hp_cell X8 0).trans (show _ = some Value.nilFunc from rfl)
 have f0 := hp_frz X8 0
 have q1 := (hp_cell X8 1).trans (show _ = some Value.nilFunc from rfl)
 have f1 := hp_frz X8 1
 have q2 := (hp_cell X8 2).trans (show _ = some Value.nilFunc from rfl)
 have f2 := hp_frz X8 2
 have q3 := (hp_cell X8 3).trans (show _ = some Value.nilFunc from rfl)
 have f3 := hp_frz X8 3
 have q4 := (hp_cell X8 4).trans (show _ = some Value.nilFunc from rfl)
 have f4 := hp_frz X8 4
 have q5 := (hp_cell X8 5).trans (show _ = some Value.nilFunc from rfl)
 have f5 := hp_frz X8 5
 have st6 := still_st6 w5 g8 (fnV 69) (fnV 68) (fnV 70) (fnV 71) (fnV 72) (fnV 68)
 have X9 := X8.st6 rfl (fnV 69) (fnV 68) (fnV 70) (fnV 71) (fnV 72) (fnV 68)
 have hcg := hp_ne C5.out X8 (by decide)
 have hrg := hp_ne R5.out.cells X8 (by decide)
 have hxg := hp_ne X5.out X8 (by decide)
 have C6 := Lib.hid (C5.out.st st6 (by simpa using hcg))
 have R6 := Lib.hid (R5.out.still st6 (fun k hk => by obtain rfl : k = g8 := (by simpa using hk); exact .inr ⟨_, _, _, X8, by decide⟩) (by simpa using hrg) (fun k hk => by cases hk))
 have X6 := Lib.hid (X5.out.st st6 (by simpa using hxg))
 have B6 := Lib.hid (BW.stP B5.out st6 (fun k hk => by obtain rfl : k = g8 := (by simpa using hk); have := B0.out.size; omega))
 obtain ⟨w6, hw6⟩ : ∃ w6, w6 = ((((((w5.setCell ⟨g8, 0, none⟩ (fnV 69)).setCell ⟨g8, 1, none⟩ (fnV 68)).setCell ⟨g8, 2, none⟩ (fnV 70)).setCell ⟨g8, 3, none⟩ (fnV 71)).setCell ⟨g8, 4, none⟩ (fnV 72)).setCell ⟨g8, 5, none⟩ (fnV 68)) := ⟨_, rfl⟩
 rw [← hw6] at C6 R6 X6 B6 X9
 unfold fnV at hw6
 unfold fnV
 have hX9 := Lib.hid X9
 replace hcg := Lib.hid hcg
 replace hrg := Lib.hid hrg
 replace hxg := Lib.hid hxg
 replace X8 := Lib.hid X8
 clear st6 C5 R5 X5 B5 X9
 go_upto_region 4 with (fail)
 rw [← hw6]
 clear q0 q1 q2 q3 q4 q5 f0 f1 f2 f3 f4 f5
 replace hw6 := Lib.hid hw6
 have z8 := (hp_cell X6.out 8).trans (show _ = some (.int .u64 again) from rfl)
 have c0 := (hp_cell hX9.out 0).trans (show _ = some (Value.func (.func 69) #[] #[]) from rfl)
 have c1 := (hp_cell hX9.out 1).trans (show _ = some (Value.func (.func 68) #[] #[]) from rfl)
 go_upto_if 43 with (fail)
 go_cut [14] (fun y wc => y = .int .u64 burst ∧ w6 = wc)
 case first =>
  have hbu := hbu.out
  by_cases h1 : 4611686018427387903 < again
  ·have d1 : decide (4611686018427387903 < again) = true := decide_eq_true h1
   rw [if_pos h1] at hbu
   go_wp2_with fail
   go_meet
   exact ⟨by rw [← hbu], rfl⟩
  ·have d1 : decide (4611686018427387903 < again) = false := decide_eq_false h1
   rw [if_neg h1] at hbu
   go_wp2_with fail
   go_meet
   exact ⟨by rw [← hbu]; congr 1; exact IntWalk.u64_in _ (by omega), rfl⟩
 obtain ⟨rfl, rfl⟩ := hcut
 clear hbu
 go_upto_region 7 with (fail)
 have m8 : ∀ y : LaterS [] w6, _ := fun y => y.bw.cell z8
 have n0 : ∀ y : LaterS [] w6, _ := fun y => y.bw.cell c0
 have n1 : ∀ y : LaterS [] w6, _ := fun y => y.bw.cell c1
 clear z8 c0 c1
 refine wp_region_gg [] [] [12] (by kernel_rfl) ?_
 refine hoist [] [] (a1 := ?_) 0 rfl (by kernel_rfl) (.inl ⟨rfl, rfl⟩) rfl rfl rfl (fun x K hK => ?_) ?_
 rotate_left
 ·go_big_quiet_op
  exact hK
 refine hoist [] [] (a1 := ?_) 1 rfl (by kernel_rfl) (.inl ⟨rfl, rfl⟩) rfl rfl rfl (fun x K hK => ?_) ?_
 rotate_left
 ·go_big_quiet_op
  exact hK
 refine hoist [] [] (a1 := ?_) 2 rfl (by kernel_rfl) (.inl ⟨rfl, rfl⟩) rfl rfl rfl (fun x K hK => ?_) ?_
 rotate_left
 ·go_big_quiet_op
  exact hK
 refine hoist [] [] (a1 := ?_) 3 rfl (by kernel_rfl) (.inl ⟨rfl, rfl⟩) rfl rfl rfl (fun x K hK => ?_) ?_
 rotate_left
 ·go_big_quiet_op
  exact hK
 refine hoist [] [] (a1 := ?_) 4 rfl (by kernel_rfl) (.inl ⟨rfl, rfl⟩) rfl rfl rfl (fun x K hK => ?_) ?_
 rotate_left
 ·go_big_quiet_op
  exact hK
 refine hoist [] [] (a1 := ?_) 5 rfl (by kernel_rfl) (.inl ⟨rfl, rfl⟩) rfl rfl rfl (fun x K hK => ?_) ?_
 rotate_left
 ·go_big_quiet_op
  exact hK
 refine hoist [] [] (a1 := ?_) 6 rfl (by kernel_rfl) (.inl ⟨rfl, rfl⟩) rfl rfl rfl (fun x K hK => ?_) ?_
 rotate_left
 ·go_big_quiet_op
  exact hK
 refine hoist [] [] (a1 := ?_) 7 rfl (by kernel_rfl) (.inl ⟨rfl, rfl⟩) rfl rfl rfl (fun x K hK => ?_) ?_
 rotate_left
 ·go_big_quiet_op
  exact hK
 refine hoist [] [] (a1 := ?_) 8 rfl (by kernel_rfl) (.inl ⟨rfl, rfl⟩) rfl rfl rfl (fun x K hK => ?_) ?_
 rotate_left
 ·go_big_quiet_op
  exact hK
 refine effect 9 rfl (by kernel_rfl) (by kernel_rfl) rfl (fun x9 K hK => ?_)
 go_simp
 refine Calls.mono (new_any again burst x9.now) ?_
 rintro e w7 ⟨rfl, rfl⟩
 refine hK _ _ (Still.of_below ((Below.refl _ _).alloc (Nat.le_refl _) _)) ?_
 clear hK K
 have hb := x9.bw.trans ((BW.refl x9.now).alloc (o := .cells #[.int .u64 again, .int .u64 burst, .int .u64 burst] 142))
 have C7 := Lib.hid (C6.out.bw hb)
 have R7 := Lib.hid (R6.out.bw hb)
 have B7 := Lib.hid (B6.out.trans hb)
 have K7 := Lib.hid (HpB.new x9.now (.cells #[.int .u64 again, .int .u64 burst, .int .u64 burst] 142))
 have hgb := Lib.hid (Nat.le_trans B6.out.size x9.bw.size)
 clear hb m8 n0 n1
 generalize x9.now.alloc (.cells #[.int .u64 again, .int .u64 burst, .int .u64 burst] 142) = w7 at *
 generalize x9.now.heap.size = gb at *
 try simp only [Act.put, List.setIfInBounds_toArray, List.set_cons_succ, List.set_cons_zero]
 refine hoist [] [] (a1 := ?_) 10 rfl (by kernel_rfl) (.inl ⟨rfl, rfl⟩) rfl rfl rfl (fun x K hK => ?_) ?_
 rotate_left
 ·go_big_quiet_op
  exact hK
 refine effect 11 rfl (by kernel_rfl) (by kernel_rfl) rfl (fun x11 K hK => ?_)
 go_simp
 refine hK _ _ (Still.of_below ((Below.refl _ _).alloc (Nat.le_refl _) _)) ?_
 clear hK K
 have hb := x11.bw.trans ((BW.refl x11.now).alloc (o := .cells (egC gc (fnV 69) (fnV 68) src 0 false 0 0 0 0 0 0 false 0 0 0 gr gb) 57))
 have C8 := Lib.hid (C7.out.bw hb)
 have R8 := Lib.hid (R7.out.bw hb)
 have B8 := Lib.hid (B7.out.trans hb)
 have K8 := Lib.hid (K7.out.bw hb)
 have H8 := Lib.hid (HpB.new x11.now (.cells (egC gc (fnV 69) (fnV 68) src 0 false 0 0 0 0 0 0 false 0 0 0 gr gb) 57))
 have hg := Lib.hid (Nat.le_trans B7.out.size x11.bw.size)
 clear hb C7 R7 B7 K7
 obtain ⟨w8, hw8⟩ : ∃ w8, w8 = x11.now.alloc (.cells (egC gc (fnV 69) (fnV 68) src 0 false 0 0 0 0 0 0 false 0 0 0 gr gb) 57) := ⟨_, rfl⟩
 rw [← hw8] at C8 R8 B8 K8 H8
 unfold egC fnV at hw8
 rw [← hw8]
 clear hw8
 generalize x11.now.heap.size = g at *
 try simp only [Act.put, List.setIfInBounds_toArray, List.set_cons_succ, List.set_cons_zero]
 refine tail 12 rfl (by kernel_rfl) rfl (fun xr => ?_)
 simp only [List.drop_succ_cons, List.drop_zero]
 have C9 := Lib.hid (C8.out.bw xr.bw)
 have R9 := Lib.hid (R8.out.bw xr.bw)
 have B9 := Lib.hid (B8.out.trans xr.bw)
 have K9 := Lib.hid (K8.out.bw xr.bw)
 have H9 := Lib.hid (H8.out.bw xr.bw)
 clear C8 R8 B8 K8 H8
 generalize xr.now = w9 at *
 have cS := Lib.hid (wstart_x g gc gr gb (fnV 69) (fnV 68) src first w9 H9.out)
 have hcg2 := hp_ne C9.out H9.out (by decide)
 have hrg2 := hp_ne R9.out.cells H9.out (by decide)
 have hkg2 := hp_ne K9.out H9.out (by decide)
 replace hcg2 := Lib.hid hcg2
 replace hrg2 := Lib.hid hrg2
 replace hkg2 := Lib.hid hkg2
 go_wp2_with fail
 refine Calls.mono cS.out ?_
 rintro e w10 ⟨rfl, H10, T10⟩
 have C10 := Lib.hid (C9.out.st T10 (by simpa using hcg2.out))
 have R10 := Lib.hid (R9.out.still T10 (fun k hk => by obtain rfl : k = g := (by simpa using hk); exact .inr ⟨_, _, _, H9.out, by decide⟩) (by simpa using hrg2.out) (fun k hk => by cases hk))
 have K10 := Lib.hid (K9.out.st T10 (by simpa using hkg2.out))
 have B10 := Lib.hid (BW.stP B9.out T10 (fun k hk => by obtain rfl : k = g := (by simpa using hk); have := hg.out; have := hbe.out; omega))
 replace H10 := Lib.hid H10
 clear T10 cS
 try dsimp only
 go_wp2_with fail
 go_ret
 have h1 := hg.out
 have h2 := hgc.out
 have h3 := hgr.out
 have h4 := hgb.out
 refine ⟨g, gc, gr, gb, rfl, ⟨by have := hbe.out; omega, by have := hbe.out; omega, by have := hbe.out; omega, by have := hbe.out; omega⟩, ⟨H10.out, C10.out, ?_, K10.out⟩, B10.out⟩
 rw [hbe.out]
 exact R10.out
set_option maxRecDepth 100000 in
set_option maxHeartbeats 8000000 in
theorem egnewx_1 (src many first l0 l1 l2 l3 l4 l5 pk by_ again : Int) (hm : 1 ≤ many ∧ many ≤ 4) (hpk : 1 ≤ pk) (hby : 0 ≤ by_) (ha : 0 ≤ again ∧ again ≤ 18446744073709551615) (w : World) :
  Calls Try.prog 7 #[.int .u32 src, .int .i64 1, .int .i64 many, .int .i64 first, .agg (limX l0 l1 l2 l3 l4 l5 pk by_ again)] w fun e w' => ∃ g gc gr gb, e = .returned (.pointer (some ⟨g, 0, none⟩)) ∧ (w.heap.size ≤ g ∧ w.heap.size ≤ gc ∧ w.heap.size ≤ gr ∧ w.heap.size ≤ gb) ∧ EsI w' w.heap.size g gc gr gb 70 71 src many (-1) (-1) (max first 0) Wr.zero pk by_ (.slice none 0 0) [] again (burN again) (burN again) ∧ BW w w' := by
 have B0 := Lib.hid (show BW w (w.alloc (.cells (limX l0 l1 l2 l3 l4 l5 pk by_ again) 31)) from (BW.refl w).alloc)
 have X0 := HpB.new w (.cells (limX l0 l1 l2 l3 l4 l5 pk by_ again) 31)
 obtain ⟨burst, hbu⟩ : ∃ u, burN again = u := ⟨_, rfl⟩
 rw [hbu]
 unfold burN at hbu
 replace hbu := Lib.hid hbu
 go_enter Try.func7, Try.ntmps7
 unfold limX at *
 go_upto_region 1 with (fail)
 generalize w.alloc (.cells #[.int .i64 l0, .int .i64 l1, .int .i64 l2, .int .i64 l3, .int .i64 l4, .int .i64 l5, .int .i64 pk, .int .i64 by_, .int .u64 again] 31) = w1 at *
 generalize hbe : w.heap.size = bx at *
 have z6 := (hp_cell X0 6).trans (show _ = some (.int .i64 pk) from rfl)
 have z7 := (hp_cell X0 7).trans (show _ = some (.int .i64 by_) from rfl)
 have hX := Lib.hid X0
 clear X0
 replace hbe := Lib.hid hbe
 have m6 : ∀ y : LaterS [] w1, _ := fun y => y.bw.cell z6
 have m7 : ∀ y : LaterS [] w1, _ := fun y => y.bw.cell z7
 clear z6 z7
 refine wp_region_gg [] [] [11] (by kernel_rfl) ?_
 refine float 8 (fun g => .pointer (some ⟨g, 0, none⟩)) (.cells #[.nilFunc, .nilFunc, .nilFunc, .nilFunc, .nilFunc, .nilFunc] 106) rfl (by kernel_rfl) (by first | assumption | (intro k hk; cases hk) | omega) rfl (fun x => (by go_simp)) ?_
 refine hoist [] [] (a1 := ?_) 0 rfl (by kernel_rfl) (.inl ⟨rfl, rfl⟩) rfl rfl rfl (fun x K hK => ?_) ?_
 rotate_left
 ·go_big_quiet_op
  exact hK
 refine hoist [] [] (a1 := ?_) 2 rfl (by kernel_rfl) (.inl ⟨rfl, rfl⟩) rfl rfl rfl (fun x K hK => ?_) ?_
 rotate_left
 ·go_big_quiet_op
  exact hK
 refine hoist [] [] (a1 := ?_) 3 rfl (by kernel_rfl) (.inl ⟨rfl, rfl⟩) rfl rfl rfl (fun x K hK => ?_) ?_
 rotate_left
 ·go_big_quiet_op
  exact hK
 refine hoist [] [] (a1 := ?_) 4 rfl (by kernel_rfl) (.inl ⟨rfl, rfl⟩) rfl rfl rfl (fun x K hK => ?_) ?_
 rotate_left
 ·go_big_quiet_op
  exact hK
 refine hoist [] [] (a1 := ?_) 5 rfl (by kernel_rfl) (.inl ⟨rfl, rfl⟩) rfl rfl rfl (fun x K hK => ?_) ?_
 rotate_left
 ·go_big_quiet_op
  exact hK
 refine effect 1 rfl (by kernel_rfl) (by kernel_rfl) rfl (fun x1 K hK => ?_)
 go_simp
 refine Calls.mono (lnew_any many hm x1.now) ?_
 rintro e w2 ⟨rfl, C2, hb⟩
 refine hK _ _ (hb.still []) ?_
 clear hK K
 have B2 := Lib.hid ((B0.out.trans x1.bw).trans hb)
 have X2 := Lib.hid ((hX.out.bw x1.bw).bw hb)
 have hgc := Lib.hid (Nat.le_trans B0.out.size x1.bw.size)
 generalize x1.now.heap.size = gc at *
 replace C2 := Lib.hid C2
 clear hb
 try simp only [Act.put, List.setIfInBounds_toArray, List.set_cons_succ, List.set_cons_zero]
 refine effect 6 rfl (by kernel_rfl) (by kernel_rfl) rfl (fun x6 K hK => ?_)
 go_simp
 refine Calls.mono (ring_new pk by_ x6.now hpk hby) ?_
 rintro e w3 ⟨rfl, R3, hb⟩
 refine hK _ _ (hb.still []) ?_
 clear hK K
 have hgr := Lib.hid (Nat.le_trans B2.out.size x6.bw.size)
 have B3 := Lib.hid ((B2.out.trans x6.bw).trans hb)
 have X3 := Lib.hid ((X2.out.bw x6.bw).bw hb)
 have C3 := Lib.hid ((C2.out.bw x6.bw).bw hb)
 replace R3 := Lib.hid (R3 bx)
 generalize x6.now.heap.size = gr at *
 clear hb m6 m7 B2 X2 C2
 try simp only [Act.put, List.setIfInBounds_toArray, List.set_cons_succ, List.set_cons_zero]
 refine effect 7 rfl (by kernel_rfl) (by kernel_rfl) rfl (fun x7 K hK => ?_)
 go_simp
 refine Calls.mono (codecs_any x7.now) ?_
 rintro e w4 ⟨rfl, hb⟩
 refine hK _ _ (hb.still []) ?_
 clear hK K
 have B4 := Lib.hid ((B3.out.trans x7.bw).trans hb)
 have X4 := Lib.hid ((X3.out.bw x7.bw).bw hb)
 have C4 := Lib.hid ((C3.out.bw x7.bw).bw hb)
 have R4 := Lib.hid ((R3.out.bw x7.bw).bw hb)
 clear hb B3 X3 C3 R3
 try simp only [Act.put, List.setIfInBounds_toArray, List.set_cons_succ, List.set_cons_zero]
 refine hoist [] [] (a1 := ?_) 9 rfl (by kernel_rfl) (.inl ⟨rfl, rfl⟩) rfl rfl rfl (fun x K hK => ?_) ?_
 rotate_left
 ·go_big_quiet_op
  exact hK
 refine hoist [] [] (a1 := ?_) 10 rfl (by kernel_rfl) (.inl ⟨rfl, rfl⟩) rfl rfl rfl (fun x K hK => ?_) ?_
 rotate_left
 ·go_big_quiet_op
  exact hK
 refine tailF 11 rfl (by kernel_rfl) rfl (fun xr => ?_)
 intro g8 hg8 hG8
 refine fin_nil ?_
 dsimp only at hg8 hG8
 try simp only [Act.put, List.setIfInBounds_toArray, List.set_cons_succ, List.set_cons_zero]
 simp only [List.drop_succ_cons, List.drop_zero]
 have B5 := Lib.hid (B4.out.trans xr.bw)
 have X5 := Lib.hid (X4.out.bw xr.bw)
 have C5 := Lib.hid (C4.out.bw xr.bw)
 have R5 := Lib.hid (R4.out.bw xr.bw)
 clear B4 X4 C4 R4
 have X8 : HpB xr.now g8 (.cells #[.nilFunc, .nilFunc, .nilFunc, .nilFunc, .nilFunc, .nilFunc] 106) := hG8
 clear hG8
 generalize xr.now = w5 at *
 have q0 := (hp_cell X8 0).trans (show _ = some Value.nilFunc from rfl)
 have f0 := hp_frz X8 0
 have q1 := (hp_cell X8 1).trans (show _ = some Value.nilFunc from rfl)
 have f1 := hp_frz X8 1
 have q2 := (hp_cell X8 2).trans (show _ = some Value.nilFunc from rfl)
 have f2 := hp_frz X8 2
 have q3 := (hp_cell X8 3).trans (show _ = some Value.nilFunc from rfl)
 have f3 := hp_frz X8 3
 have q4 := (hp_cell X8 4).trans (show _ = some Value.nilFunc from rfl)
 have f4 := hp_frz X8 4
 have q5 := (hp_cell X8 5).trans (show _ = some Value.nilFunc from rfl)
 have f5 := hp_frz X8 5
 have st6 := still_st6 w5 g8 (fnV 69) (fnV 68) (fnV 70) (fnV 71) (fnV 72) (fnV 68)
 have X9 := X8.st6 rfl (fnV 69) (fnV 68) (fnV 70) (fnV 71) (fnV 72) (fnV 68)
 have hcg := hp_ne C5.out X8 (by decide)
 have hrg := hp_ne R5.out.cells X8 (by decide)
 have hxg := hp_ne X5.out X8 (by decide)
 have C6 := Lib.hid (C5.out.st st6 (by simpa using hcg))
 have R6 := Lib.hid (R5.out.still st6 (fun k hk => by obtain rfl : k = g8 := (by simpa using hk); exact .inr ⟨_, _, _, X8, by decide⟩) (by simpa using hrg) (fun k hk => by cases hk))
 have X6 := Lib.hid (X5.out.st st6 (by simpa using hxg))
 have B6 := Lib.hid (BW.stP B5.out st6 (fun k hk => by obtain rfl : k = g8 := (by simpa using hk); have := B0.out.size; omega))
 obtain ⟨w6, hw6⟩ : ∃ w6, w6 = ((((((w5.setCell ⟨g8, 0, none⟩ (fnV 69)).setCell ⟨g8, 1, none⟩ (fnV 68)).setCell ⟨g8, 2, none⟩ (fnV 70)).setCell ⟨g8, 3, none⟩ (fnV 71)).setCell ⟨g8, 4, none⟩ (fnV 72)).setCell ⟨g8, 5, none⟩ (fnV 68)) := ⟨_, rfl⟩
 rw [← hw6] at C6 R6 X6 B6 X9
 unfold fnV at hw6
 unfold fnV
 have hX9 := Lib.hid X9
 replace hcg := Lib.hid hcg
 replace hrg := Lib.hid hrg
 replace hxg := Lib.hid hxg
 replace X8 := Lib.hid X8
 clear st6 C5 R5 X5 B5 X9
 go_upto_region 4 with (fail)
 rw [← hw6]
 clear q0 q1 q2 q3 q4 q5 f0 f1 f2 f3 f4 f5
 replace hw6 := Lib.hid hw6
 have z8 := (hp_cell X6.out 8).trans (show _ = some (.int .u64 again) from rfl)
 have c0 := (hp_cell hX9.out 2).trans (show _ = some (Value.func (.func 70) #[] #[]) from rfl)
 have c1 := (hp_cell hX9.out 3).trans (show _ = some (Value.func (.func 71) #[] #[]) from rfl)
 go_upto_if 43 with (fail)
 go_cut [14] (fun y wc => y = .int .u64 burst ∧ w6 = wc)
 case first =>
  have hbu := hbu.out
  by_cases h1 : 4611686018427387903 < again
  ·have d1 : decide (4611686018427387903 < again) = true := decide_eq_true h1
   rw [if_pos h1] at hbu
   go_wp2_with fail
   go_meet
   exact ⟨by rw [← hbu], rfl⟩
  ·have d1 : decide (4611686018427387903 < again) = false := decide_eq_false h1
   rw [if_neg h1] at hbu
   go_wp2_with fail
   go_meet
   exact ⟨by rw [← hbu]; congr 1; exact IntWalk.u64_in _ (by omega), rfl⟩
 obtain ⟨rfl, rfl⟩ := hcut
 clear hbu
 go_upto_region 7 with (fail)
 have m8 : ∀ y : LaterS [] w6, _ := fun y => y.bw.cell z8
 have n0 : ∀ y : LaterS [] w6, _ := fun y => y.bw.cell c0
 have n1 : ∀ y : LaterS [] w6, _ := fun y => y.bw.cell c1
 clear z8 c0 c1
 refine wp_region_gg [] [] [12] (by kernel_rfl) ?_
 refine hoist [] [] (a1 := ?_) 0 rfl (by kernel_rfl) (.inl ⟨rfl, rfl⟩) rfl rfl rfl (fun x K hK => ?_) ?_
 rotate_left
 ·go_big_quiet_op
  exact hK
 refine hoist [] [] (a1 := ?_) 1 rfl (by kernel_rfl) (.inl ⟨rfl, rfl⟩) rfl rfl rfl (fun x K hK => ?_) ?_
 rotate_left
 ·go_big_quiet_op
  exact hK
 refine hoist [] [] (a1 := ?_) 2 rfl (by kernel_rfl) (.inl ⟨rfl, rfl⟩) rfl rfl rfl (fun x K hK => ?_) ?_
 rotate_left
 ·go_big_quiet_op
  exact hK
 refine hoist [] [] (a1 := ?_) 3 rfl (by kernel_rfl) (.inl ⟨rfl, rfl⟩) rfl rfl rfl (fun x K hK => ?_) ?_
 rotate_left
 ·go_big_quiet_op
  exact hK
 refine hoist [] [] (a1 := ?_) 4 rfl (by kernel_rfl) (.inl ⟨rfl, rfl⟩) rfl rfl rfl (fun x K hK => ?_) ?_
 rotate_left
 ·go_big_quiet_op
  exact hK
 refine hoist [] [] (a1 := ?_) 5 rfl (by kernel_rfl) (.inl ⟨rfl, rfl⟩) rfl rfl rfl (fun x K hK => ?_) ?_
 rotate_left
 ·go_big_quiet_op
  exact hK
 refine hoist [] [] (a1 := ?_) 6 rfl (by kernel_rfl) (.inl ⟨rfl, rfl⟩) rfl rfl rfl (fun x K hK => ?_) ?_
 rotate_left
 ·go_big_quiet_op
  exact hK
 refine hoist [] [] (a1 := ?_) 7 rfl (by kernel_rfl) (.inl ⟨rfl, rfl⟩) rfl rfl rfl (fun x K hK => ?_) ?_
 rotate_left
 ·go_big_quiet_op
  exact hK
 refine hoist [] [] (a1 := ?_) 8 rfl (by kernel_rfl) (.inl ⟨rfl, rfl⟩) rfl rfl rfl (fun x K hK => ?_) ?_
 rotate_left
 ·go_big_quiet_op
  exact hK
 refine effect 9 rfl (by kernel_rfl) (by kernel_rfl) rfl (fun x9 K hK => ?_)
 go_simp
 refine Calls.mono (new_any again burst x9.now) ?_
 rintro e w7 ⟨rfl, rfl⟩
 refine hK _ _ (Still.of_below ((Below.refl _ _).alloc (Nat.le_refl _) _)) ?_
 clear hK K
 have hb := x9.bw.trans ((BW.refl x9.now).alloc (o := .cells #[.int .u64 again, .int .u64 burst, .int .u64 burst] 142))
 have C7 := Lib.hid (C6.out.bw hb)
 have R7 := Lib.hid (R6.out.bw hb)
 have B7 := Lib.hid (B6.out.trans hb)
 have K7 := Lib.hid (HpB.new x9.now (.cells #[.int .u64 again, .int .u64 burst, .int .u64 burst] 142))
 have hgb := Lib.hid (Nat.le_trans B6.out.size x9.bw.size)
 clear hb m8 n0 n1
 generalize x9.now.alloc (.cells #[.int .u64 again, .int .u64 burst, .int .u64 burst] 142) = w7 at *
 generalize x9.now.heap.size = gb at *
 try simp only [Act.put, List.setIfInBounds_toArray, List.set_cons_succ, List.set_cons_zero]
 refine hoist [] [] (a1 := ?_) 10 rfl (by kernel_rfl) (.inl ⟨rfl, rfl⟩) rfl rfl rfl (fun x K hK => ?_) ?_
 rotate_left
 ·go_big_quiet_op
  exact hK
 refine effect 11 rfl (by kernel_rfl) (by kernel_rfl) rfl (fun x11 K hK => ?_)
 go_simp
 refine hK _ _ (Still.of_below ((Below.refl _ _).alloc (Nat.le_refl _) _)) ?_
 clear hK K
 have hb := x11.bw.trans ((BW.refl x11.now).alloc (o := .cells (egC gc (fnV 70) (fnV 71) src 0 false 0 0 0 0 0 0 false 0 0 0 gr gb) 57))
 have C8 := Lib.hid (C7.out.bw hb)
 have R8 := Lib.hid (R7.out.bw hb)
 have B8 := Lib.hid (B7.out.trans hb)
 have K8 := Lib.hid (K7.out.bw hb)
 have H8 := Lib.hid (HpB.new x11.now (.cells (egC gc (fnV 70) (fnV 71) src 0 false 0 0 0 0 0 0 false 0 0 0 gr gb) 57))
 have hg := Lib.hid (Nat.le_trans B7.out.size x11.bw.size)
 clear hb C7 R7 B7 K7
 obtain ⟨w8, hw8⟩ : ∃ w8, w8 = x11.now.alloc (.cells (egC gc (fnV 70) (fnV 71) src 0 false 0 0 0 0 0 0 false 0 0 0 gr gb) 57) := ⟨_, rfl⟩
 rw [← hw8] at C8 R8 B8 K8 H8
 unfold egC fnV at hw8
 rw [← hw8]
 clear hw8
 generalize x11.now.heap.size = g at *
 try simp only [Act.put, List.setIfInBounds_toArray, List.set_cons_succ, List.set_cons_zero]
 refine tail 12 rfl (by kernel_rfl) rfl (fun xr => ?_)
 simp only [List.drop_succ_cons, List.drop_zero]
 have C9 := Lib.hid (C8.out.bw xr.bw)
 have R9 := Lib.hid (R8.out.bw xr.bw)
 have B9 := Lib.hid (B8.out.trans xr.bw)
 have K9 := Lib.hid (K8.out.bw xr.bw)
 have H9 := Lib.hid (H8.out.bw xr.bw)
 clear C8 R8 B8 K8 H8
 generalize xr.now = w9 at *
 have cS := Lib.hid (wstart_x g gc gr gb (fnV 70) (fnV 71) src first w9 H9.out)
 have hcg2 := hp_ne C9.out H9.out (by decide)
 have hrg2 := hp_ne R9.out.cells H9.out (by decide)
 have hkg2 := hp_ne K9.out H9.out (by decide)
 replace hcg2 := Lib.hid hcg2
 replace hrg2 := Lib.hid hrg2
 replace hkg2 := Lib.hid hkg2
 go_wp2_with fail
 refine Calls.mono cS.out ?_
 rintro e w10 ⟨rfl, H10, T10⟩
 have C10 := Lib.hid (C9.out.st T10 (by simpa using hcg2.out))
 have R10 := Lib.hid (R9.out.still T10 (fun k hk => by obtain rfl : k = g := (by simpa using hk); exact .inr ⟨_, _, _, H9.out, by decide⟩) (by simpa using hrg2.out) (fun k hk => by cases hk))
 have K10 := Lib.hid (K9.out.st T10 (by simpa using hkg2.out))
 have B10 := Lib.hid (BW.stP B9.out T10 (fun k hk => by obtain rfl : k = g := (by simpa using hk); have := hg.out; have := hbe.out; omega))
 replace H10 := Lib.hid H10
 clear T10 cS
 try dsimp only
 go_wp2_with fail
 go_ret
 have h1 := hg.out
 have h2 := hgc.out
 have h3 := hgr.out
 have h4 := hgb.out
 refine ⟨g, gc, gr, gb, rfl, ⟨by have := hbe.out; omega, by have := hbe.out; omega, by have := hbe.out; omega, by have := hbe.out; omega⟩, ⟨H10.out, C10.out, ?_, K10.out⟩, B10.out⟩
 rw [hbe.out]
 exact R10.out
set_option maxRecDepth 100000 in
set_option maxHeartbeats 8000000 in
theorem egnewx_2 (src many first l0 l1 l2 l3 l4 l5 pk by_ again : Int) (hm : 1 ≤ many ∧ many ≤ 4) (hpk : 1 ≤ pk) (hby : 0 ≤ by_) (ha : 0 ≤ again ∧ again ≤ 18446744073709551615) (w : World) :
  Calls Try.prog 7 #[.int .u32 src, .int .i64 2, .int .i64 many, .int .i64 first, .agg (limX l0 l1 l2 l3 l4 l5 pk by_ again)] w fun e w' => ∃ g gc gr gb, e = .returned (.pointer (some ⟨g, 0, none⟩)) ∧ (w.heap.size ≤ g ∧ w.heap.size ≤ gc ∧ w.heap.size ≤ gr ∧ w.heap.size ≤ gb) ∧ EsI w' w.heap.size g gc gr gb 72 68 src many (-1) (-1) (max first 0) Wr.zero pk by_ (.slice none 0 0) [] again (burN again) (burN again) ∧ BW w w' := by
 have B0 := Lib.hid (show BW w (w.alloc (.cells (limX l0 l1 l2 l3 l4 l5 pk by_ again) 31)) from (BW.refl w).alloc)
 have X0 := HpB.new w (.cells (limX l0 l1 l2 l3 l4 l5 pk by_ again) 31)
 obtain ⟨burst, hbu⟩ : ∃ u, burN again = u := ⟨_, rfl⟩
 rw [hbu]
 unfold burN at hbu
 replace hbu := Lib.hid hbu
 go_enter Try.func7, Try.ntmps7
 unfold limX at *
 go_upto_region 1 with (fail)
 generalize w.alloc (.cells #[.int .i64 l0, .int .i64 l1, .int .i64 l2, .int .i64 l3, .int .i64 l4, .int .i64 l5, .int .i64 pk, .int .i64 by_, .int .u64 again] 31) = w1 at *
 generalize hbe : w.heap.size = bx at *
 have z6 := (hp_cell X0 6).trans (show _ = some (.int .i64 pk) from rfl)
 have z7 := (hp_cell X0 7).trans (show _ = some (.int .i64 by_) from rfl)
 have hX := Lib.hid X0
 clear X0
 replace hbe := Lib.hid hbe
 have m6 : ∀ y : LaterS [] w1, _ := fun y => y.bw.cell z6
 have m7 : ∀ y : LaterS [] w1, _ := fun y => y.bw.cell z7
 clear z6 z7
 refine wp_region_gg [] [] [11] (by kernel_rfl) ?_
 refine float 8 (fun g => .pointer (some ⟨g, 0, none⟩)) (.cells #[.nilFunc, .nilFunc, .nilFunc, .nilFunc, .nilFunc, .nilFunc] 106) rfl (by kernel_rfl) (by first | assumption | (intro k hk; cases hk) | omega) rfl (fun x => (by go_simp)) ?_
 refine hoist [] [] (a1 := ?_) 0 rfl (by kernel_rfl) (.inl ⟨rfl, rfl⟩) rfl rfl rfl (fun x K hK => ?_) ?_
 rotate_left
 ·go_big_quiet_op
  exact hK
 refine hoist [] [] (a1 := ?_) 2 rfl (by kernel_rfl) (.inl ⟨rfl, rfl⟩) rfl rfl rfl (fun x K hK => ?_) ?_
 rotate_left
 ·go_big_quiet_op
  exact hK
 refine hoist [] [] (a1 := ?_) 3 rfl (by kernel_rfl) (.inl ⟨rfl, rfl⟩) rfl rfl rfl (fun x K hK => ?_) ?_
 rotate_left
 ·go_big_quiet_op
  exact hK
 refine hoist [] [] (a1 := ?_) 4 rfl (by kernel_rfl) (.inl ⟨rfl, rfl⟩) rfl rfl rfl (fun x K hK => ?_) ?_
 rotate_left
 ·go_big_quiet_op
  exact hK
 refine hoist [] [] (a1 := ?_) 5 rfl (by kernel_rfl) (.inl ⟨rfl, rfl⟩) rfl rfl rfl (fun x K hK => ?_) ?_
 rotate_left
 ·go_big_quiet_op
  exact hK
 refine effect 1 rfl (by kernel_rfl) (by kernel_rfl) rfl (fun x1 K hK => ?_)
 go_simp
 refine Calls.mono (lnew_any many hm x1.now) ?_
 rintro e w2 ⟨rfl, C2, hb⟩
 refine hK _ _ (hb.still []) ?_
 clear hK K
 have B2 := Lib.hid ((B0.out.trans x1.bw).trans hb)
 have X2 := Lib.hid ((hX.out.bw x1.bw).bw hb)
 have hgc := Lib.hid (Nat.le_trans B0.out.size x1.bw.size)
 generalize x1.now.heap.size = gc at *
 replace C2 := Lib.hid C2
 clear hb
 try simp only [Act.put, List.setIfInBounds_toArray, List.set_cons_succ, List.set_cons_zero]
 refine effect 6 rfl (by kernel_rfl) (by kernel_rfl) rfl (fun x6 K hK => ?_)
 go_simp
 refine Calls.mono (ring_new pk by_ x6.now hpk hby) ?_
 rintro e w3 ⟨rfl, R3, hb⟩
 refine hK _ _ (hb.still []) ?_
 clear hK K
 have hgr := Lib.hid (Nat.le_trans B2.out.size x6.bw.size)
 have B3 := Lib.hid ((B2.out.trans x6.bw).trans hb)
 have X3 := Lib.hid ((X2.out.bw x6.bw).bw hb)
 have C3 := Lib.hid ((C2.out.bw x6.bw).bw hb)
 replace R3 := Lib.hid (R3 bx)
 generalize x6.now.heap.size = gr at *
 clear hb m6 m7 B2 X2 C2
 try simp only [Act.put, List.setIfInBounds_toArray, List.set_cons_succ, List.set_cons_zero]
 refine effect 7 rfl (by kernel_rfl) (by kernel_rfl) rfl (fun x7 K hK => ?_)
 go_simp
 refine Calls.mono (codecs_any x7.now) ?_
 rintro e w4 ⟨rfl, hb⟩
 refine hK _ _ (hb.still []) ?_
 clear hK K
 have B4 := Lib.hid ((B3.out.trans x7.bw).trans hb)
 have X4 := Lib.hid ((X3.out.bw x7.bw).bw hb)
 have C4 := Lib.hid ((C3.out.bw x7.bw).bw hb)
 have R4 := Lib.hid ((R3.out.bw x7.bw).bw hb)
 clear hb B3 X3 C3 R3
 try simp only [Act.put, List.setIfInBounds_toArray, List.set_cons_succ, List.set_cons_zero]
 refine hoist [] [] (a1 := ?_) 9 rfl (by kernel_rfl) (.inl ⟨rfl, rfl⟩) rfl rfl rfl (fun x K hK => ?_) ?_
 rotate_left
 ·go_big_quiet_op
  exact hK
 refine hoist [] [] (a1 := ?_) 10 rfl (by kernel_rfl) (.inl ⟨rfl, rfl⟩) rfl rfl rfl (fun x K hK => ?_) ?_
 rotate_left
 ·go_big_quiet_op
  exact hK
 refine tailF 11 rfl (by kernel_rfl) rfl (fun xr => ?_)
 intro g8 hg8 hG8
 refine fin_nil ?_
 dsimp only at hg8 hG8
 try simp only [Act.put, List.setIfInBounds_toArray, List.set_cons_succ, List.set_cons_zero]
 simp only [List.drop_succ_cons, List.drop_zero]
 have B5 := Lib.hid (B4.out.trans xr.bw)
 have X5 := Lib.hid (X4.out.bw xr.bw)
 have C5 := Lib.hid (C4.out.bw xr.bw)
 have R5 := Lib.hid (R4.out.bw xr.bw)
 clear B4 X4 C4 R4
 have X8 : HpB xr.now g8 (.cells #[.nilFunc, .nilFunc, .nilFunc, .nilFunc, .nilFunc, .nilFunc] 106) := hG8
 clear hG8
 generalize xr.now = w5 at *
 have q0 := (hp_cell X8 0).trans (show _ = some Value.nilFunc from rfl)
 have f0 := hp_frz X8 0
 have q1 := (hp_cell X8 1).trans (show _ = some Value.nilFunc from rfl)
 have f1 := hp_frz X8 1
 have q2 := (hp_cell X8 2).trans (show _ = some Value.nilFunc from rfl)
 have f2 := hp_frz X8 2
 have q3 := (hp_cell X8 3).trans (show _ = some Value.nilFunc from rfl)
 have f3 := hp_frz X8 3
 have q4 := (hp_cell X8 4).trans (show _ = some Value.nilFunc from rfl)
 have f4 := hp_frz X8 4
 have q5 := (hp_cell X8 5).trans (show _ = some Value.nilFunc from rfl)
 have f5 := hp_frz X8 5
 have st6 := still_st6 w5 g8 (fnV 69) (fnV 68) (fnV 70) (fnV 71) (fnV 72) (fnV 68)
 have X9 := X8.st6 rfl (fnV 69) (fnV 68) (fnV 70) (fnV 71) (fnV 72) (fnV 68)
 have hcg := hp_ne C5.out X8 (by decide)
 have hrg := hp_ne R5.out.cells X8 (by decide)
 have hxg := hp_ne X5.out X8 (by decide)
 have C6 := Lib.hid (C5.out.st st6 (by simpa using hcg))
 have R6 := Lib.hid (R5.out.still st6 (fun k hk => by obtain rfl : k = g8 := (by simpa using hk); exact .inr ⟨_, _, _, X8, by decide⟩) (by simpa using hrg) (fun k hk => by cases hk))
 have X6 := Lib.hid (X5.out.st st6 (by simpa using hxg))
 have B6 := Lib.hid (BW.stP B5.out st6 (fun k hk => by obtain rfl : k = g8 := (by simpa using hk); have := B0.out.size; omega))
 obtain ⟨w6, hw6⟩ : ∃ w6, w6 = ((((((w5.setCell ⟨g8, 0, none⟩ (fnV 69)).setCell ⟨g8, 1, none⟩ (fnV 68)).setCell ⟨g8, 2, none⟩ (fnV 70)).setCell ⟨g8, 3, none⟩ (fnV 71)).setCell ⟨g8, 4, none⟩ (fnV 72)).setCell ⟨g8, 5, none⟩ (fnV 68)) := ⟨_, rfl⟩
 rw [← hw6] at C6 R6 X6 B6 X9
 unfold fnV at hw6
 unfold fnV
 have hX9 := Lib.hid X9
 replace hcg := Lib.hid hcg
 replace hrg := Lib.hid hrg
 replace hxg := Lib.hid hxg
 replace X8 := Lib.hid X8
 clear st6 C5 R5 X5 B5 X9
 go_upto_region 4 with (fail)
 rw [← hw6]
 clear q0 q1 q2 q3 q4 q5 f0 f1 f2 f3 f4 f5
 replace hw6 := Lib.hid hw6
 have z8 := (hp_cell X6.out 8).trans (show _ = some (.int .u64 again) from rfl)
 have c0 := (hp_cell hX9.out 4).trans (show _ = some (Value.func (.func 72) #[] #[]) from rfl)
 have c1 := (hp_cell hX9.out 5).trans (show _ = some (Value.func (.func 68) #[] #[]) from rfl)
 go_upto_if 43 with (fail)
 go_cut [14] (fun y wc => y = .int .u64 burst ∧ w6 = wc)
 case first =>
  have hbu := hbu.out
  by_cases h1 : 4611686018427387903 < again
  ·have d1 : decide (4611686018427387903 < again) = true := decide_eq_true h1
   rw [if_pos h1] at hbu
   go_wp2_with fail
   go_meet
   exact ⟨by rw [← hbu], rfl⟩
  ·have d1 : decide (4611686018427387903 < again) = false := decide_eq_false h1
   rw [if_neg h1] at hbu
   go_wp2_with fail
   go_meet
   exact ⟨by rw [← hbu]; congr 1; exact IntWalk.u64_in _ (by omega), rfl⟩
 obtain ⟨rfl, rfl⟩ := hcut
 clear hbu
 go_upto_region 7 with (fail)
 have m8 : ∀ y : LaterS [] w6, _ := fun y => y.bw.cell z8
 have n0 : ∀ y : LaterS [] w6, _ := fun y => y.bw.cell c0
 have n1 : ∀ y : LaterS [] w6, _ := fun y => y.bw.cell c1
 clear z8 c0 c1
 refine wp_region_gg [] [] [12] (by kernel_rfl) ?_
 refine hoist [] [] (a1 := ?_) 0 rfl (by kernel_rfl) (.inl ⟨rfl, rfl⟩) rfl rfl rfl (fun x K hK => ?_) ?_
 rotate_left
 ·go_big_quiet_op
  exact hK
 refine hoist [] [] (a1 := ?_) 1 rfl (by kernel_rfl) (.inl ⟨rfl, rfl⟩) rfl rfl rfl (fun x K hK => ?_) ?_
 rotate_left
 ·go_big_quiet_op
  exact hK
 refine hoist [] [] (a1 := ?_) 2 rfl (by kernel_rfl) (.inl ⟨rfl, rfl⟩) rfl rfl rfl (fun x K hK => ?_) ?_
 rotate_left
 ·go_big_quiet_op
  exact hK
 refine hoist [] [] (a1 := ?_) 3 rfl (by kernel_rfl) (.inl ⟨rfl, rfl⟩) rfl rfl rfl (fun x K hK => ?_) ?_
 rotate_left
 ·go_big_quiet_op
  exact hK
 refine hoist [] [] (a1 := ?_) 4 rfl (by kernel_rfl) (.inl ⟨rfl, rfl⟩) rfl rfl rfl (fun x K hK => ?_) ?_
 rotate_left
 ·go_big_quiet_op
  exact hK
 refine hoist [] [] (a1 := ?_) 5 rfl (by kernel_rfl) (.inl ⟨rfl, rfl⟩) rfl rfl rfl (fun x K hK => ?_) ?_
 rotate_left
 ·go_big_quiet_op
  exact hK
 refine hoist [] [] (a1 := ?_) 6 rfl (by kernel_rfl) (.inl ⟨rfl, rfl⟩) rfl rfl rfl (fun x K hK => ?_) ?_
 rotate_left
 ·go_big_quiet_op
  exact hK
 refine hoist [] [] (a1 := ?_) 7 rfl (by kernel_rfl) (.inl ⟨rfl, rfl⟩) rfl rfl rfl (fun x K hK => ?_) ?_
 rotate_left
 ·go_big_quiet_op
  exact hK
 refine hoist [] [] (a1 := ?_) 8 rfl (by kernel_rfl) (.inl ⟨rfl, rfl⟩) rfl rfl rfl (fun x K hK => ?_) ?_
 rotate_left
 ·go_big_quiet_op
  exact hK
 refine effect 9 rfl (by kernel_rfl) (by kernel_rfl) rfl (fun x9 K hK => ?_)
 go_simp
 refine Calls.mono (new_any again burst x9.now) ?_
 rintro e w7 ⟨rfl, rfl⟩
 refine hK _ _ (Still.of_below ((Below.refl _ _).alloc (Nat.le_refl _) _)) ?_
 clear hK K
 have hb := x9.bw.trans ((BW.refl x9.now).alloc (o := .cells #[.int .u64 again, .int .u64 burst, .int .u64 burst] 142))
 have C7 := Lib.hid (C6.out.bw hb)
 have R7 := Lib.hid (R6.out.bw hb)
 have B7 := Lib.hid (B6.out.trans hb)
 have K7 := Lib.hid (HpB.new x9.now (.cells #[.int .u64 again, .int .u64 burst, .int .u64 burst] 142))
 have hgb := Lib.hid (Nat.le_trans B6.out.size x9.bw.size)
 clear hb m8 n0 n1
 generalize x9.now.alloc (.cells #[.int .u64 again, .int .u64 burst, .int .u64 burst] 142) = w7 at *
 generalize x9.now.heap.size = gb at *
 try simp only [Act.put, List.setIfInBounds_toArray, List.set_cons_succ, List.set_cons_zero]
 refine hoist [] [] (a1 := ?_) 10 rfl (by kernel_rfl) (.inl ⟨rfl, rfl⟩) rfl rfl rfl (fun x K hK => ?_) ?_
 rotate_left
 ·go_big_quiet_op
  exact hK
 refine effect 11 rfl (by kernel_rfl) (by kernel_rfl) rfl (fun x11 K hK => ?_)
 go_simp
 refine hK _ _ (Still.of_below ((Below.refl _ _).alloc (Nat.le_refl _) _)) ?_
 clear hK K
 have hb := x11.bw.trans ((BW.refl x11.now).alloc (o := .cells (egC gc (fnV 72) (fnV 68) src 0 false 0 0 0 0 0 0 false 0 0 0 gr gb) 57))
 have C8 := Lib.hid (C7.out.bw hb)
 have R8 := Lib.hid (R7.out.bw hb)
 have B8 := Lib.hid (B7.out.trans hb)
 have K8 := Lib.hid (K7.out.bw hb)
 have H8 := Lib.hid (HpB.new x11.now (.cells (egC gc (fnV 72) (fnV 68) src 0 false 0 0 0 0 0 0 false 0 0 0 gr gb) 57))
 have hg := Lib.hid (Nat.le_trans B7.out.size x11.bw.size)
 clear hb C7 R7 B7 K7
 obtain ⟨w8, hw8⟩ : ∃ w8, w8 = x11.now.alloc (.cells (egC gc (fnV 72) (fnV 68) src 0 false 0 0 0 0 0 0 false 0 0 0 gr gb) 57) := ⟨_, rfl⟩
 rw [← hw8] at C8 R8 B8 K8 H8
 unfold egC fnV at hw8
 rw [← hw8]
 clear hw8
 generalize x11.now.heap.size = g at *
 try simp only [Act.put, List.setIfInBounds_toArray, List.set_cons_succ, List.set_cons_zero]
 refine tail 12 rfl (by kernel_rfl) rfl (fun xr => ?_)
 simp only [List.drop_succ_cons, List.drop_zero]
 have C9 := Lib.hid (C8.out.bw xr.bw)
 have R9 := Lib.hid (R8.out.bw xr.bw)
 have B9 := Lib.hid (B8.out.trans xr.bw)
 have K9 := Lib.hid (K8.out.bw xr.bw)
 have H9 := Lib.hid (H8.out.bw xr.bw)
 clear C8 R8 B8 K8 H8
 generalize xr.now = w9 at *
 have cS := Lib.hid (wstart_x g gc gr gb (fnV 72) (fnV 68) src first w9 H9.out)
 have hcg2 := hp_ne C9.out H9.out (by decide)
 have hrg2 := hp_ne R9.out.cells H9.out (by decide)
 have hkg2 := hp_ne K9.out H9.out (by decide)
 replace hcg2 := Lib.hid hcg2
 replace hrg2 := Lib.hid hrg2
 replace hkg2 := Lib.hid hkg2
 go_wp2_with fail
 refine Calls.mono cS.out ?_
 rintro e w10 ⟨rfl, H10, T10⟩
 have C10 := Lib.hid (C9.out.st T10 (by simpa using hcg2.out))
 have R10 := Lib.hid (R9.out.still T10 (fun k hk => by obtain rfl : k = g := (by simpa using hk); exact .inr ⟨_, _, _, H9.out, by decide⟩) (by simpa using hrg2.out) (fun k hk => by cases hk))
 have K10 := Lib.hid (K9.out.st T10 (by simpa using hkg2.out))
 have B10 := Lib.hid (BW.stP B9.out T10 (fun k hk => by obtain rfl : k = g := (by simpa using hk); have := hg.out; have := hbe.out; omega))
 replace H10 := Lib.hid H10
 clear T10 cS
 try dsimp only
 go_wp2_with fail
 go_ret
 have h1 := hg.out
 have h2 := hgc.out
 have h3 := hgr.out
 have h4 := hgb.out
 refine ⟨g, gc, gr, gb, rfl, ⟨by have := hbe.out; omega, by have := hbe.out; omega, by have := hbe.out; omega, by have := hbe.out; omega⟩, ⟨H10.out, C10.out, ?_, K10.out⟩, B10.out⟩
 rw [hbe.out]
 exact R10.out
theorem egnewx_c (c : Nat) (hc : c < 3) (src many first l0 l1 l2 l3 l4 l5 pk by_ again : Int) (hm : 1 ≤ many ∧ many ≤ 4) (hpk : 1 ≤ pk) (hby : 0 ≤ by_) (ha : 0 ≤ again ∧ again ≤ 18446744073709551615) (w : World) :
  Calls Try.prog 7 #[.int .u32 src, .int .i64 (c : Nat), .int .i64 many, .int .i64 first, .agg (limX l0 l1 l2 l3 l4 l5 pk by_ again)] w fun e w' => ∃ g gc gr gb, e = .returned (.pointer (some ⟨g, 0, none⟩)) ∧ (w.heap.size ≤ g ∧ w.heap.size ≤ gc ∧ w.heap.size ≤ gr ∧ w.heap.size ≤ gb) ∧ EsI w' w.heap.size g gc gr gb (fkC c) (fpC c) src many (-1) (-1) (max first 0) Wr.zero pk by_ (.slice none 0 0) [] again (burN again) (burN again) ∧ BW w w' := by
 obtain rfl | rfl | rfl : c = 0 ∨ c = 1 ∨ c = 2 := by omega
 ·exact egnewx_0 src many first l0 l1 l2 l3 l4 l5 pk by_ again hm hpk hby ha w
 ·exact egnewx_1 src many first l0 l1 l2 l3 l4 l5 pk by_ again hm hpk hby ha w
 ·exact egnewx_2 src many first l0 l1 l2 l3 l4 l5 pk by_ again hm hpk hby ha w
end Go.Proofs.Ytojedpahaifjgaa

namespace Go.Proofs.Ytojedpahaifjgaa
open Go.RowKit
set_option maxRecDepth 100000 in
set_option maxHeartbeats 8000000 in
theorem lnew_no (many : Int) (h : ¬ (1 ≤ many ∧ many ≤ 4)) (w : World) :
  Calls Try.prog 32 #[.int .i64 many] w fun e w' => e = .returned (.pointer none) ∧ w = w' := by
 by_cases h1 : many < 1
 ·have d0 : decide (many < 1) = true := decide_eq_true h1
  go_enter Try.func32, Try.ntmps32
  go_wp2_with fail
  go_ret
  exact ⟨rfl, rfl⟩
 ·have d0 : decide (many < 1) = false := decide_eq_false h1
  have d1 : decide (4 < many) = true := decide_eq_true (by omega)
  go_enter Try.func32, Try.ntmps32
  go_wp2_with fail
  go_ret
  exact ⟨rfl, rfl⟩
theorem ring_new' (pk by_ : Int) (w : World) : Calls Try.prog 33 #[.int .i64 pk, .int .i64 by_] w fun e w' => ∃ p : Option Addr, e = .returned (.pointer p) ∧ BW w w' := by
 by_cases h : 1 ≤ pk ∧ 0 ≤ by_
 ·exact (ring_new pk by_ w h.1 h.2).mono fun _ _ ⟨h1, _, h3⟩ => ⟨_, h1, h3⟩
 ·exact (ring_no pk by_ w (by omega)).mono fun _ _ ⟨h1, h2⟩ => ⟨_, h1, by rw [h2]; exact BW.refl _⟩
set_option maxRecDepth 100000 in
set_option maxHeartbeats 8000000 in
theorem egno_l (src codec many first l0 l1 l2 l3 l4 l5 pk by_ again : Int) (hm : ¬ (1 ≤ many ∧ many ≤ 4)) (w : World) :
  Calls Try.prog 7 #[.int .u32 src, .int .i64 codec, .int .i64 many, .int .i64 first, .agg (limX l0 l1 l2 l3 l4 l5 pk by_ again)] w fun e w' => e = .returned (.pointer none) ∧ BW w w' := by
 have B0 := Lib.hid (show BW w (w.alloc (.cells (limX l0 l1 l2 l3 l4 l5 pk by_ again) 31)) from (BW.refl w).alloc)
 have X0 := HpB.new w (.cells (limX l0 l1 l2 l3 l4 l5 pk by_ again) 31)
 go_enter Try.func7, Try.ntmps7
 unfold limX at *
 go_upto_region 1 with (fail)
 generalize w.alloc (.cells #[.int .i64 l0, .int .i64 l1, .int .i64 l2, .int .i64 l3, .int .i64 l4, .int .i64 l5, .int .i64 pk, .int .i64 by_, .int .u64 again] 31) = w1 at *
 generalize hbe : w.heap.size = bx at *
 have z6 := (hp_cell X0 6).trans (show _ = some (.int .i64 pk) from rfl)
 have z7 := (hp_cell X0 7).trans (show _ = some (.int .i64 by_) from rfl)
 clear X0
 replace hbe := Lib.hid hbe
 have m6 : ∀ y : LaterS [] w1, _ := fun y => y.bw.cell z6
 have m7 : ∀ y : LaterS [] w1, _ := fun y => y.bw.cell z7
 clear z6 z7
 refine wp_region_gg [] [] [11] (by kernel_rfl) ?_
 refine float 8 (fun g => .pointer (some ⟨g, 0, none⟩)) (.cells #[.nilFunc, .nilFunc, .nilFunc, .nilFunc, .nilFunc, .nilFunc] 106) rfl (by kernel_rfl) (by first | assumption | (intro k hk; cases hk) | omega) rfl (fun x => (by go_simp)) ?_
 refine hoist [] [] (a1 := ?_) 0 rfl (by kernel_rfl) (.inl ⟨rfl, rfl⟩) rfl rfl rfl (fun x K hK => ?_) ?_
 rotate_left
 ·go_big_quiet_op
  exact hK
 refine hoist [] [] (a1 := ?_) 2 rfl (by kernel_rfl) (.inl ⟨rfl, rfl⟩) rfl rfl rfl (fun x K hK => ?_) ?_
 rotate_left
 ·go_big_quiet_op
  exact hK
 refine hoist [] [] (a1 := ?_) 3 rfl (by kernel_rfl) (.inl ⟨rfl, rfl⟩) rfl rfl rfl (fun x K hK => ?_) ?_
 rotate_left
 ·go_big_quiet_op
  exact hK
 refine hoist [] [] (a1 := ?_) 4 rfl (by kernel_rfl) (.inl ⟨rfl, rfl⟩) rfl rfl rfl (fun x K hK => ?_) ?_
 rotate_left
 ·go_big_quiet_op
  exact hK
 refine hoist [] [] (a1 := ?_) 5 rfl (by kernel_rfl) (.inl ⟨rfl, rfl⟩) rfl rfl rfl (fun x K hK => ?_) ?_
 rotate_left
 ·go_big_quiet_op
  exact hK
 refine effect 1 rfl (by kernel_rfl) (by kernel_rfl) rfl (fun x1 K hK => ?_)
 go_simp
 refine Calls.mono (lnew_no many hm x1.now) ?_
 rintro e w2 ⟨rfl, rfl⟩
 have hb := BW.refl x1.now
 refine hK _ _ (hb.still []) ?_
 clear hK K
 have B2 := Lib.hid ((B0.out.trans x1.bw).trans hb)
 clear hb
 try generalize x1.now.heap.size = gc at *
 try simp only [Act.put, List.setIfInBounds_toArray, List.set_cons_succ, List.set_cons_zero]
 refine effect 6 rfl (by kernel_rfl) (by kernel_rfl) rfl (fun x6 K hK => ?_)
 go_simp
 refine Calls.mono (ring_new' pk by_ x6.now) ?_
 rintro e w3 ⟨pq, rfl, hb⟩
 skip
 refine hK _ _ (hb.still []) ?_
 clear hK K
 have B3 := Lib.hid ((B2.out.trans x6.bw).trans hb)
 clear hb m6 m7 B2
 try generalize x6.now.heap.size = gr at *
 try simp only [Act.put, List.setIfInBounds_toArray, List.set_cons_succ, List.set_cons_zero]
 refine effect 7 rfl (by kernel_rfl) (by kernel_rfl) rfl (fun x7 K hK => ?_)
 go_simp
 refine Calls.mono (codecs_any x7.now) ?_
 rintro e w4 ⟨rfl, hb⟩
 refine hK _ _ (hb.still []) ?_
 clear hK K
 have B4 := Lib.hid ((B3.out.trans x7.bw).trans hb)
 clear hb B3
 try simp only [Act.put, List.setIfInBounds_toArray, List.set_cons_succ, List.set_cons_zero]
 refine hoist [] [] (a1 := ?_) 9 rfl (by kernel_rfl) (.inl ⟨rfl, rfl⟩) rfl rfl rfl (fun x K hK => ?_) ?_
 rotate_left
 ·go_big_quiet_op
  exact hK
 refine hoist [] [] (a1 := ?_) 10 rfl (by kernel_rfl) (.inl ⟨rfl, rfl⟩) rfl rfl rfl (fun x K hK => ?_) ?_
 rotate_left
 ·go_big_quiet_op
  exact hK
 refine tailF 11 rfl (by kernel_rfl) rfl (fun xr => ?_)
 intro g8 hg8 hG8
 refine fin_nil ?_
 dsimp only at hg8 hG8
 try simp only [Act.put, List.setIfInBounds_toArray, List.set_cons_succ, List.set_cons_zero]
 simp only [List.drop_succ_cons, List.drop_zero]
 have B5 := Lib.hid (B4.out.trans xr.bw)
 clear B4
 have X8 : HpB xr.now g8 (.cells #[.nilFunc, .nilFunc, .nilFunc, .nilFunc, .nilFunc, .nilFunc] 106) := hG8
 clear hG8
 generalize xr.now = w5 at *
 have q0 := (hp_cell X8 0).trans (show _ = some Value.nilFunc from rfl)
 have f0 := hp_frz X8 0
 have q1 := (hp_cell X8 1).trans (show _ = some Value.nilFunc from rfl)
 have f1 := hp_frz X8 1
 have q2 := (hp_cell X8 2).trans (show _ = some Value.nilFunc from rfl)
 have f2 := hp_frz X8 2
 have q3 := (hp_cell X8 3).trans (show _ = some Value.nilFunc from rfl)
 have f3 := hp_frz X8 3
 have q4 := (hp_cell X8 4).trans (show _ = some Value.nilFunc from rfl)
 have f4 := hp_frz X8 4
 have q5 := (hp_cell X8 5).trans (show _ = some Value.nilFunc from rfl)
 have f5 := hp_frz X8 5
 have st6 := still_st6 w5 g8 (fnV 69) (fnV 68) (fnV 70) (fnV 71) (fnV 72) (fnV 68)
 have B6 := Lib.hid (BW.stP B5.out st6 (fun k hk => by obtain rfl : k = g8 := (by simpa using hk); have := B0.out.size; omega))
 obtain ⟨w6, hw6⟩ : ∃ w6, w6 = ((((((w5.setCell ⟨g8, 0, none⟩ (fnV 69)).setCell ⟨g8, 1, none⟩ (fnV 68)).setCell ⟨g8, 2, none⟩ (fnV 70)).setCell ⟨g8, 3, none⟩ (fnV 71)).setCell ⟨g8, 4, none⟩ (fnV 72)).setCell ⟨g8, 5, none⟩ (fnV 68)) := ⟨_, rfl⟩
 rw [← hw6] at B6
 unfold fnV at hw6
 unfold fnV
 replace X8 := Lib.hid X8
 clear st6 B5
 go_upto_region 2 with (fail)
 rw [← hw6]
 clear q0 q1 q2 q3 q4 q5 f0 f1 f2 f3 f4 f5
 replace hw6 := Lib.hid hw6
 go_wp2_with fail
 go_ret
 exact ⟨rfl, B6.out⟩
set_option maxRecDepth 100000 in
set_option maxHeartbeats 8000000 in
theorem egno_r (src codec many first l0 l1 l2 l3 l4 l5 pk by_ again : Int) (hm : 1 ≤ many ∧ many ≤ 4) (hr : pk < 1 ∨ by_ < 0) (w : World) :
  Calls Try.prog 7 #[.int .u32 src, .int .i64 codec, .int .i64 many, .int .i64 first, .agg (limX l0 l1 l2 l3 l4 l5 pk by_ again)] w fun e w' => e = .returned (.pointer none) ∧ BW w w' := by
 have B0 := Lib.hid (show BW w (w.alloc (.cells (limX l0 l1 l2 l3 l4 l5 pk by_ again) 31)) from (BW.refl w).alloc)
 have X0 := HpB.new w (.cells (limX l0 l1 l2 l3 l4 l5 pk by_ again) 31)
 go_enter Try.func7, Try.ntmps7
 unfold limX at *
 go_upto_region 1 with (fail)
 generalize w.alloc (.cells #[.int .i64 l0, .int .i64 l1, .int .i64 l2, .int .i64 l3, .int .i64 l4, .int .i64 l5, .int .i64 pk, .int .i64 by_, .int .u64 again] 31) = w1 at *
 generalize hbe : w.heap.size = bx at *
 have z6 := (hp_cell X0 6).trans (show _ = some (.int .i64 pk) from rfl)
 have z7 := (hp_cell X0 7).trans (show _ = some (.int .i64 by_) from rfl)
 clear X0
 replace hbe := Lib.hid hbe
 have m6 : ∀ y : LaterS [] w1, _ := fun y => y.bw.cell z6
 have m7 : ∀ y : LaterS [] w1, _ := fun y => y.bw.cell z7
 clear z6 z7
 refine wp_region_gg [] [] [11] (by kernel_rfl) ?_
 refine float 8 (fun g => .pointer (some ⟨g, 0, none⟩)) (.cells #[.nilFunc, .nilFunc, .nilFunc, .nilFunc, .nilFunc, .nilFunc] 106) rfl (by kernel_rfl) (by first | assumption | (intro k hk; cases hk) | omega) rfl (fun x => (by go_simp)) ?_
 refine hoist [] [] (a1 := ?_) 0 rfl (by kernel_rfl) (.inl ⟨rfl, rfl⟩) rfl rfl rfl (fun x K hK => ?_) ?_
 rotate_left
 ·go_big_quiet_op
  exact hK
 refine hoist [] [] (a1 := ?_) 2 rfl (by kernel_rfl) (.inl ⟨rfl, rfl⟩) rfl rfl rfl (fun x K hK => ?_) ?_
 rotate_left
 ·go_big_quiet_op
  exact hK
 refine hoist [] [] (a1 := ?_) 3 rfl (by kernel_rfl) (.inl ⟨rfl, rfl⟩) rfl rfl rfl (fun x K hK => ?_) ?_
 rotate_left
 ·go_big_quiet_op
  exact hK
 refine hoist [] [] (a1 := ?_) 4 rfl (by kernel_rfl) (.inl ⟨rfl, rfl⟩) rfl rfl rfl (fun x K hK => ?_) ?_
 rotate_left
 ·go_big_quiet_op
  exact hK
 refine hoist [] [] (a1 := ?_) 5 rfl (by kernel_rfl) (.inl ⟨rfl, rfl⟩) rfl rfl rfl (fun x K hK => ?_) ?_
 rotate_left
 ·go_big_quiet_op
  exact hK
 refine effect 1 rfl (by kernel_rfl) (by kernel_rfl) rfl (fun x1 K hK => ?_)
 go_simp
 refine Calls.mono (lnew_any many hm x1.now) ?_
 rintro e w2 ⟨rfl, -, hb⟩
 skip
 refine hK _ _ (hb.still []) ?_
 clear hK K
 have B2 := Lib.hid ((B0.out.trans x1.bw).trans hb)
 clear hb
 try generalize x1.now.heap.size = gc at *
 try simp only [Act.put, List.setIfInBounds_toArray, List.set_cons_succ, List.set_cons_zero]
 refine effect 6 rfl (by kernel_rfl) (by kernel_rfl) rfl (fun x6 K hK => ?_)
 go_simp
 refine Calls.mono (ring_no pk by_ x6.now hr) ?_
 rintro e w3 ⟨rfl, rfl⟩
 have hb := BW.refl x6.now
 refine hK _ _ (hb.still []) ?_
 clear hK K
 have B3 := Lib.hid ((B2.out.trans x6.bw).trans hb)
 clear hb m6 m7 B2
 try generalize x6.now.heap.size = gr at *
 try simp only [Act.put, List.setIfInBounds_toArray, List.set_cons_succ, List.set_cons_zero]
 refine effect 7 rfl (by kernel_rfl) (by kernel_rfl) rfl (fun x7 K hK => ?_)
 go_simp
 refine Calls.mono (codecs_any x7.now) ?_
 rintro e w4 ⟨rfl, hb⟩
 refine hK _ _ (hb.still []) ?_
 clear hK K
 have B4 := Lib.hid ((B3.out.trans x7.bw).trans hb)
 clear hb B3
 try simp only [Act.put, List.setIfInBounds_toArray, List.set_cons_succ, List.set_cons_zero]
 refine hoist [] [] (a1 := ?_) 9 rfl (by kernel_rfl) (.inl ⟨rfl, rfl⟩) rfl rfl rfl (fun x K hK => ?_) ?_
 rotate_left
 ·go_big_quiet_op
  exact hK
 refine hoist [] [] (a1 := ?_) 10 rfl (by kernel_rfl) (.inl ⟨rfl, rfl⟩) rfl rfl rfl (fun x K hK => ?_) ?_
 rotate_left
 ·go_big_quiet_op
  exact hK
 refine tailF 11 rfl (by kernel_rfl) rfl (fun xr => ?_)
 intro g8 hg8 hG8
 refine fin_nil ?_
 dsimp only at hg8 hG8
 try simp only [Act.put, List.setIfInBounds_toArray, List.set_cons_succ, List.set_cons_zero]
 simp only [List.drop_succ_cons, List.drop_zero]
 have B5 := Lib.hid (B4.out.trans xr.bw)
 clear B4
 have X8 : HpB xr.now g8 (.cells #[.nilFunc, .nilFunc, .nilFunc, .nilFunc, .nilFunc, .nilFunc] 106) := hG8
 clear hG8
 generalize xr.now = w5 at *
 have q0 := (hp_cell X8 0).trans (show _ = some Value.nilFunc from rfl)
 have f0 := hp_frz X8 0
 have q1 := (hp_cell X8 1).trans (show _ = some Value.nilFunc from rfl)
 have f1 := hp_frz X8 1
 have q2 := (hp_cell X8 2).trans (show _ = some Value.nilFunc from rfl)
 have f2 := hp_frz X8 2
 have q3 := (hp_cell X8 3).trans (show _ = some Value.nilFunc from rfl)
 have f3 := hp_frz X8 3
 have q4 := (hp_cell X8 4).trans (show _ = some Value.nilFunc from rfl)
 have f4 := hp_frz X8 4
 have q5 := (hp_cell X8 5).trans (show _ = some Value.nilFunc from rfl)
 have f5 := hp_frz X8 5
 have st6 := still_st6 w5 g8 (fnV 69) (fnV 68) (fnV 70) (fnV 71) (fnV 72) (fnV 68)
 have B6 := Lib.hid (BW.stP B5.out st6 (fun k hk => by obtain rfl : k = g8 := (by simpa using hk); have := B0.out.size; omega))
 obtain ⟨w6, hw6⟩ : ∃ w6, w6 = ((((((w5.setCell ⟨g8, 0, none⟩ (fnV 69)).setCell ⟨g8, 1, none⟩ (fnV 68)).setCell ⟨g8, 2, none⟩ (fnV 70)).setCell ⟨g8, 3, none⟩ (fnV 71)).setCell ⟨g8, 4, none⟩ (fnV 72)).setCell ⟨g8, 5, none⟩ (fnV 68)) := ⟨_, rfl⟩
 rw [← hw6] at B6
 unfold fnV at hw6
 unfold fnV
 replace X8 := Lib.hid X8
 clear st6 B5
 go_upto_region 2 with (fail)
 rw [← hw6]
 clear q0 q1 q2 q3 q4 q5 f0 f1 f2 f3 f4 f5
 replace hw6 := Lib.hid hw6
 go_wp2_with fail
 go_ret
 exact ⟨rfl, B6.out⟩
set_option maxRecDepth 100000 in
set_option maxHeartbeats 8000000 in
theorem egno_c (src codec many first l0 l1 l2 l3 l4 l5 pk by_ again : Int) (hm : 1 ≤ many ∧ many ≤ 4) (hpk : 1 ≤ pk) (hby : 0 ≤ by_) (hc : ¬ (0 ≤ codec ∧ codec ≤ 2)) (w : World) :
  Calls Try.prog 7 #[.int .u32 src, .int .i64 codec, .int .i64 many, .int .i64 first, .agg (limX l0 l1 l2 l3 l4 l5 pk by_ again)] w fun e w' => e = .returned (.pointer none) ∧ BW w w' := by
 have B0 := Lib.hid (show BW w (w.alloc (.cells (limX l0 l1 l2 l3 l4 l5 pk by_ again) 31)) from (BW.refl w).alloc)
 have X0 := HpB.new w (.cells (limX l0 l1 l2 l3 l4 l5 pk by_ again) 31)
 go_enter Try.func7, Try.ntmps7
 unfold limX at *
 go_upto_region 1 with (fail)
 generalize w.alloc (.cells #[.int .i64 l0, .int .i64 l1, .int .i64 l2, .int .i64 l3, .int .i64 l4, .int .i64 l5, .int .i64 pk, .int .i64 by_, .int .u64 again] 31) = w1 at *
 generalize hbe : w.heap.size = bx at *
 have z6 := (hp_cell X0 6).trans (show _ = some (.int .i64 pk) from rfl)
 have z7 := (hp_cell X0 7).trans (show _ = some (.int .i64 by_) from rfl)
 clear X0
 replace hbe := Lib.hid hbe
 have m6 : ∀ y : LaterS [] w1, _ := fun y => y.bw.cell z6
 have m7 : ∀ y : LaterS [] w1, _ := fun y => y.bw.cell z7
 clear z6 z7
 refine wp_region_gg [] [] [11] (by kernel_rfl) ?_
 refine float 8 (fun g => .pointer (some ⟨g, 0, none⟩)) (.cells #[.nilFunc, .nilFunc, .nilFunc, .nilFunc, .nilFunc, .nilFunc] 106) rfl (by kernel_rfl) (by first | assumption | (intro k hk; cases hk) | omega) rfl (fun x => (by go_simp)) ?_
 refine hoist [] [] (a1 := ?_) 0 rfl (by kernel_rfl) (.inl ⟨rfl, rfl⟩) rfl rfl rfl (fun x K hK => ?_) ?_
 rotate_left
 ·go_big_quiet_op
  exact hK
 refine hoist [] [] (a1 := ?_) 2 rfl (by kernel_rfl) (.inl ⟨rfl, rfl⟩) rfl rfl rfl (fun x K hK => ?_) ?_
 rotate_left
 ·go_big_quiet_op
  exact hK
 refine hoist [] [] (a1 := ?_) 3 rfl (by kernel_rfl) (.inl ⟨rfl, rfl⟩) rfl rfl rfl (fun x K hK => ?_) ?_
 rotate_left
 ·go_big_quiet_op
  exact hK
 refine hoist [] [] (a1 := ?_) 4 rfl (by kernel_rfl) (.inl ⟨rfl, rfl⟩) rfl rfl rfl (fun x K hK => ?_) ?_
 rotate_left
 ·go_big_quiet_op
  exact hK
 refine hoist [] [] (a1 := ?_) 5 rfl (by kernel_rfl) (.inl ⟨rfl, rfl⟩) rfl rfl rfl (fun x K hK => ?_) ?_
 rotate_left
 ·go_big_quiet_op
  exact hK
 refine effect 1 rfl (by kernel_rfl) (by kernel_rfl) rfl (fun x1 K hK => ?_)
 go_simp
 refine Calls.mono (lnew_any many hm x1.now) ?_
 rintro e w2 ⟨rfl, -, hb⟩
 skip
 refine hK _ _ (hb.still []) ?_
 clear hK K
 have B2 := Lib.hid ((B0.out.trans x1.bw).trans hb)
 clear hb
 try generalize x1.now.heap.size = gc at *
 try simp only [Act.put, List.setIfInBounds_toArray, List.set_cons_succ, List.set_cons_zero]
 refine effect 6 rfl (by kernel_rfl) (by kernel_rfl) rfl (fun x6 K hK => ?_)
 go_simp
 refine Calls.mono (ring_new pk by_ x6.now hpk hby) ?_
 rintro e w3 ⟨rfl, -, hb⟩
 skip
 refine hK _ _ (hb.still []) ?_
 clear hK K
 have B3 := Lib.hid ((B2.out.trans x6.bw).trans hb)
 clear hb m6 m7 B2
 try generalize x6.now.heap.size = gr at *
 try simp only [Act.put, List.setIfInBounds_toArray, List.set_cons_succ, List.set_cons_zero]
 refine effect 7 rfl (by kernel_rfl) (by kernel_rfl) rfl (fun x7 K hK => ?_)
 go_simp
 refine Calls.mono (codecs_any x7.now) ?_
 rintro e w4 ⟨rfl, hb⟩
 refine hK _ _ (hb.still []) ?_
 clear hK K
 have B4 := Lib.hid ((B3.out.trans x7.bw).trans hb)
 clear hb B3
 try simp only [Act.put, List.setIfInBounds_toArray, List.set_cons_succ, List.set_cons_zero]
 refine hoist [] [] (a1 := ?_) 9 rfl (by kernel_rfl) (.inl ⟨rfl, rfl⟩) rfl rfl rfl (fun x K hK => ?_) ?_
 rotate_left
 ·go_big_quiet_op
  exact hK
 refine hoist [] [] (a1 := ?_) 10 rfl (by kernel_rfl) (.inl ⟨rfl, rfl⟩) rfl rfl rfl (fun x K hK => ?_) ?_
 rotate_left
 ·go_big_quiet_op
  exact hK
 refine tailF 11 rfl (by kernel_rfl) rfl (fun xr => ?_)
 intro g8 hg8 hG8
 refine fin_nil ?_
 dsimp only at hg8 hG8
 try simp only [Act.put, List.setIfInBounds_toArray, List.set_cons_succ, List.set_cons_zero]
 simp only [List.drop_succ_cons, List.drop_zero]
 have B5 := Lib.hid (B4.out.trans xr.bw)
 clear B4
 have X8 : HpB xr.now g8 (.cells #[.nilFunc, .nilFunc, .nilFunc, .nilFunc, .nilFunc, .nilFunc] 106) := hG8
 clear hG8
 generalize xr.now = w5 at *
 have q0 := (hp_cell X8 0).trans (show _ = some Value.nilFunc from rfl)
 have f0 := hp_frz X8 0
 have q1 := (hp_cell X8 1).trans (show _ = some Value.nilFunc from rfl)
 have f1 := hp_frz X8 1
 have q2 := (hp_cell X8 2).trans (show _ = some Value.nilFunc from rfl)
 have f2 := hp_frz X8 2
 have q3 := (hp_cell X8 3).trans (show _ = some Value.nilFunc from rfl)
 have f3 := hp_frz X8 3
 have q4 := (hp_cell X8 4).trans (show _ = some Value.nilFunc from rfl)
 have f4 := hp_frz X8 4
 have q5 := (hp_cell X8 5).trans (show _ = some Value.nilFunc from rfl)
 have f5 := hp_frz X8 5
 have st6 := still_st6 w5 g8 (fnV 69) (fnV 68) (fnV 70) (fnV 71) (fnV 72) (fnV 68)
 have B6 := Lib.hid (BW.stP B5.out st6 (fun k hk => by obtain rfl : k = g8 := (by simpa using hk); have := B0.out.size; omega))
 obtain ⟨w6, hw6⟩ : ∃ w6, w6 = ((((((w5.setCell ⟨g8, 0, none⟩ (fnV 69)).setCell ⟨g8, 1, none⟩ (fnV 68)).setCell ⟨g8, 2, none⟩ (fnV 70)).setCell ⟨g8, 3, none⟩ (fnV 71)).setCell ⟨g8, 4, none⟩ (fnV 72)).setCell ⟨g8, 5, none⟩ (fnV 68)) := ⟨_, rfl⟩
 rw [← hw6] at B6
 unfold fnV at hw6
 unfold fnV
 replace X8 := Lib.hid X8
 clear st6 B5
 go_upto_region 2 with (fail)
 rw [← hw6]
 clear q0 q1 q2 q3 q4 q5 f0 f1 f2 f3 f4 f5
 replace hw6 := Lib.hid hw6
 by_cases h1 : codec < 0
 ·have d1 : decide (codec < 0) = true := decide_eq_true h1
  go_wp2_with fail
  go_ret
  exact ⟨rfl, B6.out⟩
 ·have d1 : decide (codec < 0) = false := decide_eq_false h1
  have d2 : decide (3 ≤ codec) = true := decide_eq_true (by omega)
  go_wp2_with fail
  go_ret
  exact ⟨rfl, B6.out⟩
theorem egno_any (src codec many first l0 l1 l2 l3 l4 l5 pk by_ again : Int) (h : mayE codec many pk by_ = false) (w : World) :
  Calls Try.prog 7 #[.int .u32 src, .int .i64 codec, .int .i64 many, .int .i64 first, .agg (limX l0 l1 l2 l3 l4 l5 pk by_ again)] w fun e w' => e = .returned (.pointer none) ∧ BW w w' := by
 unfold mayE at h
 have h := of_decide_eq_false h
 by_cases hm : 1 ≤ many ∧ many ≤ 4
 ·by_cases hr : pk < 1 ∨ by_ < 0
  ·exact egno_r src codec many first l0 l1 l2 l3 l4 l5 pk by_ again hm hr w
  ·exact egno_c src codec many first l0 l1 l2 l3 l4 l5 pk by_ again hm (by omega) (by omega) (by omega) w
 ·exact egno_l src codec many first l0 l1 l2 l3 l4 l5 pk by_ again hm w
end Go.Proofs.Ytojedpahaifjgaa
