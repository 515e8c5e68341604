/- A step: reset. No condition but the sizes'. -/
import Derived.Test.YtebeifkgjhgmeaaRmK
namespace Go.Proofs.Ytebeifkgjhgmeaa
open Go.RowKit
def sb0 : Sbs := ⟨0, 0, 0, 0⟩
set_option maxRecDepth 100000 in
set_option maxHeartbeats 8000000 in
theorem reset_yes (gs gh base n c : Nat) (vS : Value) (sl : Option Addr) (kd nn rm tr ow ly : Int) (sf : Option Addr) (nf cf : Nat) (gl ol : Nat) (sc : Option Addr) (nc cc : Nat) (C : List Chg) (hn : nc ≤ 1000000) (w : World) (hb0 : base ≤ w.heap.size) (h : HpB w gs (.cells (stC gh kd 0 nn rm tr ow ly sf nf cf gl ol (.slice sc nc cc)) 73)) (hh : HpB w gh (.cells #[vS, .slice sl n c] 64)) (how : 0 ≤ ow ∧ ow < (n : Int)) (hq : EQ ECh 89 w base (.slice sc nc cc) nc C) :
  Calls Try.prog 24 #[.pointer (some ⟨gs, 0, none⟩)] w fun e w' => e = .returned (.tuple #[.int .i64 0, .int .i64 0]) ∧ ∃ s' c', HpB w' gs (.cells (stC gh kd 0 nn rm tr ow ly sf nf cf gl ol (.slice s' (nc + 1) c')) 73) ∧ EQ ECh 89 w' base (.slice s' (nc + 1) c') (nc + 1) (C ++ [⟨4, ow, sb0⟩]) ∧ Still (gs :: (Value.slice sc nc cc).ownBlock.toList) w w' ∧ (∀ j, (Value.slice s' (nc + 1) c').ownBlock = some j → (Value.slice sc nc cc).ownBlock = some j ∨ w.heap.size ≤ j) := by
 obtain ⟨_, _, he, hnc, hcm⟩ := hq.len
 cases he
 unfold maxLen at hcm
 have hgs : (Value.slice sc nc cc).ownBlock ≠ some gs := fun e => hq.ne h (by decide) _ e rfl
 have s0 := (hp_cell h 0).trans (show _ = some (.pointer (some ⟨gh, 0, none⟩)) from rfl)
 have s2 := (hp_cell h 2).trans (show _ = some (.int .i64 0) from rfl)
 have s6 := (hp_cell h 6).trans (show _ = some (.int .i64 ow) from rfl)
 have cS : ∀ y : LaterS [] w, Calls Try.prog 14 #[.pointer (some ⟨gh, 0, none⟩), .int .i64 ow] y.now fun e w' => e = .returned (.bool true) ∧ w' = y.now := fun y => (seat_any gh vS sl n c ow y.now (hh.bw y.bw)).mono fun _ _ ⟨k1, k2⟩ => ⟨by rw [k1, decide_eq_true how.1, decide_eq_true how.2]; rfl, k2.symm⟩
 have hS := Lib.hid h
 have hQ := Lib.hid hq
 have hb := Lib.hid hb0
 clear h hq hh
 replace hgs := Lib.hid hgs
 replace cS := Lib.hid cS
 replace how := Lib.hid how
 go_enter Try.func24, Try.ntmps24
 go_upto_region 3 with (fail)
 have m0 : ∀ y : LaterS [] w, _ := fun y => y.bw.cell s0
 have m6 : ∀ y : LaterS [] w, _ := fun y => y.bw.cell s6
 clear s0 s2 s6
 refine wp_region_gg [] [] [] (by kernel_rfl) ?_
 refine hoist [] [] (a1 := ?_) 0 rfl (by kernel_rfl) (.inl ⟨rfl, rfl⟩) rfl rfl rfl (fun x K hK => ?_) ?_
 rotate_left
 ·go_big_quiet_op
  exact hK
 refine hoist [] [] (a1 := ?_) 1 rfl (by kernel_rfl) (.inl ⟨rfl, rfl⟩) rfl rfl rfl (fun x K hK => ?_) ?_
 rotate_left
 ·go_big_quiet_op
  exact hK
 refine hoist [] [] (a1 := ?_) 2 rfl (by kernel_rfl) (.inl ⟨rfl, rfl⟩) rfl rfl rfl (fun x K hK => ?_) ?_
 rotate_left
 ·go_big_quiet_op
  exact hK
 refine hoist [] [] (a1 := ?_) 3 rfl (by kernel_rfl) (.inl ⟨rfl, rfl⟩) rfl rfl rfl (fun x K hK => ?_) ?_
 rotate_left
 ·go_big_quiet_op
  exact hK
 refine hoist [] [] (a1 := ?_) 4 rfl (by kernel_rfl) (.inl ⟨rfl, rfl⟩) rfl rfl rfl (fun x K hK => ?_) ?_
 rotate_left
 ·go_big_quiet_op
  exact hK
 refine hoist [] [] (a1 := ?_) 5 rfl (by kernel_rfl) (.inl ⟨rfl, rfl⟩) rfl rfl rfl (fun x K hK => ?_) ?_
 rotate_left
 ·go_big_quiet_op
  exact hK
 refine hoist [] [] (a1 := ?_) 6 rfl (by kernel_rfl) (.inl ⟨rfl, rfl⟩) rfl rfl rfl (fun x K hK => ?_) ?_
 rotate_left
 ·go_big_quiet_op
  exact hK
 refine hoist [] [] (a1 := ?_) 7 rfl (by kernel_rfl) (.inl ⟨rfl, rfl⟩) rfl rfl rfl (fun x K hK => ?_) ?_
 rotate_left
 ·go_big_quiet_op
  exact hK
 refine hoist [] [] (a1 := ?_) 8 rfl (by kernel_rfl) (.inl ⟨rfl, rfl⟩) rfl rfl rfl (fun x K hK => ?_) ?_
 rotate_left
 ·go_big_quiet_op
  exact hK
 refine hoist_call [] [] (a1 := ?_) 9 rfl (by kernel_rfl) (.inl ⟨rfl, rfl⟩) rfl rfl rfl (fun x K hK => ?_) ?_
 rotate_left
 ·go_big_quiet_op
  apply Exists.intro
  refine ⟨fun y => ?_, ?_⟩
  ·exact Calls.laterS_same (cS.out ⟨y.now, x.ok.trans y.ok⟩)
  ·exact hK
 refine hoist [] [] (a1 := ?_) 10 rfl (by kernel_rfl) (.inl ⟨rfl, rfl⟩) rfl rfl rfl (fun x K hK => ?_) ?_
 rotate_left
 ·go_big_quiet_op
  exact hK
 refine hoist [] [] (a1 := ?_) 11 rfl (by kernel_rfl) (.inl ⟨rfl, rfl⟩) rfl rfl rfl (fun x K hK => ?_) ?_
 rotate_left
 ·go_big_quiet_op
  exact hK
 refine done (by kernel_rfl) (fun xr => ?_)
 have B1 := Lib.hid xr.bw
 have S1 := Lib.hid (hS.out.bw xr.bw)
 have Q1 := Lib.hid (hQ.out.bw xr.bw)
 clear m0 m6
 generalize xr.now = w1 at *
 go_upto_region 5 with (fail)
 have s10 := (hp_cell S1.out 10).trans (show _ = some (.slice sc nc cc) from rfl)
 have s6 := (hp_cell S1.out 6).trans (show _ = some (.int .i64 ow) from rfl)
 have m10 : ∀ y : LaterS [] w1, _ := fun y => y.bw.cell s10
 have m6 : ∀ y : LaterS [] w1, _ := fun y => y.bw.cell s6
 clear s10 s6
 try simp only [Act.put, List.setIfInBounds_toArray, List.set_cons_succ, List.set_cons_zero]
 refine wp_region_gg ((Value.slice sc nc cc).ownBlock.toList) [12] [13] (by kernel_rfl) ?_
 refine hoist ((Value.slice sc nc cc).ownBlock.toList) [] (a1 := ?_) 0 rfl (by kernel_rfl) (.inr rfl) rfl rfl rfl (fun x K hK => ?_) ?_
 rotate_left
 ·go_big_quiet_op
  exact hK
 refine hoist [] [12] (a1 := ?_) 1 rfl (by kernel_rfl) (.inl ⟨rfl, rfl⟩) rfl rfl rfl (fun x K hK => ?_) ?_
 rotate_left
 ·go_big_quiet_op
  exact hK
 refine hoist [] [12] (a1 := ?_) 2 rfl (by kernel_rfl) (.inl ⟨rfl, rfl⟩) rfl rfl rfl (fun x K hK => ?_) ?_
 rotate_left
 ·go_big_quiet_op
  exact hK
 refine hoist [] [12] (a1 := ?_) 3 rfl (by kernel_rfl) (.inl ⟨rfl, rfl⟩) rfl rfl rfl (fun x K hK => ?_) ?_
 rotate_left
 ·go_big_quiet_op
  exact hK
 refine hoist [] [12] (a1 := ?_) 4 rfl (by kernel_rfl) (.inl ⟨rfl, rfl⟩) rfl rfl rfl (fun x K hK => ?_) ?_
 rotate_left
 ·go_big_quiet_op
  exact hK
 refine hoist [] [12] (a1 := ?_) 5 rfl (by kernel_rfl) (.inl ⟨rfl, rfl⟩) rfl rfl rfl (fun x K hK => ?_) ?_
 rotate_left
 ·go_big_quiet_op
  exact hK
 refine hoist [] [12] (a1 := ?_) 6 rfl (by kernel_rfl) (.inl ⟨rfl, rfl⟩) rfl rfl rfl (fun x K hK => ?_) ?_
 rotate_left
 ·go_big_quiet_op
  exact hK
 refine hoist [] [12] (a1 := ?_) 7 rfl (by kernel_rfl) (.inl ⟨rfl, rfl⟩) rfl rfl rfl (fun x K hK => ?_) ?_
 rotate_left
 ·go_big_quiet_op
  exact hK
 refine hoist [] [12] (a1 := ?_) 8 rfl (by kernel_rfl) (.inl ⟨rfl, rfl⟩) rfl rfl rfl (fun x K hK => ?_) ?_
 rotate_left
 ·go_big_quiet_op
  exact hK
 refine hoist [] [12] (a1 := ?_) 9 rfl (by kernel_rfl) (.inl ⟨rfl, rfl⟩) rfl rfl rfl (fun x K hK => ?_) ?_
 rotate_left
 ·go_big_quiet_op
  exact hK
 refine hoist [] [12] (a1 := ?_) 10 rfl (by kernel_rfl) (.inl ⟨rfl, rfl⟩) rfl rfl rfl (fun x K hK => ?_) ?_
 rotate_left
 ·go_big_quiet_op
  exact hK
 refine effect 11 rfl (by kernel_rfl) (by kernel_rfl) rfl (fun x11 K hK => ?_)
 go_simp
 refine hK _ _ (Still.of_below ((Below.refl _ _).alloc (Nat.le_refl _) _)) ?_
 clear hK K m10 m6
 have B6 := Lib.hid (x11.bw.alloc (o := .cells #[.int .i64 4, .int .i64 ow, .int .i64 0, .int .i64 0, .int .i64 0, .int .u32 0] 89))
 have L6 : Hid (Sls (x11.now.alloc (.cells #[.int .i64 4, .int .i64 ow, .int .i64 0, .int .i64 0, .int .i64 0, .int .u32 0] 89)) ECh.size (.slice (some ⟨x11.now.heap.size, 0, none⟩) 1 1) 1 (chV ⟨4, ow, sb0⟩)) := Lib.hid (Sls.new1 (E := ECh) x11.now 89 (chV ⟨4, ow, sb0⟩) rfl)
 generalize x11.now.alloc (.cells #[.int .i64 4, .int .i64 ow, .int .i64 0, .int .i64 0, .int .i64 0, .int .u32 0] 89) = w2 at *
 generalize x11.now.heap.size = gz at *
 try simp only [Act.put, List.setIfInBounds_toArray, List.set_cons_succ, List.set_cons_zero]
 refine effect 12 rfl (by kernel_rfl) (by kernel_rfl) rfl (fun x12 K hK => ?_)
 have B7 := Lib.hid (B1.out.trans (B6.out.trans x12.bw))
 have Q7 := Q1.out.bw (B6.out.trans x12.bw)
 have S7 := S1.out.bw (B6.out.trans x12.bw)
 refine wp_apEQ slCh _ _ rfl base (.slice sc nc cc) nc C rfl Q7 _ rfl 1 [⟨4, ow, sb0⟩] (chV ⟨4, ow, sb0⟩) (L6.out.bw x12.bw) (EL.single rfl) rfl (by omega) (Nat.le_trans hb.out B7.out.size) (fun _ _ => trivial) ?_
 intro s4 c4 w4 hc4 hm4 Q4 T4 B4 G4
 refine hK _ _ T4 ?_
 clear hK K Q7
 have S4 := Lib.hid (S7.st T4 (by
  intro hm
  exact hgs.out (by simpa using hm)))
 replace T4 := Lib.hid ((B7.out.still (gs :: (Value.slice sc nc cc).ownBlock.toList)).trans (T4.weaken (fun k hk => List.mem_cons_of_mem _ hk)))
 replace Q4 := Lib.hid Q4
 replace G4 := Lib.hid (fun j hj => (G4 j hj).imp_right (Nat.le_trans B7.out.size))
 clear B4 B7 B6 L6 S7
 try simp only [Act.put, List.setIfInBounds_toArray, List.set_cons_succ, List.set_cons_zero]
 refine tail 13 rfl (by kernel_rfl) rfl (fun xr => ?_)
 simp only [List.drop_succ_cons, List.drop_zero]
 have S5 := Lib.hid (S4.out.bw xr.bw)
 have Q5 := Lib.hid (Q4.out.bw xr.bw)
 have T5 := Lib.hid (T4.out.trans (xr.bw.still (gs :: (Value.slice sc nc cc).ownBlock.toList)))
 clear S4 Q4 T4 S1 Q1 B1
 generalize xr.now = w5 at *
 have z10 := (hp_cell S5.out 10).trans (show _ = some (.slice sc nc cc) from rfl)
 have y10 := hp_frz S5.out 10
 have T6 := Lib.hid (still_sc w5 gs 10 (.slice s4 (nc + 1) c4))
 have S6 : Hid (HpB (w5.setCell ⟨gs, 10, none⟩ (.slice s4 (nc + 1) c4)) gs (.cells (stC gh kd 0 nn rm tr ow ly sf nf cf gl ol (.slice s4 (nc + 1) c4)) 73)) := Lib.hid (hp_set S5.out 10 (.slice s4 (nc + 1) c4))
 have Q6 := Lib.hid (Q5.out.still T6.out (fun _ _ => trivial) (fun k hk hm => by
  obtain rfl : k = gs := by simpa using hm
  exact Q5.out.ne S5.out (by decide) _ hk rfl))
 have T7 := Lib.hid (T5.out.trans (T6.out.weaken (fun k hk => by
  obtain rfl : k = gs := by simpa using hk
  exact List.mem_cons_self)))
 clear T6 S5 Q5 T5
 go_wp2_with fail
 go_ret2
 exact ⟨rfl, s4, c4, S6.out, Q6.out, T7.out, G4.out⟩
end Go.Proofs.Ytebeifkgjhgmeaa
