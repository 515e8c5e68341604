/- rtp.read's deferred closure. No condition. -/
import Derived.Test.YtgiajnfmjpdodaaRtP
import Derived.Defers
import Derived.Recover
namespace Go.Proofs.Ytgiajnfmjpdodaa
open Go.RowKit

set_option maxRecDepth 100000 in
set_option maxHeartbeats 8000000 in
theorem catch_idle (p q r : Addr) (w : World) :
    CallsD Try.prog 92 #[.pointer (some p), .pointer (some q), .pointer (some r)] .returning w fun e u' w' => e = .returned (.tuple #[]) ∧ u' = .returning ∧ w' = w := by
  refine callsD_of_wpS Try.func92 rfl fun c₀ cs hu => ?_
  apply wpS_seq
  apply wpS_region
  simp [wpOpsS, go_sem, recoverD, hu, Try.ntmps92, Exit.thenS]
  refine wpS_of_wp ?_
  simp only [Array.replicate, List.replicate, List.setIfInBounds_toArray, List.set_cons_zero, List.set_cons_succ, List.append_toArray, List.cons_append, List.nil_append]
  go_wp2_with fail
  cases c₀
  simp_all [bodyPostS, results, Try.results92, Exit.thenS]
set_option maxRecDepth 100000 in
set_option maxHeartbeats 8000000 in
theorem catch_panicking (p q r : Nat) (k : Nat) (older : List PanicEntry) (w : World) (hp : PkV w p zC) (hq : HpB w q (.cells #[.int .i64 0] 3)) (hr : HpB w r (.cells #[.int .i64 0] 29)) (hpq : p ≠ q) (hpr : p ≠ r) (hqr : q ≠ r) :
    CallsD Try.prog 92 #[.pointer (some ⟨p, 0, none⟩), .pointer (some ⟨q, 0, none⟩), .pointer (some ⟨r, 0, none⟩)] (.panicking ({ v := .iface 137 (.agg #[.int .i64 (k : Nat)]), recovered := false } :: older)) w fun e u' w' =>
      e = .returned (.tuple #[]) ∧ u' = .panicking ({ v := .iface 137 (.agg #[.int .i64 (k : Nat)]), recovered := true } :: older) ∧ PkV w' p zC ∧ HpB w' q (.cells #[.int .i64 0] 3) ∧ HpB w' r (.cells #[.int .i64 (k : Nat)] 29) ∧ Still [p, q, r] w w' := by
  refine callsD_of_wpS Try.func92 rfl fun c₀ cs hu => ?_
  apply wpS_seq
  apply wpS_region
  simp [wpOpsS, go_sem, recoverD, hu, Try.ntmps92, Exit.thenS]
  refine wpS_of_wp ?_
  simp only [Array.replicate, List.replicate, List.setIfInBounds_toArray, List.set_cons_zero, List.set_cons_succ, List.append_toArray, List.cons_append, List.nil_append]
  have hta : ∀ w, (Instr.typeAssert (.iface 137 (.agg #[.int .i64 (k : Nat)])) 20 137 true).run Try.prog w = .ok (.tuple #[.agg #[.int .i64 (k : Nat)], .bool true]) w := fun w => by kernel_rfl
  have Z1 : BW w (w.alloc (.cells #[.int .i64 (k : Nat)] 137)) := (BW.refl w).alloc
  have g1 : HpB (w.alloc (.cells #[.int .i64 (k : Nat)] 137)) w.heap.size (.cells #[.int .i64 (k : Nat)] 137) := HpB.new w _
  have p1 := Lib.hid (hp.bw Z1)
  have q1 := Lib.hid (hq.bw Z1)
  have r1 := Lib.hid (hr.bw Z1)
  go_upto_region 5 with (fail)
  generalize w.alloc (.cells #[.int .i64 (k : Nat)] 137) = w1 at *
  have hpw := HpB.lt hp
  have hqw := HpB.lt hq
  have hrw := HpB.lt hr
  have l0 : ∀ x : LaterS [p, q, r] w1, x.now.cell? ⟨w.heap.size, 0, none⟩ = some (.int .i64 (k : Nat)) := fun x => x.cell (hp_cell g1 0) (by simp; omega)
  replace hp := Lib.hid hp
  replace hq := Lib.hid hq
  replace hr := Lib.hid hr
  replace g1 := Lib.hid g1
  clear hta
  refine wp_region_gg ([p, q, r]) [3, 4] [5] (by kernel_rfl) ?_
  refine hoist [] [3, 4] (a1 := ?_) 0 rfl (by kernel_rfl) (.inl ⟨rfl, rfl⟩) rfl rfl rfl (fun x K hK => ?_) ?_
  rotate_left
  · go_big_quiet_op
    exact hK
  refine hoist ([p, q, r]) [] (a1 := ?_) 1 rfl (by kernel_rfl) (.inr rfl) rfl rfl rfl (fun x K hK => ?_) ?_
  rotate_left
  · go_big_quiet_op
    exact hK
  refine hoist ([p, q, r]) [] (a1 := ?_) 2 rfl (by kernel_rfl) (.inr rfl) rfl rfl rfl (fun x K hK => ?_) ?_
  rotate_left
  · go_big_quiet_op
    exact hK
  refine effect 3 rfl (by kernel_rfl) (by kernel_rfl) rfl (fun x3 K hK => ?_)
  have pX := p1.out.bw x3.bw
  have z0 := pX.cell 0
  have y0 := pX.frz 0
  have z1 := pX.cell 1
  have y1 := pX.frz 1
  have z2 := pX.cell 2
  have y2 := pX.frz 2
  have z3 := pX.cell 3
  have y3 := pX.frz 3
  have z4 := pX.cell 4
  have y4 := pX.frz 4
  have z5 := pX.cell 5
  have y5 := pX.frz 5
  have z6 := pX.cell 6
  have y6 := pX.frz 6
  have z7 := pX.cell 7
  have y7 := pX.frz 7
  have z8 := pX.cell 8
  have y8 := pX.frz 8
  have z9 := pX.cell 9
  have y9 := pX.frz 9
  have z10 := pX.cell 10
  have y10 := pX.frz 10
  simp only [rtpC, zC, List.getElem?_toArray, List.getElem?_cons_zero, List.getElem?_cons_succ] at z0 z1 z2 z3 z4 z5 z6 z7 z8 z9 z10
  replace pX := Lib.hid pX
  go_simp
  have pY := Lib.hid (pX.out.set11 rfl (.bool false) (.int .u8 0) (.int .u16 0) (.int .u32 0) (.int .u32 0) (.slice none 0 0) (.bool false) (.int .u16 0) (.slice none 0 0) (.slice none 0 0) (.int .u8 0))
  have TS := still_set11 x3.now p (.bool false) (.int .u8 0) (.int .u16 0) (.int .u32 0) (.int .u32 0) (.slice none 0 0) (.bool false) (.int .u16 0) (.slice none 0 0) (.slice none 0 0) (.int .u8 0)
  have qY := Lib.hid (HpB.st (q1.out.bw x3.bw) TS (by simpa using hpq.symm))
  have rY := Lib.hid (HpB.st (r1.out.bw x3.bw) TS (by simpa using hpr.symm))
  have T3 := Lib.hid (((Z1.trans x3.bw).still [p, q, r]).trans (TS.weaken (by simp)))
  refine hK _ _ (TS.weaken (by simp)) ?_
  clear hK K z0 z1 z2 z3 z4 z5 z6 z7 z8 z9 z10 y0 y1 y2 y3 y4 y5 y6 y7 y8 y9 y10 pX TS l0
  generalize (((((((((((x3.now.setCell ⟨p, 0, none⟩ (.bool false)).setCell ⟨p, 1, none⟩ (.int .u8 0)).setCell ⟨p, 2, none⟩ (.int .u16 0)).setCell ⟨p, 3, none⟩ (.int .u32 0)).setCell ⟨p, 4, none⟩ (.int .u32 0)).setCell ⟨p, 5, none⟩ (.slice none 0 0)).setCell ⟨p, 6, none⟩ (.bool false)).setCell ⟨p, 7, none⟩ (.int .u16 0)).setCell ⟨p, 8, none⟩ (.slice none 0 0)).setCell ⟨p, 9, none⟩ (.slice none 0 0)).setCell ⟨p, 10, none⟩ (.int .u8 0)) = w3 at *
  try simp only [Act.put, List.setIfInBounds_toArray, List.set_cons_succ, List.set_cons_zero]
  refine effect 4 rfl (by kernel_rfl) (by kernel_rfl) rfl (fun x4 K hK => ?_)
  have qX := qY.out.bw x4.bw
  have z0 := hp_cell qX 0
  have y0 := hp_frz qX 0
  simp only [List.getElem?_toArray, List.getElem?_cons_zero] at z0
  go_simp
  have TS := still_setCR x4.now q 0 (.int .i64 0)
  have q4 : Hid (HpB (x4.now.setCell ⟨q, 0, none⟩ (.int .i64 0)) q (.cells #[.int .i64 0] 3)) := hp_set qX 0 _
  have p4 := Lib.hid ((pY.out.bw x4.bw).still TS (by simpa using hpq))
  have r4 := Lib.hid (HpB.st (rY.out.bw x4.bw) TS (by simpa using hqr.symm))
  have T4 := Lib.hid ((T3.out.trans (x4.bw.still [p, q, r])).trans (TS.weaken (by simp)))
  refine hK _ _ (TS.weaken (by simp)) ?_
  clear hK K z0 y0 qX TS
  generalize x4.now.setCell ⟨q, 0, none⟩ (.int .i64 0) = w4 at *
  try simp only [Act.put, List.setIfInBounds_toArray, List.set_cons_succ, List.set_cons_zero]
  refine tail 5 rfl (by kernel_rfl) rfl (fun xr => ?_)
  simp only [List.drop_succ_cons, List.drop_zero]
  have rX := r4.out.bw xr.bw
  have z0 := hp_cell rX 0
  have y0 := hp_frz rX 0
  simp only [List.getElem?_toArray, List.getElem?_cons_zero] at z0
  have TS := still_setCR xr.now r 0 (.int .i64 (k : Nat))
  have r5 : Hid (HpB (xr.now.setCell ⟨r, 0, none⟩ (.int .i64 (k : Nat))) r (.cells #[.int .i64 (k : Nat)] 29)) := hp_set rX 0 _
  have p5 := Lib.hid ((p4.out.bw xr.bw).still TS (by simpa using hpr))
  have q5 := Lib.hid (HpB.st (q4.out.bw xr.bw) TS (by simpa using hqr))
  have T5 := Lib.hid ((T4.out.trans (xr.bw.still [p, q, r])).trans (TS.weaken (by simp)))
  replace TS := Lib.hid TS
  replace rX := Lib.hid rX
  go_wp2_with fail
  exact ⟨rfl, _, rfl, .tuple #[], by simp [results, Try.results92, go_sem], rfl, rfl, p5.out, q5.out, r5.out, T5.out⟩
end Go.Proofs.Ytgiajnfmjpdodaa
