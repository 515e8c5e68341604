/- A step: subscribe, the track there. No condition but the sizes'. -/
import Derived.Test.YtebeifkgjhgmeaaRmW
namespace Go.Proofs.Ytebeifkgjhgmeaa
open Go.RowKit
theorem freeN_bd (b : Nat) (l : List Sbs) : b ≤ freeN b l ∧ freeN b l ≤ b + l.length ∧ l.any (isS (freeN b l)) = false := by
 have key : ∀ j : Nat, (∀ i, i < j → l.any (isS (b + i)) = true) ∨ ∃ j', j' < j ∧ (∀ i, i < j' → l.any (isS (b + i)) = true) ∧ l.any (isS (b + j')) = false := fun j => by
  induction j with
  | zero => exact .inl fun i hi => absurd hi (Nat.not_lt_zero i)
  | succ j ih =>
   rcases ih with h | ⟨j', h1, h2, h3⟩
   ·cases hc : l.any (isS (b + j)) with
    | true =>
     refine .inl fun i hi => ?_
     by_cases e : i = j
     ·rw [e]; exact hc
     ·exact h i (by omega)
    | false => exact .inr ⟨j, Nat.lt_succ_self j, h, hc⟩
   ·exact .inr ⟨j', Nat.lt_succ_of_lt h1, h2, h3⟩
 rcases key (l.length + 1) with h | ⟨j, h1, h2, h3⟩
 ·have := free_run h
  omega
 ·rw [freeN_eq h2 h3]
  exact ⟨Nat.le_add_right .., by omega, h3⟩
def subX (k t : Nat) (i : Nat) (l : List Sbs) : Sbs := ⟨(k : Nat), (t : Nat), -1, freeN (1048576 + 16 * i) l⟩
set_option maxRecDepth 100000 in
set_option maxHeartbeats 8000000 in
theorem sub_some (gs gh gl o n c base i k t : Nat) (vS : Value) (S : List (List Nat)) (L : List (Mem × Value)) (hi : i < L.length) (hk : k < L.length) (hL6 : L.length ≤ 6) (ht : t = 0 ∨ t = 1) (hne : k ≠ i) (hrm : L[k].1.r = L[i].1.r) (his : (L[k].1.tk t).is = true) (kd nn rm ly : Int) (sf : Option Addr) (nf cf : Nat) (sc : Option Addr) (nc cc : Nat) (C : List Chg) (hnc : nc ≤ 100) (hns : L[i].1.subs.length ≤ 100) (w : World) (hbase : base ≤ w.heap.size) (h : HpB w gs (.cells (stC gh kd (i : Nat) nn rm (t : Nat) (k : Nat) ly sf nf cf gl (o + i * 9) (.slice sc nc cc)) 73)) (hH : HouseV w base gh vS (.slice (some ⟨gl, o, none⟩) n c) S L) (hq : EQ ECh 89 w base (.slice sc nc cc) nc C) :
  Calls Try.prog 21 #[.pointer (some ⟨gs, 0, none⟩)] w fun e w' => OrP (!L[i].1.subs.any (ofT (k : Nat) (t : Nat))) (RefP 10 w e w') (OrP (decide (L[i].1.subs.length < 4)) (RefP 6 w e w') (e = .returned (.tuple #[.int .i64 ((freeN (1048576 + 16 * i) L[i].1.subs : Nat) - 1048576), .int .i64 0]) ∧ ∃ v, StepQ w w' base gs gh gl o n c vS S L (L.set i ({ L[i].1 with subs := L[i].1.subs ++ [subX k t i L[i].1.subs] }, v)) kd (i : Nat) nn rm (t : Nat) (k : Nat) ly sf nf cf (o + i * 9) 200 (.slice sc nc cc))) := by
 unfold subX
 have hmf : ∀ (fn : Fn) (first cap : Array Value) (w : World), (Instr.makeFunc fn first cap).run Try.prog w = .ok (.func fn first cap) w := fun _ _ _ _ => rfl
 have hln : n = L.length := by
  obtain ⟨_, _, e, _⟩ := hH.mb.len
  cases e; rfl
 have hcn : n ≤ c ∧ c ≤ maxLen := by
  obtain ⟨_, _, e, k1, k2⟩ := hH.mb.len
  cases e
  exact ⟨by rw [hln]; exact k1, k2⟩
 unfold maxLen at hcn
 obtain ⟨hcn1, hcn2⟩ := hcn
 have BA : BW w (w.alloc (.cells (frA kd (i : Nat) nn rm (t : Nat) (k : Nat) ly sf nf cf) 32)) := (BW.refl w).alloc
 have hR := Lib.hid (h.range 1 (frA kd (i : Nat) nn rm (t : Nat) (k : Nat) ly sf nf cf).toList rfl)
 have hr0 := hH.mem i hi
 have F1 := Lib.hid (HpB.new w (.cells (frA kd (i : Nat) nn rm (t : Nat) (k : Nat) ly sf nf cf) 32))
 have S1 := Lib.hid (h.bw BA)
 have H1 := Lib.hid (hH.bw BA)
 have B1 := Lib.hid BA
 clear BA hr0
 have f1 := (hp_cell F1.out 1).trans (show _ = some (.int .i64 (i : Nat)) from rfl)
 have f4 := (hp_cell F1.out 4).trans (show _ = some (.int .i64 (t : Nat)) from rfl)
 have f5 := (hp_cell F1.out 5).trans (show _ = some (.int .i64 (k : Nat)) from rfl)
 have s0 := (hp_cell S1.out 0).trans (show _ = some (.pointer (some ⟨gh, 0, none⟩)) from rfl)
 have s9 := (hp_cell S1.out 9).trans (show _ = some (.pointer (some ⟨gl, o + i * 9, none⟩)) from rfl)
 have zh := (hp_cell H1.out.hp 1).trans (show _ = some (.slice (some ⟨gl, o, none⟩) n c) from rfl)
 have mf1 : ∀ y : LaterS [] (w.alloc (.cells (frA kd (i : Nat) nn rm (t : Nat) (k : Nat) ly sf nf cf) 32)), _ := fun y => y.bw.cell f1
 have mf4 : ∀ y : LaterS [] (w.alloc (.cells (frA kd (i : Nat) nn rm (t : Nat) (k : Nat) ly sf nf cf) 32)), _ := fun y => y.bw.cell f4
 have mf5 : ∀ y : LaterS [] (w.alloc (.cells (frA kd (i : Nat) nn rm (t : Nat) (k : Nat) ly sf nf cf) 32)), _ := fun y => y.bw.cell f5
 have m0 : ∀ y : LaterS [] (w.alloc (.cells (frA kd (i : Nat) nn rm (t : Nat) (k : Nat) ly sf nf cf) 32)), _ := fun y => y.bw.cell s0
 have m9 : ∀ y : LaterS [] (w.alloc (.cells (frA kd (i : Nat) nn rm (t : Nat) (k : Nat) ly sf nf cf) 32)), _ := fun y => y.bw.cell s9
 have mh : ∀ y : LaterS [] (w.alloc (.cells (frA kd (i : Nat) nn rm (t : Nat) (k : Nat) ly sf nf cf) 32)), _ := fun y => y.bw.cell zh
 clear f1 f4 f5 s0 s9 zh
 have cS : ∀ y : LaterS [] (w.alloc (.cells (frA kd (i : Nat) nn rm (t : Nat) (k : Nat) ly sf nf cf) 32)), Calls Try.prog 14 #[.pointer (some ⟨gh, 0, none⟩), .int .i64 (k : Nat)] y.now fun e w' => e = .returned (.bool (true)) ∧ w' = y.now := fun y => (seat_any gh vS _ n c (k : Nat) y.now (H1.out.hp.bw y.bw)).mono fun _ _ ⟨k1, k2⟩ => ⟨by rw [k1, decide_eq_true (by omega), decide_eq_true (by omega)]; rfl, k2.symm⟩
 have cT : ∀ y : LaterS [] (w.alloc (.cells (frA kd (i : Nat) nn rm (t : Nat) (k : Nat) ly sf nf cf) 32)), Calls Try.prog 28 #[.int .i64 (t : Nat)] y.now fun e w' => e = .returned (.bool (true)) ∧ w' = y.now := fun y => (track_any (t : Nat) y.now).mono fun _ _ ⟨k1, k2⟩ => ⟨by rw [k1, decide_eq_true (by omega), decide_eq_true (by omega)]; rfl, k2.symm⟩
 have hkn : k < n := by omega
 have ht2 : t < 2 := by omega
 have d2 : (((k : Nat) : Int) == ((i : Nat) : Int)) = false := beq_eq_false_iff_ne.2 (by omega)
 obtain ⟨va, vb, hm, -, -⟩ := H1.out.mem i hi
 have zm := (hm 0 (by decide)).trans (show _ = some (.int .i64 L[i].1.r) from rfl)
 obtain ⟨va, vb, hm2, -, -⟩ := H1.out.mem k hk
 have zk := (hm2 0 (by decide)).trans (show _ = some (.int .i64 L[k].1.r) from rfl)
 rw [Nat.add_zero] at zm zk
 obtain ⟨vp, zt, -, -, -⟩ := H1.out.tkc k hk t ht
 rw [his] at zt
 rw [hrm] at zk
 have mm : ∀ y : LaterS [] _, _ := fun y => y.bw.cell zm
 have mk : ∀ y : LaterS [] _, _ := fun y => y.bw.cell zk
 have mt : ∀ y : LaterS [] _, _ := fun y => y.bw.cell zt
 have d3 : (L[i].1.r != L[i].1.r) = false := by simp
 generalize L[i].1.r = ri at *
 have Q1 := Lib.hid (hq.bw B1.out)
 have hlL := Lib.hid hln
 clear zm zk hm hm2 zt h hH hq hrm his hne ht
 replace hln := Lib.hid hln
 replace hbase := Lib.hid hbase
 go_enter Try.func21, Try.ntmps21
 go_upto_region 2 with (first | (refine swLdC swFr rfl rfl rfl hR.out rfl ?_) | (refine swStN swFr rfl rfl rfl rfl rfl rfl (by kernel_rfl) ?_))
 generalize w.alloc _ = w1 at *
 generalize hgf : w.heap.size = gf at *
 replace cT := Lib.hid cT
 replace cS := Lib.hid cS
 replace hgf := Lib.hid hgf
 try simp only [Act.put, List.setIfInBounds_toArray, List.set_cons_succ, List.set_cons_zero]
 refine wp_region_gg [] [] [] (by kernel_rfl) ?_
 refine hoist [] [] (a1 := ?_) 0 rfl (by kernel_rfl) (.inl ⟨rfl, rfl⟩) rfl rfl rfl (fun x K hK => ?_) ?_
 rotate_left
 ·go_big_quiet_op
  exact hK
 refine hoist [] [] (a1 := ?_) 1 rfl (by kernel_rfl) (.inl ⟨rfl, rfl⟩) rfl rfl rfl (fun x K hK => ?_) ?_
 rotate_left
 ·go_big_quiet_op
  exact hK
 refine hoist [] [] (a1 := ?_) 2 rfl (by kernel_rfl) (.inl ⟨rfl, rfl⟩) rfl rfl rfl (fun x K hK => ?_) ?_
 rotate_left
 ·go_big_quiet_op
  exact hK
 refine hoist [] [] (a1 := ?_) 3 rfl (by kernel_rfl) (.inl ⟨rfl, rfl⟩) rfl rfl rfl (fun x K hK => ?_) ?_
 rotate_left
 ·go_big_quiet_op
  exact hK
 refine hoist [] [] (a1 := ?_) 4 rfl (by kernel_rfl) (.inl ⟨rfl, rfl⟩) rfl rfl rfl (fun x K hK => ?_) ?_
 rotate_left
 ·go_big_quiet_op
  exact hK
 refine hoist [] [] (a1 := ?_) 5 rfl (by kernel_rfl) (.inl ⟨rfl, rfl⟩) rfl rfl rfl (fun x K hK => ?_) ?_
 rotate_left
 ·go_big_quiet_op
  exact hK
 refine hoist_call [] [] (a1 := ?_) 6 rfl (by kernel_rfl) (.inl ⟨rfl, rfl⟩) rfl rfl rfl (fun x K hK => ?_) ?_
 rotate_left
 ·go_big_quiet_op
  apply Exists.intro
  refine ⟨fun y => ?_, ?_⟩
  ·exact Calls.laterS_same (cS.out ⟨y.now, x.ok.trans y.ok⟩)
  ·exact hK
 refine hoist [] [] (a1 := ?_) 7 rfl (by kernel_rfl) (.inl ⟨rfl, rfl⟩) rfl rfl rfl (fun x K hK => ?_) ?_
 rotate_left
 ·go_big_quiet_op
  exact hK
 refine hoist [] [] (a1 := ?_) 8 rfl (by kernel_rfl) (.inl ⟨rfl, rfl⟩) rfl rfl rfl (fun x K hK => ?_) ?_
 rotate_left
 ·go_big_quiet_op
  exact hK
 refine hoist [] [] (a1 := ?_) 9 rfl (by kernel_rfl) (.inl ⟨rfl, rfl⟩) rfl rfl rfl (fun x K hK => ?_) ?_
 rotate_left
 ·go_big_quiet_op
  exact hK
 refine hoist [] [] (a1 := ?_) 10 rfl (by kernel_rfl) (.inl ⟨rfl, rfl⟩) rfl rfl rfl (fun x K hK => ?_) ?_
 rotate_left
 ·go_big_quiet_op
  exact hK
 refine hoist [] [] (a1 := ?_) 11 rfl (by kernel_rfl) (.inl ⟨rfl, rfl⟩) rfl rfl rfl (fun x K hK => ?_) ?_
 rotate_left
 ·go_big_quiet_op
  exact hK
 refine hoist [] [] (a1 := ?_) 12 rfl (by kernel_rfl) (.inl ⟨rfl, rfl⟩) rfl rfl rfl (fun x K hK => ?_) ?_
 rotate_left
 ·go_big_quiet_op
  exact hK
 refine hoist [] [] (a1 := ?_) 13 rfl (by kernel_rfl) (.inl ⟨rfl, rfl⟩) rfl rfl rfl (fun x K hK => ?_) ?_
 rotate_left
 ·go_big_quiet_op
  exact hK
 refine hoist [] [] (a1 := ?_) 14 rfl (by kernel_rfl) (.inl ⟨rfl, rfl⟩) rfl rfl rfl (fun x K hK => ?_) ?_
 rotate_left
 ·go_big_quiet_op
  exact hK
 refine hoist [] [] (a1 := ?_) 15 rfl (by kernel_rfl) (.inl ⟨rfl, rfl⟩) rfl rfl rfl (fun x K hK => ?_) ?_
 rotate_left
 ·go_big_quiet_op
  exact hK
 refine hoist [] [] (a1 := ?_) 16 rfl (by kernel_rfl) (.inl ⟨rfl, rfl⟩) rfl rfl rfl (fun x K hK => ?_) ?_
 rotate_left
 ·go_big_quiet_op
  exact hK
 refine hoist [] [] (a1 := ?_) 17 rfl (by kernel_rfl) (.inl ⟨rfl, rfl⟩) rfl rfl rfl (fun x K hK => ?_) ?_
 rotate_left
 ·go_big_quiet_op
  exact hK
 refine hoist [] [] (a1 := ?_) 18 rfl (by kernel_rfl) (.inl ⟨rfl, rfl⟩) rfl rfl rfl (fun x K hK => ?_) ?_
 rotate_left
 ·go_big_quiet_op
  exact hK
 refine hoist [] [] (a1 := ?_) 19 rfl (by kernel_rfl) (.inl ⟨rfl, rfl⟩) rfl rfl rfl (fun x K hK => ?_) ?_
 rotate_left
 ·go_big_quiet_op
  exact hK
 refine hoist [] [] (a1 := ?_) 20 rfl (by kernel_rfl) (.inl ⟨rfl, rfl⟩) rfl rfl rfl (fun x K hK => ?_) ?_
 rotate_left
 ·go_big_quiet_op
  exact hK
 refine hoist [] [] (a1 := ?_) 21 rfl (by kernel_rfl) (.inl ⟨rfl, rfl⟩) rfl rfl rfl (fun x K hK => ?_) ?_
 rotate_left
 ·go_big_quiet_op
  exact hK
 refine hoist [] [] (a1 := ?_) 22 rfl (by kernel_rfl) (.inl ⟨rfl, rfl⟩) rfl rfl rfl (fun x K hK => ?_) ?_
 rotate_left
 ·go_big_quiet_op
  exact hK
 refine hoist [] [] (a1 := ?_) 23 rfl (by kernel_rfl) (.inl ⟨rfl, rfl⟩) rfl rfl rfl (fun x K hK => ?_) ?_
 rotate_left
 ·go_big_quiet_op
  exact hK
 refine hoist [] [] (a1 := ?_) 24 rfl (by kernel_rfl) (.inl ⟨rfl, rfl⟩) rfl rfl rfl (fun x K hK => ?_) ?_
 rotate_left
 ·go_big_quiet_op
  exact hK
 refine hoist [] [] (a1 := ?_) 25 rfl (by kernel_rfl) (.inl ⟨rfl, rfl⟩) rfl rfl rfl (fun x K hK => ?_) ?_
 rotate_left
 ·go_big_quiet_op
  exact hK
 refine hoist [] [] (a1 := ?_) 26 rfl (by kernel_rfl) (.inl ⟨rfl, rfl⟩) rfl rfl rfl (fun x K hK => ?_) ?_
 rotate_left
 ·go_big_quiet_op
  exact hK
 refine hoist [] [] (a1 := ?_) 27 rfl (by kernel_rfl) (.inl ⟨rfl, rfl⟩) rfl rfl rfl (fun x K hK => ?_) ?_
 rotate_left
 ·go_big_quiet_op
  exact hK
 refine hoist [] [] (a1 := ?_) 28 rfl (by kernel_rfl) (.inl ⟨rfl, rfl⟩) rfl rfl rfl (fun x K hK => ?_) ?_
 rotate_left
 ·go_big_quiet_op
  exact hK
 refine hoist [] [] (a1 := ?_) 29 rfl (by kernel_rfl) (.inl ⟨rfl, rfl⟩) rfl rfl rfl (fun x K hK => ?_) ?_
 rotate_left
 ·go_big_quiet_op
  exact hK
 refine hoist [] [] (a1 := ?_) 30 rfl (by kernel_rfl) (.inl ⟨rfl, rfl⟩) rfl rfl rfl (fun x K hK => ?_) ?_
 rotate_left
 ·go_big_quiet_op
  exact hK
 refine hoist [] [] (a1 := ?_) 31 rfl (by kernel_rfl) (.inl ⟨rfl, rfl⟩) rfl rfl rfl (fun x K hK => ?_) ?_
 rotate_left
 ·go_big_quiet_op
  exact hK
 refine hoist [] [] (a1 := ?_) 32 rfl (by kernel_rfl) (.inl ⟨rfl, rfl⟩) rfl rfl rfl (fun x K hK => ?_) ?_
 rotate_left
 ·go_big_quiet_op
  exact hK
 refine hoist [] [] (a1 := ?_) 33 rfl (by kernel_rfl) (.inl ⟨rfl, rfl⟩) rfl rfl rfl (fun x K hK => ?_) ?_
 rotate_left
 ·go_big_quiet_op
  exact hK
 refine hoist [] [] (a1 := ?_) 34 rfl (by kernel_rfl) (.inl ⟨rfl, rfl⟩) rfl rfl rfl (fun x K hK => ?_) ?_
 rotate_left
 ·go_big_quiet_op
  exact hK
 refine hoist [] [] (a1 := ?_) 35 rfl (by kernel_rfl) (.inl ⟨rfl, rfl⟩) rfl rfl rfl (fun x K hK => ?_) ?_
 rotate_left
 ·go_big_quiet_op
  exact hK
 refine hoist [] [] (a1 := ?_) 36 rfl (by kernel_rfl) (.inl ⟨rfl, rfl⟩) rfl rfl rfl (fun x K hK => ?_) ?_
 rotate_left
 ·go_big_quiet_op
  exact hK
 refine hoist [] [] (a1 := ?_) 37 rfl (by kernel_rfl) (.inl ⟨rfl, rfl⟩) rfl rfl rfl (fun x K hK => ?_) ?_
 rotate_left
 ·go_big_quiet_op
  exact hK
 refine hoist [] [] (a1 := ?_) 38 rfl (by kernel_rfl) (.inl ⟨rfl, rfl⟩) rfl rfl rfl (fun x K hK => ?_) ?_
 rotate_left
 ·go_big_quiet_op
  exact hK
 refine hoist [] [] (a1 := ?_) 39 rfl (by kernel_rfl) (.inl ⟨rfl, rfl⟩) rfl rfl rfl (fun x K hK => ?_) ?_
 rotate_left
 ·go_big_quiet_op
  exact hK
 refine hoist_call [] [] (a1 := ?_) 40 rfl (by kernel_rfl) (.inl ⟨rfl, rfl⟩) rfl rfl rfl (fun x K hK => ?_) ?_
 rotate_left
 ·go_big_quiet_op
  apply Exists.intro
  refine ⟨fun y => ?_, ?_⟩
  ·exact Calls.laterS_same (cT.out ⟨y.now, x.ok.trans y.ok⟩)
  ·exact hK
 refine hoist [] [] (a1 := ?_) 41 rfl (by kernel_rfl) (.inl ⟨rfl, rfl⟩) rfl rfl rfl (fun x K hK => ?_) ?_
 rotate_left
 ·go_big_quiet_op
  exact hK
 refine hoist [] [] (a1 := ?_) 42 rfl (by kernel_rfl) (.inl ⟨rfl, rfl⟩) rfl rfl rfl (fun x K hK => ?_) ?_
 rotate_left
 ·go_big_quiet_op
  exact hK
 refine hoist [] [] (a1 := ?_) 43 rfl (by kernel_rfl) (.inl ⟨rfl, rfl⟩) rfl rfl rfl (fun x K hK => ?_) ?_
 rotate_left
 ·go_big_quiet_op
  exact hK
 refine hoist [] [] (a1 := ?_) 44 rfl (by kernel_rfl) (.inl ⟨rfl, rfl⟩) rfl rfl rfl (fun x K hK => ?_) ?_
 rotate_left
 ·go_big_quiet_op
  exact hK
 refine hoist [] [] (a1 := ?_) 45 rfl (by kernel_rfl) (.inl ⟨rfl, rfl⟩) rfl rfl rfl (fun x K hK => ?_) ?_
 rotate_left
 ·go_big_quiet_op
  exact hK
 refine hoist [] [] (a1 := ?_) 46 rfl (by kernel_rfl) (.inl ⟨rfl, rfl⟩) rfl rfl rfl (fun x K hK => ?_) ?_
 rotate_left
 ·go_big_quiet_op
  exact hK
 refine hoist [] [] (a1 := ?_) 47 rfl (by kernel_rfl) (.inl ⟨rfl, rfl⟩) rfl rfl rfl (fun x K hK => ?_) ?_
 rotate_left
 ·go_big_quiet_op
  exact hK
 refine hoist [] [] (a1 := ?_) 48 rfl (by kernel_rfl) (.inl ⟨rfl, rfl⟩) rfl rfl rfl (fun x K hK => ?_) ?_
 rotate_left
 ·go_big_quiet_op
  exact hK
 refine hoist [] [] (a1 := ?_) 49 rfl (by kernel_rfl) (.inl ⟨rfl, rfl⟩) rfl rfl rfl (fun x K hK => ?_) ?_
 rotate_left
 ·go_big_quiet_op
  exact hK
 refine hoist [] [] (a1 := ?_) 50 rfl (by kernel_rfl) (.inl ⟨rfl, rfl⟩) rfl rfl rfl (fun x K hK => ?_) ?_
 rotate_left
 ·go_big_quiet_op
  exact hK
 refine hoist [] [] (a1 := ?_) 51 rfl (by kernel_rfl) (.inl ⟨rfl, rfl⟩) rfl rfl rfl (fun x K hK => ?_) ?_
 rotate_left
 ·go_big_quiet_op
  exact hK
 refine hoist [] [] (a1 := ?_) 52 rfl (by kernel_rfl) (.inl ⟨rfl, rfl⟩) rfl rfl rfl (fun x K hK => ?_) ?_
 rotate_left
 ·go_big_quiet_op
  exact hK
 refine hoist [] [] (a1 := ?_) 53 rfl (by kernel_rfl) (.inl ⟨rfl, rfl⟩) rfl rfl rfl (fun x K hK => ?_) ?_
 rotate_left
 ·go_big_quiet_op
  exact hK
 refine hoist [] [] (a1 := ?_) 54 rfl (by kernel_rfl) (.inl ⟨rfl, rfl⟩) rfl rfl rfl (fun x K hK => ?_) ?_
 rotate_left
 ·go_big_quiet_op
  exact hK
 refine hoist [] [] (a1 := ?_) 55 rfl (by kernel_rfl) (.inl ⟨rfl, rfl⟩) rfl rfl rfl (fun x K hK => ?_) ?_
 rotate_left
 ·go_big_quiet_op
  exact hK
 refine hoist [] [] (a1 := ?_) 56 rfl (by kernel_rfl) (.inl ⟨rfl, rfl⟩) rfl rfl rfl (fun x K hK => ?_) ?_
 rotate_left
 ·go_big_quiet_op
  exact hK
 refine hoist [] [] (a1 := ?_) 57 rfl (by kernel_rfl) (.inl ⟨rfl, rfl⟩) rfl rfl rfl (fun x K hK => ?_) ?_
 rotate_left
 ·go_big_quiet_op
  exact hK
 refine hoist [] [] (a1 := ?_) 58 rfl (by kernel_rfl) (.inl ⟨rfl, rfl⟩) rfl rfl rfl (fun x K hK => ?_) ?_
 rotate_left
 ·go_big_quiet_op
  exact hK
 refine hoist [] [] (a1 := ?_) 59 rfl (by kernel_rfl) (.inl ⟨rfl, rfl⟩) rfl rfl rfl (fun x K hK => ?_) ?_
 rotate_left
 ·go_big_quiet_op
  exact hK
 refine hoist [] [] (a1 := ?_) 60 rfl (by kernel_rfl) (.inl ⟨rfl, rfl⟩) rfl rfl rfl (fun x K hK => ?_) ?_
 rotate_left
 ·go_big_quiet_op
  exact hK
 refine hoist [] [] (a1 := ?_) 61 rfl (by kernel_rfl) (.inl ⟨rfl, rfl⟩) rfl rfl rfl (fun x K hK => ?_) ?_
 rotate_left
 ·go_big_quiet_op
  exact hK
 refine hoist [] [] (a1 := ?_) 62 rfl (by kernel_rfl) (.inl ⟨rfl, rfl⟩) rfl rfl rfl (fun x K hK => ?_) ?_
 rotate_left
 ·go_big_quiet_op
  exact hK
 refine done (by kernel_rfl) (fun xr => ?_)
 have hgf2 : gf < w1.heap.size := F1.out.lt
 replace B1 := Lib.hid (B1.out.trans xr.bw)
 replace S1 := Lib.hid (S1.out.bw xr.bw)
 replace H1 := Lib.hid (H1.out.bw xr.bw)
 replace Q1 := Lib.hid (Q1.out.bw xr.bw)
 replace F1 := Lib.hid (F1.out.bw xr.bw)
 clear mf1 mf4 mf5 m0 m9 mh mm mk mt cS cT
 generalize xr.now = w2 at *
 clear xr
 obtain ⟨va, vb, hm, -, -⟩ := H1.out.mem i hi
 have hsub := H1.out.sb L[i] (List.getElem_mem hi)
 obtain ⟨sm, cm, hsm, hcm1, hcm2⟩ := hsub.len
 have z7 := (hm 7 (by decide)).trans (show _ = some L[i].2 from rfl)
 rw [hsm] at z7 hsub
 have s9 := (hp_cell S1.out 9).trans (show _ = some (.pointer (some ⟨gl, o + i * 9, none⟩)) from rfl)
 have cH := Lib.hid (shasM base _ _ L[i].1.subs 35 gs (ofT (k : Nat) (t : Nat)) w2 hsub (by omega) (fun x _ wx hB => to_any gs gh kd (i : Nat) nn rm (t : Nat) (k : Nat) ly sf nf cf gl (o + i * 9) (.slice sc nc cc) x wx (S1.out.bw hB)) enterTo)
 have cF := Lib.hid (fun (y : World) (hy : BW w2 y) => free_any gs gh base kd nn rm (t : Nat) (k : Nat) ly i sf nf cf gl (o + i * 9) (.slice sc nc cc) sm L[i].1.subs.length cm L[i].1.subs (by omega) (by omega) y (S1.out.bw hy) (hy.cell z7) (hsub.bw hy))
 have hput : Hid (∀ (y y1 : World) (v : Value) (l : List Sbs), BW w2 y → Still (Value.slice sm L[i].1.subs.length cm).ownBlock.toList y y1 → EQ ESb 50 y1 base v l.length l → v.oneCell' = true → (∀ k, v.ownBlock = some k → (Value.slice sm L[i].1.subs.length cm).ownBlock = some k ∨ y.heap.size ≤ k) → HouseV (y1.setCell ⟨gl, o + i * 9 + 7, none⟩ v) base gh vS (.slice (some ⟨gl, o, none⟩) n c) S (L.set i ({ L[i].1 with subs := l }, v))) := Lib.hid (fun y y1 v l hy k1 k2 k3 k4 => (H1.out.bw hy).putS i hi v l (by rw [hsm]; exact k1) k2 k3 (by rw [hsm]; exact k4))
 unfold maxLen at hcm2
 have hSub := Lib.hid hsub
 have hOwn : Hid ((Value.slice sm L[i].1.subs.length cm).ownBlock = L[i].2.ownBlock) := Lib.hid (by rw [hsm])
 clear hm hsub
 have hfr : 1048576 ≤ freeN (1048576 + 16 * i) L[i].1.subs ∧ freeN (1048576 + 16 * i) L[i].1.subs ≤ 1048576 + 16 * i + L[i].1.subs.length := ⟨Nat.le_trans (Nat.le_add_right _ _) (freeN_bd _ _).1, (freeN_bd _ _).2.1⟩
 generalize hfe : freeN (1048576 + 16 * i) L[i].1.subs = fr at *
 obtain ⟨hfr1, hfr2⟩ := hfr
 generalize hss : L[i].1.subs = subs at *
 generalize hnse : subs.length = ns at *
 generalize hb : subs.any (ofT (k : Nat) (t : Nat)) = b at *
 replace hsm := Lib.hid hsm
 replace hnse := Lib.hid hnse
 replace hss := Lib.hid hss
 replace hb := Lib.hid hb
 replace hfe := Lib.hid hfe
 go_wp2_with fail
 refine Calls.mono cH.out ?_
 rintro e w3 ⟨rfl, hb3⟩
 replace z7 := hb3.cell z7
 replace s9 := hb3.cell s9
 replace B1 := Lib.hid (B1.out.trans hb3)
 replace F1 := Lib.hid (F1.out.bw hb3)
 clear cH
 cases b with
 | true =>
  clear cF hput hb3
  dsimp only
  go_wp2_with fail
  go_ret2
  rw [hss.out, hb.out]
  exact OrP.no ⟨rfl, B1.out⟩
 | false =>
 replace S1 := Lib.hid (S1.out.bw hb3)
 replace H1 := Lib.hid (H1.out.bw hb3)
 replace Q1 := Lib.hid (Q1.out.bw hb3)
 replace hSub := Lib.hid (hSub.out.bw hb3)
 have cF2 := Lib.hid (fun (y : World) (hy : BW w3 y) => cF.out y (hb3.trans hy))
 replace hput := Lib.hid (fun y y1 v l hy => hput.out y y1 v l (hb3.trans hy))
 clear cF hb3
 by_cases h4 : ns < 4
 ·have d4 : decide ((4 : Int) ≤ (ns : Int)) = false := decide_eq_false (by omega)
  have d5 : decide (ns < 4) = true := decide_eq_true h4
  have hns2 : ns ≤ 3 := by omega
  replace h4 := Lib.hid h4
  replace d5 := Lib.hid d5
  dsimp only
  go_upto_region 8 with (fail)
  have f4 := (hp_cell F1.out 4).trans (show _ = some (.int .i64 (t : Nat)) from rfl)
  have f5 := (hp_cell F1.out 5).trans (show _ = some (.int .i64 (k : Nat)) from rfl)
  have mf4 : ∀ y : LaterS [] w3, _ := fun y => y.bw.cell f4
  have mf5 : ∀ y : LaterS [] w3, _ := fun y => y.bw.cell f5
  clear f4 f5
  try simp only [Act.put, List.setIfInBounds_toArray, List.set_cons_succ, List.set_cons_zero]
  refine wp_region_gg [] [] [8] (by kernel_rfl) ?_
  refine hoist [] [] (a1 := ?_) 0 rfl (by kernel_rfl) (.inl ⟨rfl, rfl⟩) rfl rfl rfl (fun x K hK => ?_) ?_
  rotate_left
  ·go_big_quiet_op
   exact hK
  refine hoist [] [] (a1 := ?_) 1 rfl (by kernel_rfl) (.inl ⟨rfl, rfl⟩) rfl rfl rfl (fun x K hK => ?_) ?_
  rotate_left
  ·go_big_quiet_op
   exact hK
  refine hoist [] [] (a1 := ?_) 2 rfl (by kernel_rfl) (.inl ⟨rfl, rfl⟩) rfl rfl rfl (fun x K hK => ?_) ?_
  rotate_left
  ·go_big_quiet_op
   exact hK
  refine hoist [] [] (a1 := ?_) 3 rfl (by kernel_rfl) (.inl ⟨rfl, rfl⟩) rfl rfl rfl (fun x K hK => ?_) ?_
  rotate_left
  ·go_big_quiet_op
   exact hK
  refine hoist [] [] (a1 := ?_) 4 rfl (by kernel_rfl) (.inl ⟨rfl, rfl⟩) rfl rfl rfl (fun x K hK => ?_) ?_
  rotate_left
  ·go_big_quiet_op
   exact hK
  refine hoist_call [] [] (a1 := ?_) 5 rfl (by kernel_rfl) (.inl ⟨rfl, rfl⟩) rfl rfl rfl (fun x K hK => ?_) ?_
  rotate_left
  ·go_big_quiet_op
   apply Exists.intro
   refine ⟨fun y => ?_, ?_⟩
   ·exact Calls.laterS_of (cF2.out y.now (BW.ofStill (x.ok.trans y.ok)))
   ·exact hK
  refine hoist [] [] (a1 := ?_) 6 rfl (by kernel_rfl) (.inl ⟨rfl, rfl⟩) rfl rfl rfl (fun x K hK => ?_) ?_
  rotate_left
  ·go_big_quiet_op
   exact hK
  refine effect 7 rfl (by kernel_rfl) (by kernel_rfl) rfl (fun x7 K hK => ?_)
  go_simp
  refine hK _ _ (Still.of_below ((Below.refl _ _).alloc (Nat.le_refl _) _)) ?_
  clear hK K mf4 mf5
  have B6 := Lib.hid (x7.bw.alloc (o := .cells #[.int .i64 0, .int .i64 0, .int .i64 0, .int .u32 0] 50))
  have X6 := Lib.hid (HpB.new x7.now (.cells #[.int .i64 0, .int .i64 0, .int .i64 0, .int .u32 0] 50))
  have hz6 := Lib.hid x7.bw.size
  generalize x7.now.alloc (.cells #[.int .i64 0, .int .i64 0, .int .i64 0, .int .u32 0] 50) = w4 at *
  generalize x7.now.heap.size = gx at *
  try simp only [Act.put, List.setIfInBounds_toArray, List.set_cons_succ, List.set_cons_zero]
  refine tail 8 rfl (by kernel_rfl) rfl (fun xr => ?_)
  simp only [List.drop_succ_cons, List.drop_zero]
  replace B6 := Lib.hid (B6.out.trans xr.bw)
  replace X6 := Lib.hid (X6.out.bw xr.bw)
  generalize xr.now = w5 at *
  clear xr
  have X7 := Lib.hid (X6.out.rowS #[.int .i64 (k : Nat), .int .i64 (t : Nat), .int .i64 (-1), .int .u32 (fr : Nat)])
  have B7 := Lib.hid (B6.out.row hz6.out #[.int .i64 (k : Nat), .int .i64 (t : Nat), .int .i64 (-1), .int .u32 (fr : Nat)])
  clear B6
  go_upto_region 9 with (refine swSt swSb rfl rfl rfl rfl X6.out rfl rfl (by kernel_rfl) ?_)
  generalize w5.setRow gx #[.int .i64 (k : Nat), .int .i64 (t : Nat), .int .i64 (-1), .int .u32 (fr : Nat)] = w6 at *
  clear X6
  replace S1 := Lib.hid (S1.out.bw B7.out)
  have H7 := Lib.hid (H1.out.bw B7.out)
  replace Q1 := Lib.hid (Q1.out.bw B7.out)
  replace F1 := Lib.hid (F1.out.bw B7.out)
  have hgx : Hid (∀ g, (Value.slice sm ns cm).ownBlock = some g → g ≠ gx) := Lib.hid (fun g hg => by have h1 := hSub.out.lt' g hg; have h2 := hz6.out; omega)
  replace hSub := Lib.hid (hSub.out.bw B7.out)
  replace B1 := Lib.hid (B1.out.trans B7.out)
  replace z7 := B7.out.cell z7
  replace s9 := B7.out.cell s9
  have hbase6 : Hid (base ≤ w6.heap.size) := Lib.hid (by have h1 := hbase.out; have h2 := B1.out.size; have h3 := hgf.out; omega)
  replace hput := Lib.hid (fun y y1 v l hy => hput.out y y1 v l (B7.out.trans hy))
  clear cF2 B7 H1
  have m7 : ∀ y : LaterS [] w6, _ := fun y => y.bw.cell z7
  have m9 : ∀ y : LaterS [] w6, _ := fun y => y.bw.cell s9
  have n9 : ∀ y : LaterS ((Value.slice sm ns cm).ownBlock.toList) w6, y.now.cell? ⟨gs, 9, none⟩ = some (.pointer (some ⟨gl, o + i * 9, none⟩)) := fun y => y.cell s9 (fun hm => by
   obtain ⟨cs, hcs⟩ := hSub.out.row gs (by simpa using hm)
   have := S1.out.symm.trans hcs
   cases this)
  clear z7 s9
  try simp only [Act.put, List.setIfInBounds_toArray, List.set_cons_succ, List.set_cons_zero]
  refine wp_region_gg ((Value.slice sm ns cm).ownBlock.toList) [13] [14] (by kernel_rfl) ?_
  refine hoist ((Value.slice sm ns cm).ownBlock.toList) [] (a1 := ?_) 0 rfl (by kernel_rfl) (.inr rfl) rfl rfl rfl (fun x K hK => ?_) ?_
  rotate_left
  ·go_big_quiet_op
   exact hK
  refine hoist ((Value.slice sm ns cm).ownBlock.toList) [] (a1 := ?_) 1 rfl (by kernel_rfl) (.inr rfl) rfl rfl rfl (fun x K hK => ?_) ?_
  rotate_left
  ·go_big_quiet_op
   exact hK
  refine hoist ((Value.slice sm ns cm).ownBlock.toList) [] (a1 := ?_) 2 rfl (by kernel_rfl) (.inr rfl) rfl rfl rfl (fun x K hK => ?_) ?_
  rotate_left
  ·go_big_quiet_op
   exact hK
  refine hoist ((Value.slice sm ns cm).ownBlock.toList) [] (a1 := ?_) 3 rfl (by kernel_rfl) (.inr rfl) rfl rfl rfl (fun x K hK => ?_) ?_
  rotate_left
  ·go_big_quiet_op
   exact hK
  refine hoist [] [13] (a1 := ?_) 4 rfl (by kernel_rfl) (.inl ⟨rfl, rfl⟩) rfl rfl rfl (fun x K hK => ?_) ?_
  rotate_left
  ·go_big_quiet_op
   exact hK
  refine hoist [] [13] (a1 := ?_) 5 rfl (by kernel_rfl) (.inl ⟨rfl, rfl⟩) rfl rfl rfl (fun x K hK => ?_) ?_
  rotate_left
  ·go_big_quiet_op
   exact hK
  refine hoist [] [13] (a1 := ?_) 6 rfl (by kernel_rfl) (.inl ⟨rfl, rfl⟩) rfl rfl rfl (fun x K hK => ?_) ?_
  rotate_left
  ·go_big_quiet_op
   exact hK
  refine hoist [] [13] (a1 := ?_) 7 rfl (by kernel_rfl) (.inl ⟨rfl, rfl⟩) rfl rfl rfl (fun x K hK => ?_) ?_
  rotate_left
  ·go_big_quiet_op
   exact hK
  refine hoist [] [13] (a1 := ?_) 8 rfl (by kernel_rfl) (.inl ⟨rfl, rfl⟩) rfl rfl rfl (fun x K hK => ?_) ?_
  rotate_left
  ·go_big_quiet_op
   exact hK
  refine hoist [] [13] (a1 := ?_) 9 rfl (by kernel_rfl) (.inl ⟨rfl, rfl⟩) rfl rfl rfl (fun x K hK => ?_) ?_
  rotate_left
  ·go_big_quiet_op
   exact hK
  refine hoist [] [13] (a1 := ?_) 10 rfl (by kernel_rfl) (.inl ⟨rfl, rfl⟩) rfl rfl rfl (fun x K hK => ?_) ?_
  rotate_left
  ·go_big_quiet_op
   exact hK
  refine hoist [] [13] (a1 := ?_) 11 rfl (by kernel_rfl) (.inl ⟨rfl, rfl⟩) rfl rfl rfl (fun x K hK => ?_) ?_
  rotate_left
  ·refine swQl swSb (l := [.int .i64 (k : Nat), .int .i64 (t : Nat), .int .i64 (-1), .int .u32 (fr : Nat)]) rfl (by rfl) rfl (fun w' hw => by subst hw; exact (X7.out.bw x.bw).range 0 _ rfl) (by simp only [Act.put, List.setIfInBounds_toArray, List.set_cons_succ, List.set_cons_zero]; rfl) ?_
   exact hK
  refine effect 12 rfl (by kernel_rfl) (by kernel_rfl) rfl (fun x12 K hK => ?_)
  go_simp
  refine hK _ _ (Still.of_below ((Below.refl _ _).alloc (Nat.le_refl _) _)) ?_
  clear hK K m7 m9 n9
  have B8 := Lib.hid (x12.bw.alloc (o := .cells #[.int .i64 (k : Nat), .int .i64 (t : Nat), .int .i64 (-1), .int .u32 (fr : Nat)] 50))
  have L8 := Lib.hid (Sls.new1 (E := ESb) x12.now 50 (subV ⟨(k : Nat), (t : Nat), -1, fr⟩) rfl)
  have L8 : Hid (Sls (x12.now.alloc (.cells #[.int .i64 (k : Nat), .int .i64 (t : Nat), .int .i64 (-1), .int .u32 (fr : Nat)] 50)) ESb.size (.slice (some ⟨x12.now.heap.size, 0, none⟩) 1 1) 1 (subV ⟨(k : Nat), (t : Nat), -1, fr⟩)) := L8
  generalize x12.now.alloc (.cells #[.int .i64 (k : Nat), .int .i64 (t : Nat), .int .i64 (-1), .int .u32 (fr : Nat)] 50) = w7 at *
  generalize x12.now.heap.size = gz at *
  try simp only [Act.put, List.setIfInBounds_toArray, List.set_cons_succ, List.set_cons_zero]
  refine effect 13 rfl (by kernel_rfl) (by kernel_rfl) rfl (fun x13 K hK => ?_)
  have B9 := Lib.hid (B8.out.trans x13.bw)
  have U9 := hSub.out.bw B9.out
  refine wp_apEQ slSb _ _ rfl base (.slice sm ns cm) ns subs rfl U9 _ rfl 1 [⟨(k : Nat), (t : Nat), -1, fr⟩] (subV ⟨(k : Nat), (t : Nat), -1, fr⟩) (L8.out.bw x13.bw) (EL.single rfl) rfl (by omega) (Nat.le_trans hbase6.out B9.out.size) (fun _ _ => trivial) ?_
  intro s10 c10 w10 hc10 hm10 U10 T10 B10 G10
  refine hK _ _ T10 ?_
  clear hK K
  replace U10 := Lib.hid U10
  replace T10 := Lib.hid T10
  replace G10 := Lib.hid G10
  clear B10 U9 B8 L8
  try simp only [Act.put, List.setIfInBounds_toArray, List.set_cons_succ, List.set_cons_zero]
  refine tail 14 rfl (by kernel_rfl) rfl (fun xr => ?_)
  simp only [List.drop_succ_cons, List.drop_zero]
  have U11 := Lib.hid (U10.out.bw xr.bw)
  have T11 := Lib.hid (T10.out.trans (xr.bw.still _))
  clear U10 T10
  generalize xr.now = w11 at *
  clear xr
  have hrow : ∀ g ∈ (Value.slice sm ns cm).ownBlock.toList, ∃ cs, x13.now.heap[g]? = some (.cells cs 50 (0, 0)) := fun g hg => (hSub.out.bw B9.out).row g (by simpa using hg)
  have hnot : ∀ {b : Nat} {cs : Array Value} {T : TypeId}, HpB x13.now b (.cells cs T) → T ≠ 50 → b ∉ (Value.slice sm ns cm).ownBlock.toList := fun hb ht hm => by
   obtain ⟨cs, hcs⟩ := hrow _ hm
   have := hb.symm.trans hcs
   cases this
   exact ht rfl
  have S11 := (S1.out.bw B9.out).st T11.out (hnot (S1.out.bw B9.out) (by decide))
  have F11 := (F1.out.bw B9.out).st T11.out (hnot (F1.out.bw B9.out) (by decide))
  have X11 := (X7.out.bw B9.out).st T11.out (fun hm => hgx.out gx (by simpa using hm) rfl)
  have Q11 := (Q1.out.bw B9.out).still T11.out (fun _ _ => trivial) (fun g hg hm => by
   obtain ⟨cs, hcs⟩ := hrow g hm
   exact (Q1.out.bw B9.out).ne hcs (by decide) _ hg rfl)
  have H12 := hput.out x13.now w11 (.slice s10 (ns + 1) c10) (subs ++ [⟨(k : Nat), (t : Nat), -1, fr⟩]) B9.out T11.out U11.out.full rfl G10.out
  obtain ⟨crx, hcr⟩ := (H7.out.bw B9.out).row
  have hcr11 : HpB w11 gl (.cells crx 45) := HpB.st hcr T11.out (hnot hcr (by decide))
  have T12 := still_sc w11 gl (o + i * 9 + 7) (.slice s10 (ns + 1) c10)
  have z7 : ∃ u, w11.cell? ⟨gl, o + i * 9 + 7, none⟩ = some u := by
   obtain ⟨va, vb, hm, -, -⟩ := (H7.out.bw B9.out).mem i hi
   have z7 := (hm 7 (by decide)).trans (show _ = some L[i].2 from rfl)
   exact ⟨_, (World.cell?_of_block (w := x13.now) (T11.out.block gl (HpB.lt hcr) (hnot hcr (by decide)))).trans z7⟩
  obtain ⟨u7, z7⟩ := z7
  have y7 : w11.frozen? ⟨gl, o + i * 9 + 7, none⟩ = false := hp_frz hcr11 _
  have hgl : ∀ {b : Nat} {cs : Array Value} {T : TypeId}, HpB w11 b (.cells cs T) → T ≠ 45 → b ∉ [gl] := fun hb ht hm => by
   obtain rfl := List.mem_singleton.1 hm
   have := hb.symm.trans hcr11
   cases this
   exact ht rfl
  have S12 := Lib.hid (S11.st T12 (hgl S11 (by decide)))
  have F12 := Lib.hid (F11.st T12 (hgl F11 (by decide)))
  have X12 := Lib.hid (X11.st T12 (hgl X11 (by decide)))
  have Q12 := Lib.hid (Q11.still T12 (fun _ _ => trivial) (fun g hg hm => by
   obtain rfl := List.mem_singleton.1 hm
   exact Q11.ne hcr11 (by decide) _ hg rfl))
  have T13 : Hid (Still (gs :: gl :: ((Value.slice sc nc cc).ownBlock.toList ++ hsB L)) w (w11.setCell ⟨gl, o + i * 9 + 7, none⟩ (.slice s10 (ns + 1) c10))) := Lib.hid ((((B1.out.trans B9.out).still _).trans (T11.out.weaken (fun g hg => by
   have := hsB_mem hi (g := g) (by rw [← hOwn.out]; simpa using hg)
   simp [this]))).trans (T12.weaken (fun g hg => by
   obtain rfl := List.mem_singleton.1 hg
   simp)))
  replace H12 := Lib.hid H12
  clear hrow hnot S11 F11 X11 Q11 hcr hcr11 T12 hgl S1 F1 X7 Q1 T11 U11 G10 B9 H7 hput B1 hSub hgx
  go_upto_region 10 with (fail)
  generalize w11.setCell ⟨gl, o + i * 9 + 7, none⟩ (.slice s10 (ns + 1) c10) = w12 at *
  clear z7 y7
  have f1 := (hp_cell F12.out 1).trans (show _ = some (.int .i64 (i : Nat)) from rfl)
  have BA : BW w12 (w12.alloc (.cells #[.int .i64 (k : Nat), .int .i64 (t : Nat), .int .i64 (-1), .int .u32 (fr : Nat)] 50)) := (BW.refl w12).alloc
  have Y13 := HpB.new w12 (.cells #[.int .i64 (k : Nat), .int .i64 (t : Nat), .int .i64 (-1), .int .u32 (fr : Nat)] 50)
  have cC := Lib.hid (changed_one gs gh w12.heap.size base kd (i : Nat) nn rm (t : Nat) (k : Nat) ly sf nf cf gl (o + i * 9) sc nc cc C 1 (i : Nat) ⟨(k : Nat), (t : Nat), -1, fr⟩ (by omega) _ (by have h1 := hbase.out; have h2 := T13.out.size; have h3 := hgf.out; have h4 := BA.size; omega) (S12.out.bw BA) Y13 (Q12.out.bw BA))
  have T14 := Lib.hid (T13.out.trans (BA.still _))
  have H14 := Lib.hid (H12.out.bw BA)
  have X14 := Lib.hid (X12.out.bw BA)
  have S14 := Lib.hid (S12.out.bw BA)
  have Q14 := Lib.hid (Q12.out.bw BA)
  have hgxs : Hid (gx ≠ gs) := Lib.hid (fun e => by
   subst e
   have := X12.out.symm.trans S12.out
   cases this)
  clear BA Y13 T13 H12 S12 Q12 F12
  go_wp2_with (refine swLdM swSb rfl rfl rfl (X12.out.range 0 [.int .i64 (k : Nat), .int .i64 (t : Nat), .int .i64 (-1), .int .u32 (fr : Nat)] rfl) rfl ?_)
  refine Calls.mono cC.out ?_
  rintro e w15 ⟨rfl, s15, c15, S15, Q15, T15, G15⟩
  have H15 := Lib.hid (H14.out.st T15 (fun k hk => by
   rcases List.mem_cons.1 hk with rfl | hk
   ·exact ⟨_, _, _, S14.out, by decide⟩
   ·obtain ⟨cs, hcs⟩ := Q14.out.row k (by simpa using hk)
    exact ⟨cs, _, _, hcs, by decide⟩))
  have X15 := X14.out.st T15 (fun hm => by
   rcases List.mem_cons.1 hm with e | hm
   ·exact hgxs.out e
   ·obtain ⟨cs, hcs⟩ := Q14.out.row gx (by simpa using hm)
    have := X14.out.symm.trans hcs
    cases this)
  have T16 := Lib.hid (T14.out.trans (T15.weaken (S' := gs :: gl :: ((Value.slice sc nc cc).ownBlock.toList ++ hsB L)) (fun x hx => by
   rcases List.mem_cons.1 hx with rfl | hx
   ·simp
   ·simp only [List.mem_cons, List.mem_append]
    exact .inr (.inr (.inl hx)))))
  have G16 := Lib.hid (fun j hj => (G15 j hj).imp_right (Nat.le_trans T14.out.size))
  have x3 := (hp_cell X15 3).trans (show _ = some (.int .u32 (fr : Nat)) from rfl)
  replace S15 := Lib.hid S15
  replace Q15 := Lib.hid Q15
  clear cC T15 G15 S14 Q14 H14 T14 X14 X15 X12
  have hfz : fr < 2097152 := by omega
  have hfz2 : ((fr : Nat) : Int) - 1048576 ≤ 2097152 := by omega
  dsimp only
  go_wp2_with fail
  go_ret2
  rw [hss.out, hb.out, hnse.out, d5.out, hfe.out]
  exact OrP.yes (OrP.yes ⟨rfl, _, ⟨s15, nc + 1, c15, _, by omega, S15.out, Q15.out, G16.out⟩, H15.out, T16.out⟩)
 ·have d4 : decide ((4 : Int) ≤ (ns : Int)) = true := decide_eq_true (by omega)
  have d5 : decide (ns < 4) = false := decide_eq_false h4
  clear cF2 hput
  replace h4 := Lib.hid h4
  replace d5 := Lib.hid d5
  dsimp only
  go_wp2_with fail
  go_ret2
  rw [hss.out, hb.out, hnse.out, d5.out]
  exact OrP.yes (OrP.no ⟨rfl, B1.out⟩)
end Go.Proofs.Ytebeifkgjhgmeaa
