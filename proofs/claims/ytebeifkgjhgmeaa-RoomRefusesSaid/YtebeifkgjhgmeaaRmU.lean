/- A step: layer, of a subscription that there is. No condition but the sizes'. -/
import Derived.Test.YtebeifkgjhgmeaaRmT
namespace Go.Proofs.Ytebeifkgjhgmeaa
open Go.RowKit
def layB (pl : Nat) (ly : Int) : Bool := !(decide (ly < -1) || decide ((pl : Int) ≤ ly))
def layL (m : Mem) (p : Sbs → Bool) (ly : Int) (h : firstN p m.subs < m.subs.length) : Mem := { m with subs := m.subs.set (firstN p m.subs) { m.subs[firstN p m.subs] with l := ly } }
set_option maxRecDepth 100000 in
set_option maxHeartbeats 8000000 in
theorem layer_some (gs gh gl o n c base i k t : Nat) (vS : Value) (S : List (List Nat)) (L : List (Mem × Value)) (hi : i < L.length) (hk : k < L.length) (ht : t = 0 ∨ t = 1) (kd nn rm ly : Int) (sf : Option Addr) (nf cf : Nat) (sc : Option Addr) (nc cc : Nat) (C : List Chg) (hnc : nc ≤ 100) (hns : L[i].1.subs.length ≤ 100) (w : World) (hbase : base ≤ w.heap.size) (h : HpB w gs (.cells (stC gh kd (i : Nat) nn rm (t : Nat) (k : Nat) ly sf nf cf gl (o + i * 9) (.slice sc nc cc)) 73)) (hH : HouseV w base gh vS (.slice (some ⟨gl, o, none⟩) n c) S L) (hq : EQ ECh 89 w base (.slice sc nc cc) nc C) (hlt : firstN (ofT (k : Nat) (t : Nat)) L[i].1.subs < L[i].1.subs.length) :
  Calls Try.prog 23 #[.pointer (some ⟨gs, 0, none⟩)] w fun e w' => OrP (layB (L[k].1.tk t).p.length ly) (RefP 1 w e w') (e = .returned (.tuple #[.int .i64 0, .int .i64 0]) ∧ StepQ w w' base gs gh gl o n c vS S L (L.set i (layL L[i].1 (ofT (k : Nat) (t : Nat)) ly hlt, L[i].2)) kd (i : Nat) nn rm (t : Nat) (k : Nat) ly sf nf cf (o + i * 9) 200 (.slice sc nc cc)) := by
 have hmf : ∀ (fn : Fn) (first cap : Array Value) (w : World), (Instr.makeFunc fn first cap).run Try.prog w = .ok (.func fn first cap) w := fun _ _ _ _ => rfl
 have hln : n = L.length := by
  obtain ⟨_, _, e, _⟩ := hH.mb.len
  cases e; rfl
 have hcn : n ≤ c ∧ c ≤ maxLen := by
  obtain ⟨_, _, e, k1, k2⟩ := hH.mb.len
  cases e
  exact ⟨by rw [hln]; exact k1, k2⟩
 unfold maxLen at hcn
 obtain ⟨hcn1, hcn2⟩ := hcn
 obtain ⟨va, vb, hm, -, -⟩ := hH.mem i hi
 have hsub := hH.sb L[i] (List.getElem_mem hi)
 obtain ⟨gq, oq, cm, hsm, -, -, hcm1, hcm2, -⟩ := hsub.form (by omega)
 unfold maxLen at hcm2
 have z7 := (hm 7 (by decide)).trans (show _ = some L[i].2 from rfl)
 rw [hsm] at z7 hsub
 obtain ⟨g2, o2, e2, -, hcell⟩ := sb_form hsub (by omega)
 cases e2
 have s9 := (hp_cell h 9).trans (show _ = some (.pointer (some ⟨gl, o + i * 9, none⟩)) from rfl)
 have cH := Lib.hid (sidxM base _ _ L[i].1.subs 35 gs (ofT (k : Nat) (t : Nat)) w hsub (by omega) (fun x _ wx hB => to_any gs gh kd (i : Nat) nn rm (t : Nat) (k : Nat) ly sf nf cf gl (o + i * 9) (.slice sc nc cc) x wx (h.bw hB)) enterTo)
 obtain ⟨vp, -, -, zp, hP⟩ := hH.tkc k hk t ht
 obtain ⟨sp, cp, rfl, hcp1, hcp2⟩ := hP.len
 unfold maxLen at hcp2
 have hR := hcell _ hlt
 have hR2 := Lib.hid (rangeAt_of hR rfl)
 have htrue := firstN_true _ _ hlt
 have hset : Hid (∀ y : World, BW w y → HouseV (y.setCell ⟨gq, oq + firstN (ofT (k : Nat) (t : Nat)) L[i].1.subs * 4 + 2, none⟩ (.int .i64 ly)) base gh vS (.slice (some ⟨gl, o, none⟩) n c) S (L.set i (layL L[i].1 (ofT (k : Nat) (t : Nat)) ly hlt, L[i].2))) := Lib.hid (fun (y : World) (hy : BW w y) => (hH.bw hy).setL i hi hsm _ hlt ly)
 generalize L.set i (layL L[i].1 (ofT (k : Nat) (t : Nat)) ly hlt, L[i].2) = L2 at *
 have hx : idxN (ofT (k : Nat) (t : Nat)) L[i].1.subs = (firstN (ofT (k : Nat) (t : Nat)) L[i].1.subs : Nat) := by
  unfold idxN
  exact if_pos hlt
 rw [hx] at cH
 have xo : (L[i].1.subs[firstN (ofT (k : Nat) (t : Nat)) L[i].1.subs]'hlt).o = (k : Nat) ∧ (L[i].1.subs[firstN (ofT (k : Nat) (t : Nat)) L[i].1.subs]'hlt).t = (t : Nat) := by simpa [ofT] using htrue
 have hlt0 := hlt
 generalize hu : L[i].1.subs[firstN (ofT (k : Nat) (t : Nat)) L[i].1.subs]'hlt = u at *
 obtain ⟨uo, ut, ul, us⟩ := u
 obtain ⟨rfl, rfl⟩ := xo
 have q0 := hR 0 (by decide)
 have q1 := hR 1 (by decide)
 have q2 := hR 2 (by decide)
 simp only [sbA, List.getElem?_toArray, List.getElem?_cons_zero, List.getElem?_cons_succ] at q0 q1 q2
 rw [Nat.add_zero] at q0
 have hkn : (k : Int) < (n : Int) := by rw [hln]; omega
 have ht2 : t < 2 := by omega
 have S1 := Lib.hid h
 have H1 := Lib.hid hH
 have Q1 := Lib.hid hq
 have hsb := Lib.hid hsub
 clear hm hsub hH h hq hcell hR htrue hx hu hlt ht
 generalize hpl : (L[k].1.tk (t : Nat)).p.length = pl at *
 generalize firstN (ofT (k : Nat) (t : Nat)) L[i].1.subs = at_ at *
 generalize hnse : L[i].1.subs.length = ns at *
 clear hP
 replace hsm := Lib.hid hsm
 replace hpl := Lib.hid hpl
 replace hnse := Lib.hid hnse
 replace hln := Lib.hid hln
 replace hbase := Lib.hid hbase
 go_enter Try.func23, Try.ntmps23
 go_wp2_with fail
 refine Calls.mono cH.out ?_
 rintro e w1 ⟨rfl, hb1⟩
 replace z7 := hb1.cell z7
 replace s9 := hb1.cell s9
 replace q0 := hb1.cell q0
 replace q1 := hb1.cell q1
 replace q2 := hb1.cell q2
 replace zp := hb1.cell zp
 replace hR2 := Lib.hid (rangeAt_bw hR2.out hb1)
 have s6 := (hp_cell (S1.out.bw hb1) 7).trans (show _ = some (.int .i64 ly) from rfl)
 have s0 := (hp_cell (S1.out.bw hb1) 0).trans (show _ = some (.pointer (some ⟨gh, 0, none⟩)) from rfl)
 have zh := (hp_cell (H1.out.bw hb1).hp 1).trans (show _ = some (.slice (some ⟨gl, o, none⟩) n c) from rfl)
 have B1 := Lib.hid hb1
 clear cH hb1
 dsimp only
 go_upto_region 5 with (fail)
 have B2 := Lib.hid (S1.out.bw B1.out)
 by_cases h1 : ly < -1
 ·have d1 : decide (ly < -1) = true := decide_eq_true h1
  have hB : layB pl ly = false := by unfold layB; rw [d1]; rfl
  have m6 : ∀ y : LaterS [] w1, _ := fun y => y.bw.cell s6
  clear q0 q1 q2 zp hR2 hset B2 z7 s9 s0 zh
  replace h1 := Lib.hid h1
  replace hB := Lib.hid hB
  try simp only [Act.put, List.setIfInBounds_toArray, List.set_cons_succ, List.set_cons_zero]
  refine wp_region_gg [] [] [] (by kernel_rfl) ?_
  refine hoist [] [] (a1 := ?_) 0 rfl (by kernel_rfl) (.inl ⟨rfl, rfl⟩) rfl rfl rfl (fun x K hK => ?_) ?_
  rotate_left
  ·go_big_quiet_op
   exact hK
  refine hoist [] [] (a1 := ?_) 1 rfl (by kernel_rfl) (.inl ⟨rfl, rfl⟩) rfl rfl rfl (fun x K hK => ?_) ?_
  rotate_left
  ·go_big_quiet_op
   exact hK
  refine hoist [] [] (a1 := ?_) 2 rfl (by kernel_rfl) (.inl ⟨rfl, rfl⟩) rfl rfl rfl (fun x K hK => ?_) ?_
  rotate_left
  ·go_big_quiet_op
   exact hK
  refine hoist [] [] (a1 := ?_) 3 rfl (by kernel_rfl) (.inl ⟨rfl, rfl⟩) rfl rfl rfl (fun x K hK => ?_) ?_
  rotate_left
  ·go_big_quiet_op
   exact hK
  refine hoist [] [] (a1 := ?_) 4 rfl (by kernel_rfl) (.inl ⟨rfl, rfl⟩) rfl rfl rfl (fun x K hK => ?_) ?_
  rotate_left
  ·go_big_quiet_op
   exact hK
  refine hoist [] [] (a1 := ?_) 5 rfl (by kernel_rfl) (.inl ⟨rfl, rfl⟩) rfl rfl rfl (fun x K hK => ?_) ?_
  rotate_left
  ·go_big_quiet_op
   exact hK
  refine hoist [] [] (a1 := ?_) 6 rfl (by kernel_rfl) (.inl ⟨rfl, rfl⟩) rfl rfl rfl (fun x K hK => ?_) ?_
  rotate_left
  ·go_big_quiet_op
   exact hK
  refine hoist_skip [] [] 7 rfl (by kernel_rfl) (.inl ⟨rfl, rfl⟩) rfl (a1 := ?_) ?_ ?_
  rotate_left
  ·simp only [Act.put, List.setIfInBounds_toArray, List.set_cons_succ, List.set_cons_zero]; rfl
  refine hoist_skip [] [] 8 rfl (by kernel_rfl) (.inl ⟨rfl, rfl⟩) rfl (a1 := ?_) ?_ ?_
  rotate_left
  ·simp only [Act.put, List.setIfInBounds_toArray, List.set_cons_succ, List.set_cons_zero]; rfl
  refine hoist_skip [] [] 9 rfl (by kernel_rfl) (.inl ⟨rfl, rfl⟩) rfl (a1 := ?_) ?_ ?_
  rotate_left
  ·simp only [Act.put, List.setIfInBounds_toArray, List.set_cons_succ, List.set_cons_zero]; rfl
  refine hoist_skip [] [] 10 rfl (by kernel_rfl) (.inl ⟨rfl, rfl⟩) rfl (a1 := ?_) ?_ ?_
  rotate_left
  ·simp only [Act.put, List.setIfInBounds_toArray, List.set_cons_succ, List.set_cons_zero]; rfl
  refine hoist_skip [] [] 11 rfl (by kernel_rfl) (.inl ⟨rfl, rfl⟩) rfl (a1 := ?_) ?_ ?_
  rotate_left
  ·simp only [Act.put, List.setIfInBounds_toArray, List.set_cons_succ, List.set_cons_zero]; rfl
  refine hoist_skip [] [] 12 rfl (by kernel_rfl) (.inl ⟨rfl, rfl⟩) rfl (a1 := ?_) ?_ ?_
  rotate_left
  ·simp only [Act.put, List.setIfInBounds_toArray, List.set_cons_succ, List.set_cons_zero]; rfl
  refine hoist_skip [] [] 13 rfl (by kernel_rfl) (.inl ⟨rfl, rfl⟩) rfl (a1 := ?_) ?_ ?_
  rotate_left
  ·simp only [Act.put, List.setIfInBounds_toArray, List.set_cons_succ, List.set_cons_zero]; rfl
  refine hoist_skip [] [] 14 rfl (by kernel_rfl) (.inl ⟨rfl, rfl⟩) rfl (a1 := ?_) ?_ ?_
  rotate_left
  ·simp only [Act.put, List.setIfInBounds_toArray, List.set_cons_succ, List.set_cons_zero]; rfl
  refine hoist_skip [] [] 15 rfl (by kernel_rfl) (.inl ⟨rfl, rfl⟩) rfl (a1 := ?_) ?_ ?_
  rotate_left
  ·simp only [Act.put, List.setIfInBounds_toArray, List.set_cons_succ, List.set_cons_zero]; rfl
  refine hoist_skip [] [] 16 rfl (by kernel_rfl) (.inl ⟨rfl, rfl⟩) rfl (a1 := ?_) ?_ ?_
  rotate_left
  ·simp only [Act.put, List.setIfInBounds_toArray, List.set_cons_succ, List.set_cons_zero]; rfl
  refine hoist_skip [] [] 17 rfl (by kernel_rfl) (.inl ⟨rfl, rfl⟩) rfl (a1 := ?_) ?_ ?_
  rotate_left
  ·simp only [Act.put, List.setIfInBounds_toArray, List.set_cons_succ, List.set_cons_zero]; rfl
  refine hoist_skip [] [] 18 rfl (by kernel_rfl) (.inl ⟨rfl, rfl⟩) rfl (a1 := ?_) ?_ ?_
  rotate_left
  ·simp only [Act.put, List.setIfInBounds_toArray, List.set_cons_succ, List.set_cons_zero]; rfl
  refine hoist_skip [] [] 19 rfl (by kernel_rfl) (.inl ⟨rfl, rfl⟩) rfl (a1 := ?_) ?_ ?_
  rotate_left
  ·simp only [Act.put, List.setIfInBounds_toArray, List.set_cons_succ, List.set_cons_zero]; rfl
  refine hoist_skip [] [] 20 rfl (by kernel_rfl) (.inl ⟨rfl, rfl⟩) rfl (a1 := ?_) ?_ ?_
  rotate_left
  ·simp only [Act.put, List.setIfInBounds_toArray, List.set_cons_succ, List.set_cons_zero]; rfl
  refine hoist_skip [] [] 21 rfl (by kernel_rfl) (.inl ⟨rfl, rfl⟩) rfl (a1 := ?_) ?_ ?_
  rotate_left
  ·simp only [Act.put, List.setIfInBounds_toArray, List.set_cons_succ, List.set_cons_zero]; rfl
  refine hoist_skip [] [] 22 rfl (by kernel_rfl) (.inl ⟨rfl, rfl⟩) rfl (a1 := ?_) ?_ ?_
  rotate_left
  ·simp only [Act.put, List.setIfInBounds_toArray, List.set_cons_succ, List.set_cons_zero]; rfl
  refine hoist_skip [] [] 23 rfl (by kernel_rfl) (.inl ⟨rfl, rfl⟩) rfl (a1 := ?_) ?_ ?_
  rotate_left
  ·simp only [Act.put, List.setIfInBounds_toArray, List.set_cons_succ, List.set_cons_zero]; rfl
  refine hoist_skip [] [] 24 rfl (by kernel_rfl) (.inl ⟨rfl, rfl⟩) rfl (a1 := ?_) ?_ ?_
  rotate_left
  ·simp only [Act.put, List.setIfInBounds_toArray, List.set_cons_succ, List.set_cons_zero]; rfl
  refine hoist_skip [] [] 25 rfl (by kernel_rfl) (.inl ⟨rfl, rfl⟩) rfl (a1 := ?_) ?_ ?_
  rotate_left
  ·simp only [Act.put, List.setIfInBounds_toArray, List.set_cons_succ, List.set_cons_zero]; rfl
  refine hoist_skip [] [] 26 rfl (by kernel_rfl) (.inl ⟨rfl, rfl⟩) rfl (a1 := ?_) ?_ ?_
  rotate_left
  ·simp only [Act.put, List.setIfInBounds_toArray, List.set_cons_succ, List.set_cons_zero]; rfl
  refine hoist_skip [] [] 27 rfl (by kernel_rfl) (.inl ⟨rfl, rfl⟩) rfl (a1 := ?_) ?_ ?_
  rotate_left
  ·simp only [Act.put, List.setIfInBounds_toArray, List.set_cons_succ, List.set_cons_zero]; rfl
  refine hoist_skip [] [] 28 rfl (by kernel_rfl) (.inl ⟨rfl, rfl⟩) rfl (a1 := ?_) ?_ ?_
  rotate_left
  ·simp only [Act.put, List.setIfInBounds_toArray, List.set_cons_succ, List.set_cons_zero]; rfl
  refine hoist_skip [] [] 29 rfl (by kernel_rfl) (.inl ⟨rfl, rfl⟩) rfl (a1 := ?_) ?_ ?_
  rotate_left
  ·simp only [Act.put, List.setIfInBounds_toArray, List.set_cons_succ, List.set_cons_zero]; rfl
  refine hoist_skip [] [] 30 rfl (by kernel_rfl) (.inl ⟨rfl, rfl⟩) rfl (a1 := ?_) ?_ ?_
  rotate_left
  ·simp only [Act.put, List.setIfInBounds_toArray, List.set_cons_succ, List.set_cons_zero]; rfl
  refine hoist_skip [] [] 31 rfl (by kernel_rfl) (.inl ⟨rfl, rfl⟩) rfl (a1 := ?_) ?_ ?_
  rotate_left
  ·simp only [Act.put, List.setIfInBounds_toArray, List.set_cons_succ, List.set_cons_zero]; rfl
  refine hoist_skip [] [] 32 rfl (by kernel_rfl) (.inl ⟨rfl, rfl⟩) rfl (a1 := ?_) ?_ ?_
  rotate_left
  ·simp only [Act.put, List.setIfInBounds_toArray, List.set_cons_succ, List.set_cons_zero]; rfl
  refine hoist_skip [] [] 33 rfl (by kernel_rfl) (.inl ⟨rfl, rfl⟩) rfl (a1 := ?_) ?_ ?_
  rotate_left
  ·simp only [Act.put, List.setIfInBounds_toArray, List.set_cons_succ, List.set_cons_zero]; rfl
  refine hoist [] [] (a1 := ?_) 34 rfl (by kernel_rfl) (.inl ⟨rfl, rfl⟩) rfl rfl rfl (fun x K hK => ?_) ?_
  rotate_left
  ·go_big_quiet_op
   exact hK
  refine done (by kernel_rfl) (fun xr => ?_)
  have B3 := Lib.hid (B1.out.trans xr.bw)
  clear m6
  generalize xr.now = w2 at *
  go_wp2_with fail
  go_ret2
  rw [hB.out]
  exact OrP.no ⟨rfl, B3.out⟩
 have d1 : decide (ly < -1) = false := decide_eq_false h1
 have m6 : ∀ y : LaterS [] w1, _ := fun y => y.bw.cell s6
 have m0 : ∀ y : LaterS [] w1, _ := fun y => y.bw.cell s0
 have mh : ∀ y : LaterS [] w1, _ := fun y => y.bw.cell zh
 have mq0 : ∀ y : LaterS [] w1, _ := fun y => y.bw.cell q0
 have mq1 : ∀ y : LaterS [] w1, _ := fun y => y.bw.cell q1
 have mp : ∀ y : LaterS [] w1, _ := fun y => y.bw.cell zp
 clear B2 z7 s0 zh zp q0 q1
 try simp only [Act.put, List.setIfInBounds_toArray, List.set_cons_succ, List.set_cons_zero]
 refine wp_region_gg [] [] [] (by kernel_rfl) ?_
 refine hoist [] [] (a1 := ?_) 0 rfl (by kernel_rfl) (.inl ⟨rfl, rfl⟩) rfl rfl rfl (fun x K hK => ?_) ?_
 rotate_left
 ·go_big_quiet_op
  exact hK
 refine hoist [] [] (a1 := ?_) 1 rfl (by kernel_rfl) (.inl ⟨rfl, rfl⟩) rfl rfl rfl (fun x K hK => ?_) ?_
 rotate_left
 ·go_big_quiet_op
  exact hK
 refine hoist [] [] (a1 := ?_) 2 rfl (by kernel_rfl) (.inl ⟨rfl, rfl⟩) rfl rfl rfl (fun x K hK => ?_) ?_
 rotate_left
 ·go_big_quiet_op
  exact hK
 refine hoist [] [] (a1 := ?_) 3 rfl (by kernel_rfl) (.inl ⟨rfl, rfl⟩) rfl rfl rfl (fun x K hK => ?_) ?_
 rotate_left
 ·go_big_quiet_op
  exact hK
 refine hoist [] [] (a1 := ?_) 4 rfl (by kernel_rfl) (.inl ⟨rfl, rfl⟩) rfl rfl rfl (fun x K hK => ?_) ?_
 rotate_left
 ·go_big_quiet_op
  exact hK
 refine hoist [] [] (a1 := ?_) 5 rfl (by kernel_rfl) (.inl ⟨rfl, rfl⟩) rfl rfl rfl (fun x K hK => ?_) ?_
 rotate_left
 ·go_big_quiet_op
  exact hK
 refine hoist [] [] (a1 := ?_) 6 rfl (by kernel_rfl) (.inl ⟨rfl, rfl⟩) rfl rfl rfl (fun x K hK => ?_) ?_
 rotate_left
 ·go_big_quiet_op
  exact hK
 refine hoist [] [] (a1 := ?_) 7 rfl (by kernel_rfl) (.inl ⟨rfl, rfl⟩) rfl rfl rfl (fun x K hK => ?_) ?_
 rotate_left
 ·go_big_quiet_op
  exact hK
 refine hoist [] [] (a1 := ?_) 8 rfl (by kernel_rfl) (.inl ⟨rfl, rfl⟩) rfl rfl rfl (fun x K hK => ?_) ?_
 rotate_left
 ·go_big_quiet_op
  exact hK
 refine hoist [] [] (a1 := ?_) 9 rfl (by kernel_rfl) (.inl ⟨rfl, rfl⟩) rfl rfl rfl (fun x K hK => ?_) ?_
 rotate_left
 ·go_big_quiet_op
  exact hK
 refine hoist [] [] (a1 := ?_) 10 rfl (by kernel_rfl) (.inl ⟨rfl, rfl⟩) rfl rfl rfl (fun x K hK => ?_) ?_
 rotate_left
 ·go_big_quiet_op
  exact hK
 refine hoist [] [] (a1 := ?_) 11 rfl (by kernel_rfl) (.inl ⟨rfl, rfl⟩) rfl rfl rfl (fun x K hK => ?_) ?_
 rotate_left
 ·go_big_quiet_op
  exact hK
 refine hoist [] [] (a1 := ?_) 12 rfl (by kernel_rfl) (.inl ⟨rfl, rfl⟩) rfl rfl rfl (fun x K hK => ?_) ?_
 rotate_left
 ·go_big_quiet_op
  exact hK
 refine hoist [] [] (a1 := ?_) 13 rfl (by kernel_rfl) (.inl ⟨rfl, rfl⟩) rfl rfl rfl (fun x K hK => ?_) ?_
 rotate_left
 ·go_big_quiet_op
  exact hK
 refine hoist [] [] (a1 := ?_) 14 rfl (by kernel_rfl) (.inl ⟨rfl, rfl⟩) rfl rfl rfl (fun x K hK => ?_) ?_
 rotate_left
 ·go_big_quiet_op
  exact hK
 refine hoist [] [] (a1 := ?_) 15 rfl (by kernel_rfl) (.inl ⟨rfl, rfl⟩) rfl rfl rfl (fun x K hK => ?_) ?_
 rotate_left
 ·go_big_quiet_op
  exact hK
 refine hoist [] [] (a1 := ?_) 16 rfl (by kernel_rfl) (.inl ⟨rfl, rfl⟩) rfl rfl rfl (fun x K hK => ?_) ?_
 rotate_left
 ·go_big_quiet_op
  exact hK
 refine hoist [] [] (a1 := ?_) 17 rfl (by kernel_rfl) (.inl ⟨rfl, rfl⟩) rfl rfl rfl (fun x K hK => ?_) ?_
 rotate_left
 ·go_big_quiet_op
  exact hK
 refine hoist [] [] (a1 := ?_) 18 rfl (by kernel_rfl) (.inl ⟨rfl, rfl⟩) rfl rfl rfl (fun x K hK => ?_) ?_
 rotate_left
 ·go_big_quiet_op
  exact hK
 refine hoist [] [] (a1 := ?_) 19 rfl (by kernel_rfl) (.inl ⟨rfl, rfl⟩) rfl rfl rfl (fun x K hK => ?_) ?_
 rotate_left
 ·go_big_quiet_op
  exact hK
 refine hoist [] [] (a1 := ?_) 20 rfl (by kernel_rfl) (.inl ⟨rfl, rfl⟩) rfl rfl rfl (fun x K hK => ?_) ?_
 rotate_left
 ·go_big_quiet_op
  exact hK
 refine hoist [] [] (a1 := ?_) 21 rfl (by kernel_rfl) (.inl ⟨rfl, rfl⟩) rfl rfl rfl (fun x K hK => ?_) ?_
 rotate_left
 ·go_big_quiet_op
  exact hK
 refine hoist [] [] (a1 := ?_) 22 rfl (by kernel_rfl) (.inl ⟨rfl, rfl⟩) rfl rfl rfl (fun x K hK => ?_) ?_
 rotate_left
 ·go_big_quiet_op
  exact hK
 refine hoist [] [] (a1 := ?_) 23 rfl (by kernel_rfl) (.inl ⟨rfl, rfl⟩) rfl rfl rfl (fun x K hK => ?_) ?_
 rotate_left
 ·go_big_quiet_op
  exact hK
 refine hoist [] [] (a1 := ?_) 24 rfl (by kernel_rfl) (.inl ⟨rfl, rfl⟩) rfl rfl rfl (fun x K hK => ?_) ?_
 rotate_left
 ·go_big_quiet_op
  exact hK
 refine hoist [] [] (a1 := ?_) 25 rfl (by kernel_rfl) (.inl ⟨rfl, rfl⟩) rfl rfl rfl (fun x K hK => ?_) ?_
 rotate_left
 ·go_big_quiet_op
  exact hK
 refine hoist [] [] (a1 := ?_) 26 rfl (by kernel_rfl) (.inl ⟨rfl, rfl⟩) rfl rfl rfl (fun x K hK => ?_) ?_
 rotate_left
 ·go_big_quiet_op
  exact hK
 refine hoist [] [] (a1 := ?_) 27 rfl (by kernel_rfl) (.inl ⟨rfl, rfl⟩) rfl rfl rfl (fun x K hK => ?_) ?_
 rotate_left
 ·go_big_quiet_op
  exact hK
 refine hoist [] [] (a1 := ?_) 28 rfl (by kernel_rfl) (.inl ⟨rfl, rfl⟩) rfl rfl rfl (fun x K hK => ?_) ?_
 rotate_left
 ·go_big_quiet_op
  exact hK
 refine hoist [] [] (a1 := ?_) 29 rfl (by kernel_rfl) (.inl ⟨rfl, rfl⟩) rfl rfl rfl (fun x K hK => ?_) ?_
 rotate_left
 ·go_big_quiet_op
  exact hK
 refine hoist [] [] (a1 := ?_) 30 rfl (by kernel_rfl) (.inl ⟨rfl, rfl⟩) rfl rfl rfl (fun x K hK => ?_) ?_
 rotate_left
 ·go_big_quiet_op
  exact hK
 refine hoist [] [] (a1 := ?_) 31 rfl (by kernel_rfl) (.inl ⟨rfl, rfl⟩) rfl rfl rfl (fun x K hK => ?_) ?_
 rotate_left
 ·go_big_quiet_op
  exact hK
 refine hoist [] [] (a1 := ?_) 32 rfl (by kernel_rfl) (.inl ⟨rfl, rfl⟩) rfl rfl rfl (fun x K hK => ?_) ?_
 rotate_left
 ·go_big_quiet_op
  exact hK
 refine hoist [] [] (a1 := ?_) 33 rfl (by kernel_rfl) (.inl ⟨rfl, rfl⟩) rfl rfl rfl (fun x K hK => ?_) ?_
 rotate_left
 ·go_big_quiet_op
  exact hK
 refine hoist [] [] (a1 := ?_) 34 rfl (by kernel_rfl) (.inl ⟨rfl, rfl⟩) rfl rfl rfl (fun x K hK => ?_) ?_
 rotate_left
 ·go_big_quiet_op
  exact hK
 refine done (by kernel_rfl) (fun xr => ?_)
 replace B1 := Lib.hid (B1.out.trans xr.bw)
 replace s6 := xr.bw.cell s6
 replace q2 := xr.bw.cell q2
 replace hR2 := Lib.hid (rangeAt_bw hR2.out xr.bw)
 clear m6 m0 mh mq0 mq1 mp s9
 generalize xr.now = w2 at *
 clear xr
 by_cases h2 : (pl : Int) ≤ ly
 ·have d2 : decide ((pl : Int) ≤ ly) = true := decide_eq_true h2
  have d3 : decide (ly < (pl : Int)) = false := decide_eq_false (by omega)
  have hB : layB pl ly = false := by unfold layB; rw [d2]; simp
  clear hset q2 hR2
  simp only [ge_iff_le, d2, d3, Bool.not_true, Bool.not_false]
  replace h1 := Lib.hid h1
  replace h2 := Lib.hid h2
  replace hB := Lib.hid hB
  go_wp2_with fail
  go_ret2
  rw [hB.out]
  exact OrP.no ⟨rfl, B1.out⟩
 have d2 : decide ((pl : Int) ≤ ly) = false := decide_eq_false h2
 have d3 : decide (ly < (pl : Int)) = true := decide_eq_true (by omega)
 have hB : layB pl ly = true := by unfold layB; rw [d1, d2]; rfl
 have y2 : w2.frozen? ⟨gq, oq + at_ * 4 + 2, none⟩ = false := by
  obtain ⟨cr, hcr⟩ := hsb.out.row gq rfl
  exact hp_frz (B1.out.heap hcr) _
 have H2 := Lib.hid (hset.out w2 B1.out)
 have T2 := still_sc w2 gq (oq + at_ * 4 + 2) (.int .i64 ly)
 have S2 := Lib.hid ((S1.out.bw B1.out).st T2 (fun hm => by
  obtain rfl : gs = gq := by simpa using hm
  obtain ⟨cr, hcr⟩ := hsb.out.row gs rfl
  have := S1.out.symm.trans hcr
  cases this))
 have Q2 := Lib.hid ((Q1.out.bw B1.out).still T2 (fun _ _ => trivial) (fun g hg hm => by
  obtain rfl : g = gq := by simpa using hm
  obtain ⟨cr, hcr⟩ := hsb.out.row g rfl
  exact Q1.out.ne hcr (by decide) _ hg rfl))
 have R2 : Hid ((w2.setCell ⟨gq, oq + at_ * 4 + 2, none⟩ (.int .i64 ly)).rangeAt gq (oq + at_ * 4) [.int .i64 (k : Nat), .int .i64 (t : Nat), .int .i64 ly, .int .u32 (us : Nat)]) := Lib.hid (rangeAt_set hR2.out 2 (show 2 < 4 by decide) (.int .i64 ly))
 clear hset
 simp only [ge_iff_le, d2, d3, Bool.not_true, Bool.not_false]
 replace h1 := Lib.hid h1
 replace h2 := Lib.hid h2
 replace hB := Lib.hid hB
 go_upto_region 8 with (fail)
 clear hR2 q2
 have T3 := Lib.hid ((B1.out.still (gs :: gl :: ((Value.slice sc nc cc).ownBlock.toList ++ hsB L))).trans (T2.weaken (fun x hx => by
  obtain rfl : x = gq := by simpa using hx
  have := hsB_mem hi (g := x) (by rw [hsm.out]; rfl)
  simp [this])))
 clear T2 S1 H1 Q1
 generalize w2.setCell ⟨gq, oq + at_ * 4 + 2, none⟩ (.int .i64 ly) = w3 at *
 have s2 := (hp_cell S2.out 2).trans (show _ = some (.int .i64 (i : Nat)) from rfl)
 have m2 : ∀ y : LaterS [] w3, _ := fun y => y.bw.cell s2
 clear s2 y2 s6
 try simp only [Act.put, List.setIfInBounds_toArray, List.set_cons_succ, List.set_cons_zero]
 refine wp_region_gg [] [] [10] (by kernel_rfl) ?_
 refine hoist [] [] (a1 := ?_) 0 rfl (by kernel_rfl) (.inl ⟨rfl, rfl⟩) rfl rfl rfl (fun x K hK => ?_) ?_
 rotate_left
 ·go_big_quiet_op
  exact hK
 refine hoist [] [] (a1 := ?_) 1 rfl (by kernel_rfl) (.inl ⟨rfl, rfl⟩) rfl rfl rfl (fun x K hK => ?_) ?_
 rotate_left
 ·go_big_quiet_op
  exact hK
 refine hoist [] [] (a1 := ?_) 2 rfl (by kernel_rfl) (.inl ⟨rfl, rfl⟩) rfl rfl rfl (fun x K hK => ?_) ?_
 rotate_left
 ·go_big_quiet_op
  exact hK
 refine hoist [] [] (a1 := ?_) 3 rfl (by kernel_rfl) (.inl ⟨rfl, rfl⟩) rfl rfl rfl (fun x K hK => ?_) ?_
 rotate_left
 ·go_big_quiet_op
  exact hK
 refine hoist [] [] (a1 := ?_) 4 rfl (by kernel_rfl) (.inl ⟨rfl, rfl⟩) rfl rfl rfl (fun x K hK => ?_) ?_
 rotate_left
 ·go_big_quiet_op
  exact hK
 refine hoist [] [] (a1 := ?_) 5 rfl (by kernel_rfl) (.inl ⟨rfl, rfl⟩) rfl rfl rfl (fun x K hK => ?_) ?_
 rotate_left
 ·go_big_quiet_op
  exact hK
 refine hoist [] [] (a1 := ?_) 6 rfl (by kernel_rfl) (.inl ⟨rfl, rfl⟩) rfl rfl rfl (fun x K hK => ?_) ?_
 rotate_left
 ·go_big_quiet_op
  exact hK
 refine hoist [] [] (a1 := ?_) 7 rfl (by kernel_rfl) (.inl ⟨rfl, rfl⟩) rfl rfl rfl (fun x K hK => ?_) ?_
 rotate_left
 ·go_big_quiet_op
  exact hK
 refine hoist [] [] (a1 := ?_) 8 rfl (by kernel_rfl) (.inl ⟨rfl, rfl⟩) rfl rfl rfl (fun x K hK => ?_) ?_
 rotate_left
 ·refine swQl swSb (l := [.int .i64 (k : Nat), .int .i64 (t : Nat), .int .i64 ly, .int .u32 (us : Nat)]) rfl (by rfl) rfl (fun w' hw => by subst hw; exact rangeAt_bw R2.out x.bw) (by simp only [Act.put, List.setIfInBounds_toArray, List.set_cons_succ, List.set_cons_zero]; rfl) ?_
  exact hK
 refine effect 9 rfl (by kernel_rfl) (by kernel_rfl) rfl (fun x9 K hK => ?_)
 go_simp
 refine hK _ _ (Still.of_below ((Below.refl _ _).alloc (Nat.le_refl _) _)) ?_
 clear hK K m2
 have B6 := Lib.hid (x9.bw.alloc (o := .cells #[.int .i64 (k : Nat), .int .i64 (t : Nat), .int .i64 ly, .int .u32 (us : Nat)] 50))
 have X6 := Lib.hid (HpB.new x9.now (.cells #[.int .i64 (k : Nat), .int .i64 (t : Nat), .int .i64 ly, .int .u32 (us : Nat)] 50))
 generalize x9.now.alloc (.cells #[.int .i64 (k : Nat), .int .i64 (t : Nat), .int .i64 ly, .int .u32 (us : Nat)] 50) = w4 at *
 generalize x9.now.heap.size = gx at *
 try simp only [Act.put, List.setIfInBounds_toArray, List.set_cons_succ, List.set_cons_zero]
 refine tail 10 rfl (by kernel_rfl) rfl (fun xr => ?_)
 simp only [List.drop_succ_cons, List.drop_zero]
 have B7 := Lib.hid (B6.out.trans xr.bw)
 replace X6 := Lib.hid (X6.out.bw xr.bw)
 have S7 := Lib.hid (S2.out.bw B7.out)
 have H7 := Lib.hid (H2.out.bw B7.out)
 have Q7 := Lib.hid (Q2.out.bw B7.out)
 have T7 := Lib.hid (T3.out.trans (B7.out.still _))
 clear B6 B7 S2 H2 Q2 T3
 generalize xr.now = w5 at *
 clear xr
 have cC := Lib.hid (changed_one gs gh gx base kd (i : Nat) nn rm (t : Nat) (k : Nat) ly sf nf cf gl (o + i * 9) sc nc cc C 3 (i : Nat) ⟨(k : Nat), (t : Nat), ly, us⟩ (by omega) w5 (Nat.le_trans hbase.out T7.out.size) S7.out X6.out Q7.out)
 go_wp2_with fail
 refine Calls.mono cC.out ?_
 rintro e w6 ⟨rfl, s8, c8, S8, Q8, T8, G8⟩
 have H8 := Lib.hid (H7.out.st T8 (fun k hk => by
  rcases List.mem_cons.1 hk with rfl | hk
  ·exact ⟨_, _, _, S7.out, by decide⟩
  ·obtain ⟨cs, hcs⟩ := Q7.out.row k (by simpa using hk)
   exact ⟨cs, _, _, hcs, by decide⟩))
 have T9 := Lib.hid (T7.out.trans (T8.weaken (S' := gs :: gl :: ((Value.slice sc nc cc).ownBlock.toList ++ hsB L)) (fun x hx => by
  rcases List.mem_cons.1 hx with rfl | hx
  ·simp
  ·simp only [List.mem_cons, List.mem_append]
   exact .inr (.inr (.inl hx)))))
 have G9 := Lib.hid (fun j hj => (G8 j hj).imp_right (Nat.le_trans T7.out.size))
 replace S8 := Lib.hid S8
 replace Q8 := Lib.hid Q8
 clear cC T8 G8 S7 Q7 H7 T7 X6
 dsimp only
 go_wp2_with fail
 go_ret2
 rw [hB.out]
 exact OrP.yes ⟨rfl, ⟨s8, nc + 1, c8, _, by omega, S8.out, Q8.out, G9.out⟩, H8.out, T9.out⟩
end Go.Proofs.Ytebeifkgjhgmeaa
