/- A step: unpublish, done; printed by wip/gen/genRmS.py. No condition but the sizes'. -/
import Derived.Test.YtebeifkgjhgmeaaRmO
namespace Go.Proofs.Ytebeifkgjhgmeaa
open Go.RowKit
def unpM (H : List Mem) (i : Nat) (m : Mem) (t : Int) : List Mem := (H.set i (m.setTk t trk0)).mapIdx fun _ m => dropM (ofT i t) m
set_option maxRecDepth 100000 in
set_option maxHeartbeats 8000000 in
theorem unpub_yes (gs gh gl o n c base i : Nat) (vS : Value) (S : List (List Nat)) (L : List (Mem × Value)) (hi : i < L.length) (hL : L.length ≤ 6) (h4 : ∀ m ∈ L.map Prod.fst, m.subs.length ≤ 4) (kd nn rm tr ow ly : Int) (sf : Option Addr) (nf cf : Nat) (sc : Option Addr) (nc cc : Nat) (C : List Chg) (hnc : nc ≤ 100) (w : World) (hbase : base ≤ w.heap.size) (h : HpB w gs (.cells (stC gh kd (i : Nat) nn rm tr ow ly sf nf cf gl (o + i * 9) (.slice sc nc cc)) 73)) (hH : HouseV w base gh vS (.slice (some ⟨gl, o, none⟩) n c) S L) (hq : EQ ECh 89 w base (.slice sc nc cc) nc C) (hy : unpB L[i].1 tr = true) :
  Calls Try.prog 20 #[.pointer (some ⟨gs, 0, none⟩)] w fun e w' => e = .returned (.tuple #[.int .i64 0, .int .i64 0]) ∧ ∃ L' : List (Mem × Value), L'.map Prod.fst = unpM (L.map Prod.fst) i L[i].1 tr ∧ StepP w w' base gs gh gl o n c vS S L' kd (i : Nat) nn rm tr ow ly sf nf cf (o + i * 9) 200 (.slice sc nc cc) := by
 have hmf : ∀ (fn : Fn) (first cap : Array Value) (w : World), (Instr.makeFunc fn first cap).run Try.prog w = .ok (.func fn first cap) w := fun _ _ _ _ => rfl
 have hln : n = L.length := by
  obtain ⟨_, _, e, _⟩ := hH.mb.len
  cases e; rfl
 have hcn : n ≤ c ∧ c ≤ maxLen := by
  obtain ⟨_, _, e, k1, k2⟩ := hH.mb.len
  cases e
  exact ⟨by rw [hln]; exact k1, k2⟩
 unfold maxLen at hcn
 obtain ⟨hcn1, hcn2⟩ := hcn
 have s5 := (hp_cell h 5).trans (show _ = some (.int .i64 tr) from rfl)
 have s9 := (hp_cell h 9).trans (show _ = some (.pointer (some ⟨gl, o + i * 9, none⟩)) from rfl)
 unfold unpB at hy
 have cT : ∀ y : LaterS [] w, Calls Try.prog 28 #[.int .i64 tr] y.now fun e w' => e = .returned (.bool (decide (0 ≤ tr) && decide (tr < 2))) ∧ w' = y.now := fun y => (track_any tr y.now).mono fun _ _ ⟨k1, k2⟩ => ⟨k1, k2.symm⟩
 rw [Bool.and_eq_true] at hy
 obtain ⟨ht, his⟩ := hy
 rw [ht] at cT
 simp only [Bool.and_eq_true, decide_eq_true_eq] at ht
 obtain ⟨t, rfl, ht2⟩ : ∃ t : Nat, tr = (t : Int) ∧ (t = 0 ∨ t = 1) := ⟨tr.toNat, by omega, by omega⟩
 obtain ⟨vp, z1, -, -, -⟩ := hH.tkc i hi t ht2
 rw [his] at z1
 have hnL := Lib.hid hln
 have h4h : Hid (∀ m ∈ (L.map Prod.fst).set i (L[i].1.setTk t trk0), m.subs.length ≤ 4) := Lib.hid (fun m hm => by
  rcases List.mem_or_eq_of_mem_set hm with hm | rfl
  ·exact h4 m hm
  ·rw [setTk_subs]; exact h4 _ (List.mem_map.2 ⟨_, List.getElem_mem hi, rfl⟩))
 have S1 := Lib.hid h
 have H1 := Lib.hid hH
 have Q1 := Lib.hid hq
 clear hH h hq ht h4 his
 have ht1 : t < 2 := by omega
 replace cT := Lib.hid cT
 replace hL := Lib.hid hL
 replace hln := Lib.hid hln
 replace hbase := Lib.hid hbase
 rcases ht2 with rfl | rfl
 ·go_enter Try.func20, Try.ntmps20
  go_upto_region 1 with (fail)
  have m5 : ∀ y : LaterS [] w, _ := fun y => y.bw.cell s5
  have m9 : ∀ y : LaterS [] w, _ := fun y => y.bw.cell s9
  have m1 : ∀ y : LaterS [] w, _ := fun y => y.bw.cell z1
  refine wp_region_gg [] [] [] (by kernel_rfl) ?_
  refine hoist [] [] (a1 := ?_) 0 rfl (by kernel_rfl) (.inl ⟨rfl, rfl⟩) rfl rfl rfl (fun x K hK => ?_) ?_
  rotate_left
  ·go_big_quiet_op
   exact hK
  refine hoist [] [] (a1 := ?_) 1 rfl (by kernel_rfl) (.inl ⟨rfl, rfl⟩) rfl rfl rfl (fun x K hK => ?_) ?_
  rotate_left
  ·go_big_quiet_op
   exact hK
  refine hoist [] [] (a1 := ?_) 2 rfl (by kernel_rfl) (.inl ⟨rfl, rfl⟩) rfl rfl rfl (fun x K hK => ?_) ?_
  rotate_left
  ·go_big_quiet_op
   exact hK
  refine hoist [] [] (a1 := ?_) 3 rfl (by kernel_rfl) (.inl ⟨rfl, rfl⟩) rfl rfl rfl (fun x K hK => ?_) ?_
  rotate_left
  ·go_big_quiet_op
   exact hK
  refine hoist [] [] (a1 := ?_) 4 rfl (by kernel_rfl) (.inl ⟨rfl, rfl⟩) rfl rfl rfl (fun x K hK => ?_) ?_
  rotate_left
  ·go_big_quiet_op
   exact hK
  refine hoist_call [] [] (a1 := ?_) 5 rfl (by kernel_rfl) (.inl ⟨rfl, rfl⟩) rfl rfl rfl (fun x K hK => ?_) ?_
  rotate_left
  ·go_big_quiet_op
   apply Exists.intro
   refine ⟨fun y => ?_, ?_⟩
   ·exact Calls.laterS_same (cT.out ⟨y.now, x.ok.trans y.ok⟩)
   ·exact hK
  refine hoist [] [] (a1 := ?_) 6 rfl (by kernel_rfl) (.inl ⟨rfl, rfl⟩) rfl rfl rfl (fun x K hK => ?_) ?_
  rotate_left
  ·go_big_quiet_op
   exact hK
  refine hoist [] [] (a1 := ?_) 7 rfl (by kernel_rfl) (.inl ⟨rfl, rfl⟩) rfl rfl rfl (fun x K hK => ?_) ?_
  rotate_left
  ·go_big_quiet_op
   exact hK
  refine hoist [] [] (a1 := ?_) 8 rfl (by kernel_rfl) (.inl ⟨rfl, rfl⟩) rfl rfl rfl (fun x K hK => ?_) ?_
  rotate_left
  ·go_big_quiet_op
   exact hK
  refine hoist [] [] (a1 := ?_) 9 rfl (by kernel_rfl) (.inl ⟨rfl, rfl⟩) rfl rfl rfl (fun x K hK => ?_) ?_
  rotate_left
  ·go_big_quiet_op
   exact hK
  refine hoist [] [] (a1 := ?_) 10 rfl (by kernel_rfl) (.inl ⟨rfl, rfl⟩) rfl rfl rfl (fun x K hK => ?_) ?_
  rotate_left
  ·go_big_quiet_op
   exact hK
  refine hoist [] [] (a1 := ?_) 11 rfl (by kernel_rfl) (.inl ⟨rfl, rfl⟩) rfl rfl rfl (fun x K hK => ?_) ?_
  rotate_left
  ·go_big_quiet_op
   exact hK
  refine hoist [] [] (a1 := ?_) 12 rfl (by kernel_rfl) (.inl ⟨rfl, rfl⟩) rfl rfl rfl (fun x K hK => ?_) ?_
  rotate_left
  ·go_big_quiet_op
   exact hK
  refine hoist [] [] (a1 := ?_) 13 rfl (by kernel_rfl) (.inl ⟨rfl, rfl⟩) rfl rfl rfl (fun x K hK => ?_) ?_
  rotate_left
  ·go_big_quiet_op
   exact hK
  refine hoist [] [] (a1 := ?_) 14 rfl (by kernel_rfl) (.inl ⟨rfl, rfl⟩) rfl rfl rfl (fun x K hK => ?_) ?_
  rotate_left
  ·go_big_quiet_op
   exact hK
  refine hoist [] [] (a1 := ?_) 15 rfl (by kernel_rfl) (.inl ⟨rfl, rfl⟩) rfl rfl rfl (fun x K hK => ?_) ?_
  rotate_left
  ·go_big_quiet_op
   exact hK
  refine hoist [] [] (a1 := ?_) 16 rfl (by kernel_rfl) (.inl ⟨rfl, rfl⟩) rfl rfl rfl (fun x K hK => ?_) ?_
  rotate_left
  ·go_big_quiet_op
   exact hK
  refine hoist [] [] (a1 := ?_) 17 rfl (by kernel_rfl) (.inl ⟨rfl, rfl⟩) rfl rfl rfl (fun x K hK => ?_) ?_
  rotate_left
  ·go_big_quiet_op
   exact hK
  refine hoist [] [] (a1 := ?_) 18 rfl (by kernel_rfl) (.inl ⟨rfl, rfl⟩) rfl rfl rfl (fun x K hK => ?_) ?_
  rotate_left
  ·go_big_quiet_op
   exact hK
  refine hoist [] [] (a1 := ?_) 19 rfl (by kernel_rfl) (.inl ⟨rfl, rfl⟩) rfl rfl rfl (fun x K hK => ?_) ?_
  rotate_left
  ·go_big_quiet_op
   exact hK
  refine hoist [] [] (a1 := ?_) 20 rfl (by kernel_rfl) (.inl ⟨rfl, rfl⟩) rfl rfl rfl (fun x K hK => ?_) ?_
  rotate_left
  ·go_big_quiet_op
   exact hK
  refine hoist [] [] (a1 := ?_) 21 rfl (by kernel_rfl) (.inl ⟨rfl, rfl⟩) rfl rfl rfl (fun x K hK => ?_) ?_
  rotate_left
  ·go_big_quiet_op
   exact hK
  refine hoist [] [] (a1 := ?_) 22 rfl (by kernel_rfl) (.inl ⟨rfl, rfl⟩) rfl rfl rfl (fun x K hK => ?_) ?_
  rotate_left
  ·go_big_quiet_op
   exact hK
  refine hoist [] [] (a1 := ?_) 23 rfl (by kernel_rfl) (.inl ⟨rfl, rfl⟩) rfl rfl rfl (fun x K hK => ?_) ?_
  rotate_left
  ·go_big_quiet_op
   exact hK
  refine done (by kernel_rfl) (fun xr => ?_)
  have B1 := Lib.hid xr.bw
  replace s5 := xr.bw.cell s5
  replace s9 := xr.bw.cell s9
  replace S1 := Lib.hid (S1.out.bw xr.bw)
  replace H1 := Lib.hid (H1.out.bw xr.bw)
  replace Q1 := Lib.hid (Q1.out.bw xr.bw)
  clear m5 m1 m9 z1 cT
  generalize xr.now = w1 at *
  clear xr
  go_upto_region 3 with (fail)
  have m5 : ∀ y : LaterS [] w1, _ := fun y => y.bw.cell s5
  have m9 : ∀ y : LaterS [] w1, _ := fun y => y.bw.cell s9
  refine wp_region_gg [] [] [12] (by kernel_rfl) ?_
  refine hoist [] [] (a1 := ?_) 0 rfl (by kernel_rfl) (.inl ⟨rfl, rfl⟩) rfl rfl rfl (fun x K hK => ?_) ?_
  rotate_left
  ·go_big_quiet_op
   exact hK
  refine hoist [] [] (a1 := ?_) 1 rfl (by kernel_rfl) (.inl ⟨rfl, rfl⟩) rfl rfl rfl (fun x K hK => ?_) ?_
  rotate_left
  ·go_big_quiet_op
   exact hK
  refine hoist [] [] (a1 := ?_) 2 rfl (by kernel_rfl) (.inl ⟨rfl, rfl⟩) rfl rfl rfl (fun x K hK => ?_) ?_
  rotate_left
  ·go_big_quiet_op
   exact hK
  refine hoist [] [] (a1 := ?_) 3 rfl (by kernel_rfl) (.inl ⟨rfl, rfl⟩) rfl rfl rfl (fun x K hK => ?_) ?_
  rotate_left
  ·go_big_quiet_op
   exact hK
  refine hoist [] [] (a1 := ?_) 4 rfl (by kernel_rfl) (.inl ⟨rfl, rfl⟩) rfl rfl rfl (fun x K hK => ?_) ?_
  rotate_left
  ·go_big_quiet_op
   exact hK
  refine hoist [] [] (a1 := ?_) 5 rfl (by kernel_rfl) (.inl ⟨rfl, rfl⟩) rfl rfl rfl (fun x K hK => ?_) ?_
  rotate_left
  ·go_big_quiet_op
   exact hK
  refine hoist [] [] (a1 := ?_) 6 rfl (by kernel_rfl) (.inl ⟨rfl, rfl⟩) rfl rfl rfl (fun x K hK => ?_) ?_
  rotate_left
  ·go_big_quiet_op
   exact hK
  refine hoist [] [] (a1 := ?_) 7 rfl (by kernel_rfl) (.inl ⟨rfl, rfl⟩) rfl rfl rfl (fun x K hK => ?_) ?_
  rotate_left
  ·go_big_quiet_op
   exact hK
  refine hoist [] [] (a1 := ?_) 8 rfl (by kernel_rfl) (.inl ⟨rfl, rfl⟩) rfl rfl rfl (fun x K hK => ?_) ?_
  rotate_left
  ·go_big_quiet_op
   exact hK
  refine hoist [] [] (a1 := ?_) 9 rfl (by kernel_rfl) (.inl ⟨rfl, rfl⟩) rfl rfl rfl (fun x K hK => ?_) ?_
  rotate_left
  ·go_big_quiet_op
   exact hK
  refine hoist [] [] (a1 := ?_) 10 rfl (by kernel_rfl) (.inl ⟨rfl, rfl⟩) rfl rfl rfl (fun x K hK => ?_) ?_
  rotate_left
  ·go_big_quiet_op
   exact hK
  refine hoist [] [] (a1 := ?_) 11 rfl (by kernel_rfl) (.inl ⟨rfl, rfl⟩) rfl rfl rfl (fun x K hK => ?_) ?_
  rotate_left
  ·go_big_quiet_op
   exact hK
  refine tail 12 rfl (by kernel_rfl) rfl (fun xr => ?_)
  simp only [List.drop_succ_cons, List.drop_zero]
  replace B1 := Lib.hid (B1.out.trans xr.bw)
  replace S1 := Lib.hid (S1.out.bw xr.bw)
  replace H1 := Lib.hid (H1.out.bw xr.bw)
  replace Q1 := Lib.hid (Q1.out.bw xr.bw)
  clear m5 m9 s5 s9
  generalize xr.now = w2 at *
  clear xr
  obtain ⟨cr, hcr⟩ := H1.out.row
  obtain ⟨va, vb, hm, -, -⟩ := H1.out.mem i hi
  have z1 : w2.cell? ⟨gl, o + i * 9 + 1, none⟩ = _ := hm 1 (by decide)
  have y1 : w2.frozen? ⟨gl, o + i * 9 + 1, none⟩ = false := hp_frz hcr _
  have z2 : w2.cell? ⟨gl, o + i * 9 + 1 + 1, none⟩ = _ := hm 2 (by decide)
  have y2 : w2.frozen? ⟨gl, o + i * 9 + 1 + 1, none⟩ = false := hp_frz hcr _
  have z3 : w2.cell? ⟨gl, o + i * 9 + 1 + 2, none⟩ = _ := hm 3 (by decide)
  have y3 : w2.frozen? ⟨gl, o + i * 9 + 1 + 2, none⟩ = false := hp_frz hcr _
  simp only [memC, List.getElem?_cons_zero, List.getElem?_cons_succ] at z1 z2 z3
  clear hm
  have H2 : Hid (HouseV (((w2.setCell ⟨gl, o + i * 9 + 1, none⟩ (.bool false)).setCell ⟨gl, o + i * 9 + 1 + 1, none⟩ (.int .i64 0)).setCell ⟨gl, o + i * 9 + 1 + 2, none⟩ (.slice none 0 0)) base gh vS (.slice (some ⟨gl, o, none⟩) n c) S (L.set i (L[i].1.setTk (0 : Nat) trk0, L[i].2))) := Lib.hid (H1.out.setTk0 i hi trk0 (.slice none 0 0) (EQ.nil ..))
  have T2 : Still [gl] w2 (((w2.setCell ⟨gl, o + i * 9 + 1, none⟩ (.bool false)).setCell ⟨gl, o + i * 9 + 1 + 1, none⟩ (.int .i64 0)).setCell ⟨gl, o + i * 9 + 1 + 2, none⟩ (.slice none 0 0)) := ((still_sc w2 gl _ _).trans (still_sc _ gl _ _)).trans (still_sc _ gl _ _)
  have S2 := Lib.hid (S1.out.st T2 (fun hm => by
   obtain rfl : gs = gl := by simpa using hm
   have := S1.out.symm.trans hcr
   cases this))
  have Q2 := Lib.hid (Q1.out.still T2 (fun _ _ => trivial) (fun g hg hm => by
   obtain rfl : g = gl := by simpa using hm
   exact Q1.out.ne hcr (by decide) _ hg rfl))
  have T3 := Lib.hid ((B1.out.still (gs :: gl :: (Value.slice sc nc cc).ownBlock.toList)).trans (T2.weaken (fun x hx => by
   obtain rfl : x = gl := by simpa using hx
   simp)))
  clear T2 S1 H1 Q1 hcr
  go_upto_region 4 with (fail)
  clear z1 y1 z2 y2 z3 y3
  generalize ((w2.setCell ⟨gl, o + i * 9 + 1, none⟩ (.bool false)).setCell ⟨gl, o + i * 9 + 1 + 1, none⟩ (.int .i64 0)).setCell ⟨gl, o + i * 9 + 1 + 2, none⟩ (.slice none 0 0) = w3 at *
  clear B1
  clear w1 w2
  have hl2 : Hid ((L.set i (L[i].1.setTk (0 : Nat) trk0, L[i].2)).length = L.length) := Lib.hid (List.length_set ..)
  have hL2 : Hid ((L.set i (L[i].1.setTk (0 : Nat) trk0, L[i].2)).map Prod.fst = drK (fun _ _ => false) (ofT i (0 : Nat)) 0 ((L.map Prod.fst).set i (L[i].1.setTk (0 : Nat) trk0))) := Lib.hid (by rw [drK_none, map_set_fst])
  generalize hLz : L.set i (L[i].1.setTk (0 : Nat) trk0, L[i].2) = L2 at *
  clear hLz
  generalize hHm : (L.map Prod.fst).set i (L[i].1.setTk (0 : Nat) trk0) = H0 at *
  replace hHm := Lib.hid hHm
  have z0 := (hp_cell S2.out 0).trans (show _ = some (.pointer (some ⟨gh, 0, none⟩)) from rfl)
  have zh := (hp_cell H2.out.hp 1).trans (show _ = some (.slice (some ⟨gl, o, none⟩) n c) from rfl)
  go_upto_region 5 with (fail)
  clear z0 zh
  go_loopg [50] n (fun m' ix wx => ∃ (k : Nat) (sk : Option Addr) (nk ck : Nat) (Ck : List Chg) (Lk : List (Mem × Value)), m' = n - k ∧ k ≤ n ∧ ix = .int .i64 (k : Nat) ∧ nk ≤ 104 + 4 * k ∧ Hid (Lk.length = L.length) ∧ Hid (Lk.map Prod.fst = drK (fun _ _ => false) (ofT i (0 : Nat)) k H0) ∧ Hid (HpB wx gs (.cells (stC gh kd (i : Nat) nn rm (0 : Nat) ow ly sf nf cf gl (o + i * 9) (.slice sk nk ck)) 73)) ∧ Hid (EQ ECh 89 wx base (.slice sk nk ck) nk Ck) ∧ Hid (HouseV wx base gh vS (.slice (some ⟨gl, o, none⟩) n c) S Lk) ∧ Hid (Still (gs :: gl :: (Value.slice sc nc cc).ownBlock.toList) w wx) ∧ Hid (∀ j, (Value.slice sk nk ck).ownBlock = some j → (Value.slice sc nc cc).ownBlock = some j ∨ w.heap.size ≤ j))
  case atStart => exact ⟨0, sc, nc, cc, C, L2, by omega, by omega, rfl, by omega, hl2, hL2, S2, Q2, H2, T3, fun j hj => .inl hj⟩
  case round =>
   clear S2 Q2 H2 T3 hL2 hl2
   obtain ⟨k, sk, nk, ck, Ck, Lk, rfl, hk, rfl, hnk, hlk, hLk, S4, Q4, H4, T4, O4⟩ := hrel
   have hz := Lib.hid (Nat.le_trans hbase.out T4.out.size)
   by_cases hkn : k < n
   ·have d1 : decide ((k : Int) < (n : Int)) = true := by simp; omega
    have hkL : k < Lk.length := by rw [hlk.out, ← hnL.out]; exact hkn
    have hs4 : Lk[k].1.subs.length ≤ 4 := drK_le _ _ _ 4 _ h4h.out _ (by rw [← hLk.out]; exact List.mem_map.2 ⟨_, List.getElem_mem hkL, rfl⟩)
    have hn6 : n ≤ 6 := by rw [hnL.out]; exact hL.out
    have cB := Lib.hid (sdropM gs gh gl o n c base k vS S Lk hkL kd (i : Nat) nn rm (0 : Nat) ow ly sf nf cf (o + i * 9) sk nk ck Ck 33 (ofT i (0 : Nat)) (by omega) (by omega) wr hz.out S4.out H4.out Q4.out enterOf (fun u wx chg hS => of_any gs gh kd (i : Nat) nn rm (0 : Nat) ow ly sf nf cf gl (o + i * 9) chg u wx hS))
    replace hn6 := Lib.hid hn6
    go_wp2_with fail
    refine Calls.mono cB.out ?_
    rintro e w5 ⟨rfl, s5, n5, c5, C5, v5, k1, k2, k3, k4, k5, k6⟩
    have hL5 : Hid ((Lk.set k (dropM (ofT i (0 : Nat)) Lk[k].1, v5)).map Prod.fst = drK (fun _ _ => false) (ofT i (0 : Nat)) (k + 1) H0) := Lib.hid (drK_stepH hLk.out hkL v5)
    have hl5 : Hid ((Lk.set k (dropM (ofT i (0 : Nat)) Lk[k].1, v5)).length = L.length) := Lib.hid ((List.length_set ..).trans hlk.out)
    generalize hLz : Lk.set k (dropM (ofT i (0 : Nat)) Lk[k].1, v5) = L5 at *
    have hn5 : n5 ≤ 104 + 4 * (k + 1) := by omega
    have S5 := Lib.hid k2
    have H5 := Lib.hid k3
    have Q5 := Lib.hid k4
    have T5 := Lib.hid (T4.out.chain k5 O4.out (Nat.le_refl _))
    have O5 := Lib.hid (fun j hj => (k6 j hj).elim (O4.out j) (fun h => .inr (Nat.le_trans T4.out.size h)) : ∀ j, (Value.slice s5 n5 c5).ownBlock = some j → (Value.slice sc nc cc).ownBlock = some j ∨ w.heap.size ≤ j)
    clear cB k1 k2 k3 k4 k5 k6 S4 H4 Q4 T4 O4 hLz hs4
    dsimp only
    go_wp2_with fail
    go_roundg (n - (k + 1))
    case measure => omega
    case rel => exact ⟨k + 1, s5, n5, c5, C5, L5, rfl, by omega, by first | rfl | (push_cast; rfl), hn5, hl5, hL5, S5, Q5, H5, T5, O5⟩
   ·obtain rfl : k = n := by omega
    have d1 : decide ((k : Int) < (k : Int)) = false := by simp
    have hn6 : k ≤ 6 := by rw [hnL.out]; exact hL.out
    have hF : Hid (Lk.map Prod.fst = unpM (L.map Prod.fst) i L[i].1 (0 : Nat)) := Lib.hid (by
     unfold unpM
     rw [hHm.out, hLk.out, show k = H0.length by rw [← hHm.out, List.length_set, List.length_map]; exact hnL.out, drK_all]
     congr 1)
    go_wp2_with fail
    go_ret2
    exact ⟨rfl, Lk, hF.out, ⟨⟨sk, nk, ck, Ck, by omega, S4.out, Q4.out, O4.out⟩, H4.out, T4.out⟩⟩
 ·go_enter Try.func20, Try.ntmps20
  go_upto_region 1 with (fail)
  have m5 : ∀ y : LaterS [] w, _ := fun y => y.bw.cell s5
  have m9 : ∀ y : LaterS [] w, _ := fun y => y.bw.cell s9
  have m1 : ∀ y : LaterS [] w, _ := fun y => y.bw.cell z1
  refine wp_region_gg [] [] [] (by kernel_rfl) ?_
  refine hoist [] [] (a1 := ?_) 0 rfl (by kernel_rfl) (.inl ⟨rfl, rfl⟩) rfl rfl rfl (fun x K hK => ?_) ?_
  rotate_left
  ·go_big_quiet_op
   exact hK
  refine hoist [] [] (a1 := ?_) 1 rfl (by kernel_rfl) (.inl ⟨rfl, rfl⟩) rfl rfl rfl (fun x K hK => ?_) ?_
  rotate_left
  ·go_big_quiet_op
   exact hK
  refine hoist [] [] (a1 := ?_) 2 rfl (by kernel_rfl) (.inl ⟨rfl, rfl⟩) rfl rfl rfl (fun x K hK => ?_) ?_
  rotate_left
  ·go_big_quiet_op
   exact hK
  refine hoist [] [] (a1 := ?_) 3 rfl (by kernel_rfl) (.inl ⟨rfl, rfl⟩) rfl rfl rfl (fun x K hK => ?_) ?_
  rotate_left
  ·go_big_quiet_op
   exact hK
  refine hoist [] [] (a1 := ?_) 4 rfl (by kernel_rfl) (.inl ⟨rfl, rfl⟩) rfl rfl rfl (fun x K hK => ?_) ?_
  rotate_left
  ·go_big_quiet_op
   exact hK
  refine hoist_call [] [] (a1 := ?_) 5 rfl (by kernel_rfl) (.inl ⟨rfl, rfl⟩) rfl rfl rfl (fun x K hK => ?_) ?_
  rotate_left
  ·go_big_quiet_op
   apply Exists.intro
   refine ⟨fun y => ?_, ?_⟩
   ·exact Calls.laterS_same (cT.out ⟨y.now, x.ok.trans y.ok⟩)
   ·exact hK
  refine hoist [] [] (a1 := ?_) 6 rfl (by kernel_rfl) (.inl ⟨rfl, rfl⟩) rfl rfl rfl (fun x K hK => ?_) ?_
  rotate_left
  ·go_big_quiet_op
   exact hK
  refine hoist [] [] (a1 := ?_) 7 rfl (by kernel_rfl) (.inl ⟨rfl, rfl⟩) rfl rfl rfl (fun x K hK => ?_) ?_
  rotate_left
  ·go_big_quiet_op
   exact hK
  refine hoist [] [] (a1 := ?_) 8 rfl (by kernel_rfl) (.inl ⟨rfl, rfl⟩) rfl rfl rfl (fun x K hK => ?_) ?_
  rotate_left
  ·go_big_quiet_op
   exact hK
  refine hoist [] [] (a1 := ?_) 9 rfl (by kernel_rfl) (.inl ⟨rfl, rfl⟩) rfl rfl rfl (fun x K hK => ?_) ?_
  rotate_left
  ·go_big_quiet_op
   exact hK
  refine hoist [] [] (a1 := ?_) 10 rfl (by kernel_rfl) (.inl ⟨rfl, rfl⟩) rfl rfl rfl (fun x K hK => ?_) ?_
  rotate_left
  ·go_big_quiet_op
   exact hK
  refine hoist [] [] (a1 := ?_) 11 rfl (by kernel_rfl) (.inl ⟨rfl, rfl⟩) rfl rfl rfl (fun x K hK => ?_) ?_
  rotate_left
  ·go_big_quiet_op
   exact hK
  refine hoist [] [] (a1 := ?_) 12 rfl (by kernel_rfl) (.inl ⟨rfl, rfl⟩) rfl rfl rfl (fun x K hK => ?_) ?_
  rotate_left
  ·go_big_quiet_op
   exact hK
  refine hoist [] [] (a1 := ?_) 13 rfl (by kernel_rfl) (.inl ⟨rfl, rfl⟩) rfl rfl rfl (fun x K hK => ?_) ?_
  rotate_left
  ·go_big_quiet_op
   exact hK
  refine hoist [] [] (a1 := ?_) 14 rfl (by kernel_rfl) (.inl ⟨rfl, rfl⟩) rfl rfl rfl (fun x K hK => ?_) ?_
  rotate_left
  ·go_big_quiet_op
   exact hK
  refine hoist [] [] (a1 := ?_) 15 rfl (by kernel_rfl) (.inl ⟨rfl, rfl⟩) rfl rfl rfl (fun x K hK => ?_) ?_
  rotate_left
  ·go_big_quiet_op
   exact hK
  refine hoist [] [] (a1 := ?_) 16 rfl (by kernel_rfl) (.inl ⟨rfl, rfl⟩) rfl rfl rfl (fun x K hK => ?_) ?_
  rotate_left
  ·go_big_quiet_op
   exact hK
  refine hoist [] [] (a1 := ?_) 17 rfl (by kernel_rfl) (.inl ⟨rfl, rfl⟩) rfl rfl rfl (fun x K hK => ?_) ?_
  rotate_left
  ·go_big_quiet_op
   exact hK
  refine hoist [] [] (a1 := ?_) 18 rfl (by kernel_rfl) (.inl ⟨rfl, rfl⟩) rfl rfl rfl (fun x K hK => ?_) ?_
  rotate_left
  ·go_big_quiet_op
   exact hK
  refine hoist [] [] (a1 := ?_) 19 rfl (by kernel_rfl) (.inl ⟨rfl, rfl⟩) rfl rfl rfl (fun x K hK => ?_) ?_
  rotate_left
  ·go_big_quiet_op
   exact hK
  refine hoist [] [] (a1 := ?_) 20 rfl (by kernel_rfl) (.inl ⟨rfl, rfl⟩) rfl rfl rfl (fun x K hK => ?_) ?_
  rotate_left
  ·go_big_quiet_op
   exact hK
  refine hoist [] [] (a1 := ?_) 21 rfl (by kernel_rfl) (.inl ⟨rfl, rfl⟩) rfl rfl rfl (fun x K hK => ?_) ?_
  rotate_left
  ·go_big_quiet_op
   exact hK
  refine hoist [] [] (a1 := ?_) 22 rfl (by kernel_rfl) (.inl ⟨rfl, rfl⟩) rfl rfl rfl (fun x K hK => ?_) ?_
  rotate_left
  ·go_big_quiet_op
   exact hK
  refine hoist [] [] (a1 := ?_) 23 rfl (by kernel_rfl) (.inl ⟨rfl, rfl⟩) rfl rfl rfl (fun x K hK => ?_) ?_
  rotate_left
  ·go_big_quiet_op
   exact hK
  refine done (by kernel_rfl) (fun xr => ?_)
  have B1 := Lib.hid xr.bw
  replace s5 := xr.bw.cell s5
  replace s9 := xr.bw.cell s9
  replace S1 := Lib.hid (S1.out.bw xr.bw)
  replace H1 := Lib.hid (H1.out.bw xr.bw)
  replace Q1 := Lib.hid (Q1.out.bw xr.bw)
  clear m5 m1 m9 z1 cT
  generalize xr.now = w1 at *
  clear xr
  go_upto_region 3 with (fail)
  have m5 : ∀ y : LaterS [] w1, _ := fun y => y.bw.cell s5
  have m9 : ∀ y : LaterS [] w1, _ := fun y => y.bw.cell s9
  refine wp_region_gg [] [] [12] (by kernel_rfl) ?_
  refine hoist [] [] (a1 := ?_) 0 rfl (by kernel_rfl) (.inl ⟨rfl, rfl⟩) rfl rfl rfl (fun x K hK => ?_) ?_
  rotate_left
  ·go_big_quiet_op
   exact hK
  refine hoist [] [] (a1 := ?_) 1 rfl (by kernel_rfl) (.inl ⟨rfl, rfl⟩) rfl rfl rfl (fun x K hK => ?_) ?_
  rotate_left
  ·go_big_quiet_op
   exact hK
  refine hoist [] [] (a1 := ?_) 2 rfl (by kernel_rfl) (.inl ⟨rfl, rfl⟩) rfl rfl rfl (fun x K hK => ?_) ?_
  rotate_left
  ·go_big_quiet_op
   exact hK
  refine hoist [] [] (a1 := ?_) 3 rfl (by kernel_rfl) (.inl ⟨rfl, rfl⟩) rfl rfl rfl (fun x K hK => ?_) ?_
  rotate_left
  ·go_big_quiet_op
   exact hK
  refine hoist [] [] (a1 := ?_) 4 rfl (by kernel_rfl) (.inl ⟨rfl, rfl⟩) rfl rfl rfl (fun x K hK => ?_) ?_
  rotate_left
  ·go_big_quiet_op
   exact hK
  refine hoist [] [] (a1 := ?_) 5 rfl (by kernel_rfl) (.inl ⟨rfl, rfl⟩) rfl rfl rfl (fun x K hK => ?_) ?_
  rotate_left
  ·go_big_quiet_op
   exact hK
  refine hoist [] [] (a1 := ?_) 6 rfl (by kernel_rfl) (.inl ⟨rfl, rfl⟩) rfl rfl rfl (fun x K hK => ?_) ?_
  rotate_left
  ·go_big_quiet_op
   exact hK
  refine hoist [] [] (a1 := ?_) 7 rfl (by kernel_rfl) (.inl ⟨rfl, rfl⟩) rfl rfl rfl (fun x K hK => ?_) ?_
  rotate_left
  ·go_big_quiet_op
   exact hK
  refine hoist [] [] (a1 := ?_) 8 rfl (by kernel_rfl) (.inl ⟨rfl, rfl⟩) rfl rfl rfl (fun x K hK => ?_) ?_
  rotate_left
  ·go_big_quiet_op
   exact hK
  refine hoist [] [] (a1 := ?_) 9 rfl (by kernel_rfl) (.inl ⟨rfl, rfl⟩) rfl rfl rfl (fun x K hK => ?_) ?_
  rotate_left
  ·go_big_quiet_op
   exact hK
  refine hoist [] [] (a1 := ?_) 10 rfl (by kernel_rfl) (.inl ⟨rfl, rfl⟩) rfl rfl rfl (fun x K hK => ?_) ?_
  rotate_left
  ·go_big_quiet_op
   exact hK
  refine hoist [] [] (a1 := ?_) 11 rfl (by kernel_rfl) (.inl ⟨rfl, rfl⟩) rfl rfl rfl (fun x K hK => ?_) ?_
  rotate_left
  ·go_big_quiet_op
   exact hK
  refine tail 12 rfl (by kernel_rfl) rfl (fun xr => ?_)
  simp only [List.drop_succ_cons, List.drop_zero]
  replace B1 := Lib.hid (B1.out.trans xr.bw)
  replace S1 := Lib.hid (S1.out.bw xr.bw)
  replace H1 := Lib.hid (H1.out.bw xr.bw)
  replace Q1 := Lib.hid (Q1.out.bw xr.bw)
  clear m5 m9 s5 s9
  generalize xr.now = w2 at *
  clear xr
  obtain ⟨cr, hcr⟩ := H1.out.row
  obtain ⟨va, vb, hm, -, -⟩ := H1.out.mem i hi
  have z4 : w2.cell? ⟨gl, o + i * 9 + 1 + 3, none⟩ = _ := hm 4 (by decide)
  have y4 : w2.frozen? ⟨gl, o + i * 9 + 1 + 3, none⟩ = false := hp_frz hcr _
  have z5 : w2.cell? ⟨gl, o + i * 9 + 1 + 3 + 1, none⟩ = _ := hm 5 (by decide)
  have y5 : w2.frozen? ⟨gl, o + i * 9 + 1 + 3 + 1, none⟩ = false := hp_frz hcr _
  have z6 : w2.cell? ⟨gl, o + i * 9 + 1 + 3 + 2, none⟩ = _ := hm 6 (by decide)
  have y6 : w2.frozen? ⟨gl, o + i * 9 + 1 + 3 + 2, none⟩ = false := hp_frz hcr _
  simp only [memC, List.getElem?_cons_zero, List.getElem?_cons_succ] at z4 z5 z6
  clear hm
  have H2 : Hid (HouseV (((w2.setCell ⟨gl, o + i * 9 + 1 + 3, none⟩ (.bool false)).setCell ⟨gl, o + i * 9 + 1 + 3 + 1, none⟩ (.int .i64 0)).setCell ⟨gl, o + i * 9 + 1 + 3 + 2, none⟩ (.slice none 0 0)) base gh vS (.slice (some ⟨gl, o, none⟩) n c) S (L.set i (L[i].1.setTk (1 : Nat) trk0, L[i].2))) := Lib.hid (H1.out.setTk1 i hi trk0 (.slice none 0 0) (EQ.nil ..))
  have T2 : Still [gl] w2 (((w2.setCell ⟨gl, o + i * 9 + 1 + 3, none⟩ (.bool false)).setCell ⟨gl, o + i * 9 + 1 + 3 + 1, none⟩ (.int .i64 0)).setCell ⟨gl, o + i * 9 + 1 + 3 + 2, none⟩ (.slice none 0 0)) := ((still_sc w2 gl _ _).trans (still_sc _ gl _ _)).trans (still_sc _ gl _ _)
  have S2 := Lib.hid (S1.out.st T2 (fun hm => by
   obtain rfl : gs = gl := by simpa using hm
   have := S1.out.symm.trans hcr
   cases this))
  have Q2 := Lib.hid (Q1.out.still T2 (fun _ _ => trivial) (fun g hg hm => by
   obtain rfl : g = gl := by simpa using hm
   exact Q1.out.ne hcr (by decide) _ hg rfl))
  have T3 := Lib.hid ((B1.out.still (gs :: gl :: (Value.slice sc nc cc).ownBlock.toList)).trans (T2.weaken (fun x hx => by
   obtain rfl : x = gl := by simpa using hx
   simp)))
  clear T2 S1 H1 Q1 hcr
  go_upto_region 4 with (fail)
  clear z4 y4 z5 y5 z6 y6
  generalize ((w2.setCell ⟨gl, o + i * 9 + 1 + 3, none⟩ (.bool false)).setCell ⟨gl, o + i * 9 + 1 + 3 + 1, none⟩ (.int .i64 0)).setCell ⟨gl, o + i * 9 + 1 + 3 + 2, none⟩ (.slice none 0 0) = w3 at *
  clear B1
  clear w1 w2
  have hl2 : Hid ((L.set i (L[i].1.setTk (1 : Nat) trk0, L[i].2)).length = L.length) := Lib.hid (List.length_set ..)
  have hL2 : Hid ((L.set i (L[i].1.setTk (1 : Nat) trk0, L[i].2)).map Prod.fst = drK (fun _ _ => false) (ofT i (1 : Nat)) 0 ((L.map Prod.fst).set i (L[i].1.setTk (1 : Nat) trk0))) := Lib.hid (by rw [drK_none, map_set_fst])
  generalize hLz : L.set i (L[i].1.setTk (1 : Nat) trk0, L[i].2) = L2 at *
  clear hLz
  generalize hHm : (L.map Prod.fst).set i (L[i].1.setTk (1 : Nat) trk0) = H0 at *
  replace hHm := Lib.hid hHm
  have z0 := (hp_cell S2.out 0).trans (show _ = some (.pointer (some ⟨gh, 0, none⟩)) from rfl)
  have zh := (hp_cell H2.out.hp 1).trans (show _ = some (.slice (some ⟨gl, o, none⟩) n c) from rfl)
  go_upto_region 5 with (fail)
  clear z0 zh
  go_loopg [50] n (fun m' ix wx => ∃ (k : Nat) (sk : Option Addr) (nk ck : Nat) (Ck : List Chg) (Lk : List (Mem × Value)), m' = n - k ∧ k ≤ n ∧ ix = .int .i64 (k : Nat) ∧ nk ≤ 104 + 4 * k ∧ Hid (Lk.length = L.length) ∧ Hid (Lk.map Prod.fst = drK (fun _ _ => false) (ofT i (1 : Nat)) k H0) ∧ Hid (HpB wx gs (.cells (stC gh kd (i : Nat) nn rm (1 : Nat) ow ly sf nf cf gl (o + i * 9) (.slice sk nk ck)) 73)) ∧ Hid (EQ ECh 89 wx base (.slice sk nk ck) nk Ck) ∧ Hid (HouseV wx base gh vS (.slice (some ⟨gl, o, none⟩) n c) S Lk) ∧ Hid (Still (gs :: gl :: (Value.slice sc nc cc).ownBlock.toList) w wx) ∧ Hid (∀ j, (Value.slice sk nk ck).ownBlock = some j → (Value.slice sc nc cc).ownBlock = some j ∨ w.heap.size ≤ j))
  case atStart => exact ⟨0, sc, nc, cc, C, L2, by omega, by omega, rfl, by omega, hl2, hL2, S2, Q2, H2, T3, fun j hj => .inl hj⟩
  case round =>
   clear S2 Q2 H2 T3 hL2 hl2
   obtain ⟨k, sk, nk, ck, Ck, Lk, rfl, hk, rfl, hnk, hlk, hLk, S4, Q4, H4, T4, O4⟩ := hrel
   have hz := Lib.hid (Nat.le_trans hbase.out T4.out.size)
   by_cases hkn : k < n
   ·have d1 : decide ((k : Int) < (n : Int)) = true := by simp; omega
    have hkL : k < Lk.length := by rw [hlk.out, ← hnL.out]; exact hkn
    have hs4 : Lk[k].1.subs.length ≤ 4 := drK_le _ _ _ 4 _ h4h.out _ (by rw [← hLk.out]; exact List.mem_map.2 ⟨_, List.getElem_mem hkL, rfl⟩)
    have hn6 : n ≤ 6 := by rw [hnL.out]; exact hL.out
    have cB := Lib.hid (sdropM gs gh gl o n c base k vS S Lk hkL kd (i : Nat) nn rm (1 : Nat) ow ly sf nf cf (o + i * 9) sk nk ck Ck 33 (ofT i (1 : Nat)) (by omega) (by omega) wr hz.out S4.out H4.out Q4.out enterOf (fun u wx chg hS => of_any gs gh kd (i : Nat) nn rm (1 : Nat) ow ly sf nf cf gl (o + i * 9) chg u wx hS))
    replace hn6 := Lib.hid hn6
    go_wp2_with fail
    refine Calls.mono cB.out ?_
    rintro e w5 ⟨rfl, s5, n5, c5, C5, v5, k1, k2, k3, k4, k5, k6⟩
    have hL5 : Hid ((Lk.set k (dropM (ofT i (1 : Nat)) Lk[k].1, v5)).map Prod.fst = drK (fun _ _ => false) (ofT i (1 : Nat)) (k + 1) H0) := Lib.hid (drK_stepH hLk.out hkL v5)
    have hl5 : Hid ((Lk.set k (dropM (ofT i (1 : Nat)) Lk[k].1, v5)).length = L.length) := Lib.hid ((List.length_set ..).trans hlk.out)
    generalize hLz : Lk.set k (dropM (ofT i (1 : Nat)) Lk[k].1, v5) = L5 at *
    have hn5 : n5 ≤ 104 + 4 * (k + 1) := by omega
    have S5 := Lib.hid k2
    have H5 := Lib.hid k3
    have Q5 := Lib.hid k4
    have T5 := Lib.hid (T4.out.chain k5 O4.out (Nat.le_refl _))
    have O5 := Lib.hid (fun j hj => (k6 j hj).elim (O4.out j) (fun h => .inr (Nat.le_trans T4.out.size h)) : ∀ j, (Value.slice s5 n5 c5).ownBlock = some j → (Value.slice sc nc cc).ownBlock = some j ∨ w.heap.size ≤ j)
    clear cB k1 k2 k3 k4 k5 k6 S4 H4 Q4 T4 O4 hLz hs4
    dsimp only
    go_wp2_with fail
    go_roundg (n - (k + 1))
    case measure => omega
    case rel => exact ⟨k + 1, s5, n5, c5, C5, L5, rfl, by omega, by first | rfl | (push_cast; rfl), hn5, hl5, hL5, S5, Q5, H5, T5, O5⟩
   ·obtain rfl : k = n := by omega
    have d1 : decide ((k : Int) < (k : Int)) = false := by simp
    have hn6 : k ≤ 6 := by rw [hnL.out]; exact hL.out
    have hF : Hid (Lk.map Prod.fst = unpM (L.map Prod.fst) i L[i].1 (1 : Nat)) := Lib.hid (by
     unfold unpM
     rw [hHm.out, hLk.out, show k = H0.length by rw [← hHm.out, List.length_set, List.length_map]; exact hnL.out, drK_all]
     congr 1)
    go_wp2_with fail
    go_ret2
    exact ⟨rfl, Lk, hF.out, ⟨⟨sk, nk, ck, Ck, by omega, S4.out, Q4.out, O4.out⟩, H4.out, T4.out⟩⟩
end Go.Proofs.Ytebeifkgjhgmeaa
