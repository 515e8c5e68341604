/- A member's track written; a step: unpublish. No condition but the sizes'. -/
import Derived.Test.YtebeifkgjhgmeaaRmN
namespace Go.Proofs.Ytebeifkgjhgmeaa
open Go.RowKit
theorem HouseV.set2 {w : World} {base gh : Nat} {vS : Value} {gl o n c : Nat} {S : List (List Nat)} {L : List (Mem × Value)} {i : Nat} {m0 : Mem} {v : Value} (h : HouseV w base gh vS (.slice (some ⟨gl, o, none⟩) n c) S (L.set i (m0, v))) (hi : i < L.length) (j : Nat) (hj : j < 9) (u : Value) (m : Mem) (hm : m.subs = m0.subs) (hR : ∀ cs, EMb.R w base (m0, v) cs → EMb.R w base (m, v) (cs.set j u)) :
  HouseV (w.setCell ⟨gl, o + i * 9 + j, none⟩ u) base gh vS (.slice (some ⟨gl, o, none⟩) n c) S (L.set i (m, v)) := by
 have k := h.set i (by simpa using hi) j hj u m (by rw [List.getElem_set_self]; exact hm) (by rw [List.getElem_set_self]; exact hR)
 rw [List.getElem_set_self, List.set_set] at k
 exact k
theorem HouseV.setTk0 {w : World} {base gh : Nat} {vS : Value} {gl o n c : Nat} {S : List (List Nat)} {L : List (Mem × Value)} (h : HouseV w base gh vS (.slice (some ⟨gl, o, none⟩) n c) S L) (i : Nat) (hi : i < L.length) (x : Trk) (vp : Value) (hp : EQ I1 3 w base vp x.p.length x.p) :
  HouseV (((w.setCell ⟨gl, o + i * 9 + 1, none⟩ (.bool x.is)).setCell ⟨gl, o + i * 9 + 2, none⟩ (.int .i64 x.c)).setCell ⟨gl, o + i * 9 + 3, none⟩ vp) base gh vS (.slice (some ⟨gl, o, none⟩) n c) S (L.set i ({ L[i].1 with a := x }, L[i].2)) := by
 obtain ⟨cr, hcr⟩ := h.row
 have hv := hp.still ((still_sc w gl (o + i * 9 + 1) (.bool x.is)).trans (still_sc _ gl (o + i * 9 + 2) (.int .i64 x.c))) (fun _ _ => trivial) (fun g hg hm => by
  obtain rfl : g = gl := by simpa using hm
  exact hp.ne hcr (by decide) _ hg rfl)
 rw [← List.set_getElem_self hi] at h
 have h1 := HouseV.set2 (m0 := L[i].1) (v := L[i].2) h hi 1 (by decide) (.bool x.is) { L[i].1 with a := { L[i].1.a with is := x.is } } rfl (fun cs ⟨va, vb, e, k0, k1, k2⟩ => ⟨va, vb, by rw [e]; rfl, k0, k1, k2⟩)
 have h2 := h1.set2 hi 2 (by decide) (.int .i64 x.c) { L[i].1 with a := { L[i].1.a with is := x.is, c := x.c } } rfl (fun cs ⟨va, vb, e, k0, k1, k2⟩ => ⟨va, vb, by rw [e]; rfl, k0, k1, k2⟩)
 exact h2.set2 hi 3 (by decide) vp { L[i].1 with a := x } rfl (fun cs ⟨va, vb, e, k0, k1, k2⟩ => ⟨vp, vb, by rw [e]; rfl, k0, hv, k2⟩)
theorem HouseV.setTk1 {w : World} {base gh : Nat} {vS : Value} {gl o n c : Nat} {S : List (List Nat)} {L : List (Mem × Value)} (h : HouseV w base gh vS (.slice (some ⟨gl, o, none⟩) n c) S L) (i : Nat) (hi : i < L.length) (x : Trk) (vp : Value) (hp : EQ I1 3 w base vp x.p.length x.p) :
  HouseV (((w.setCell ⟨gl, o + i * 9 + 4, none⟩ (.bool x.is)).setCell ⟨gl, o + i * 9 + 5, none⟩ (.int .i64 x.c)).setCell ⟨gl, o + i * 9 + 6, none⟩ vp) base gh vS (.slice (some ⟨gl, o, none⟩) n c) S (L.set i ({ L[i].1 with b := x }, L[i].2)) := by
 obtain ⟨cr, hcr⟩ := h.row
 have hv := hp.still ((still_sc w gl (o + i * 9 + 4) (.bool x.is)).trans (still_sc _ gl (o + i * 9 + 5) (.int .i64 x.c))) (fun _ _ => trivial) (fun g hg hm => by
  obtain rfl : g = gl := by simpa using hm
  exact hp.ne hcr (by decide) _ hg rfl)
 rw [← List.set_getElem_self hi] at h
 have h1 := HouseV.set2 (m0 := L[i].1) (v := L[i].2) h hi 4 (by decide) (.bool x.is) { L[i].1 with b := { L[i].1.b with is := x.is } } rfl (fun cs ⟨va, vb, e, k0, k1, k2⟩ => ⟨va, vb, by rw [e]; rfl, k0, k1, k2⟩)
 have h2 := h1.set2 hi 5 (by decide) (.int .i64 x.c) { L[i].1 with b := { L[i].1.b with is := x.is, c := x.c } } rfl (fun cs ⟨va, vb, e, k0, k1, k2⟩ => ⟨va, vb, by rw [e]; rfl, k0, k1, k2⟩)
 exact h2.set2 hi 6 (by decide) vp { L[i].1 with b := x } rfl (fun cs ⟨va, vb, e, k0, k1, k2⟩ => ⟨va, vp, by rw [e]; rfl, k0, k1, hv⟩)
theorem HouseV.tkc {w : World} {base gh : Nat} {vS : Value} {gl o n c : Nat} {S : List (List Nat)} {L : List (Mem × Value)} (h : HouseV w base gh vS (.slice (some ⟨gl, o, none⟩) n c) S L) (i : Nat) (hi : i < L.length) (t : Nat) (ht : t = 0 ∨ t = 1) :
  ∃ vp, w.cell? ⟨gl, o + i * 9 + 1 + t * 3, none⟩ = some (.bool (L[i].1.tk t).is) ∧ w.cell? ⟨gl, o + i * 9 + 1 + t * 3 + 1, none⟩ = some (.int .i64 (L[i].1.tk t).c) ∧ w.cell? ⟨gl, o + i * 9 + 1 + t * 3 + 2, none⟩ = some vp ∧ EQ I1 3 w base vp (L[i].1.tk t).p.length (L[i].1.tk t).p := by
 obtain ⟨va, vb, hm, h1, h2⟩ := h.mem i hi
 rcases ht with rfl | rfl
 ·exact ⟨va, hm 1 (by decide), hm 2 (by decide), hm 3 (by decide), h1⟩
 ·exact ⟨vb, hm 4 (by decide), hm 5 (by decide), hm 6 (by decide), h2⟩
def unpB (m : Mem) (t : Int) : Bool := (decide (0 ≤ t) && decide (t < 2)) && (m.tk t).is
set_option maxRecDepth 100000 in
set_option maxHeartbeats 8000000 in
theorem unpub_no (gs gh gl o n c base i : Nat) (vS : Value) (S : List (List Nat)) (L : List (Mem × Value)) (hi : i < L.length) (kd st nn rm tr ow ly : Int) (sf : Option Addr) (nf cf : Nat) (chg : Value) (w : World) (h : HpB w gs (.cells (stC gh kd st nn rm tr ow ly sf nf cf gl (o + i * 9) chg) 73)) (hH : HouseV w base gh vS (.slice (some ⟨gl, o, none⟩) n c) S L) (hn : unpB L[i].1 tr = false) :
  Calls Try.prog 20 #[.pointer (some ⟨gs, 0, none⟩)] w (RefP 9 w) := by
 have s5 := (hp_cell h 5).trans (show _ = some (.int .i64 tr) from rfl)
 have s9 := (hp_cell h 9).trans (show _ = some (.pointer (some ⟨gl, o + i * 9, none⟩)) from rfl)
 unfold unpB at hn
 have cT : ∀ y : LaterS [] w, Calls Try.prog 28 #[.int .i64 tr] y.now fun e w' => e = .returned (.bool (decide (0 ≤ tr) && decide (tr < 2))) ∧ w' = y.now := fun y => (track_any tr y.now).mono fun _ _ ⟨k1, k2⟩ => ⟨k1, k2.symm⟩
 cases ht : (decide (0 ≤ tr) && decide (tr < 2)) with
 | false =>
  rw [ht] at cT
  clear hH h hn
  replace cT := Lib.hid cT
  replace ht := Lib.hid ht
  go_enter Try.func20, Try.ntmps20
  go_upto_region 1 with (fail)
  have m5 : ∀ y : LaterS [] w, _ := fun y => y.bw.cell s5
  clear s5 s9
  refine wp_region_gg [] [] [] (by kernel_rfl) ?_
  refine hoist [] [] (a1 := ?_) 0 rfl (by kernel_rfl) (.inl ⟨rfl, rfl⟩) rfl rfl rfl (fun x K hK => ?_) ?_
  rotate_left
  ·go_big_quiet_op
   exact hK
  refine hoist [] [] (a1 := ?_) 1 rfl (by kernel_rfl) (.inl ⟨rfl, rfl⟩) rfl rfl rfl (fun x K hK => ?_) ?_
  rotate_left
  ·go_big_quiet_op
   exact hK
  refine hoist [] [] (a1 := ?_) 2 rfl (by kernel_rfl) (.inl ⟨rfl, rfl⟩) rfl rfl rfl (fun x K hK => ?_) ?_
  rotate_left
  ·go_big_quiet_op
   exact hK
  refine hoist [] [] (a1 := ?_) 3 rfl (by kernel_rfl) (.inl ⟨rfl, rfl⟩) rfl rfl rfl (fun x K hK => ?_) ?_
  rotate_left
  ·go_big_quiet_op
   exact hK
  refine hoist [] [] (a1 := ?_) 4 rfl (by kernel_rfl) (.inl ⟨rfl, rfl⟩) rfl rfl rfl (fun x K hK => ?_) ?_
  rotate_left
  ·go_big_quiet_op
   exact hK
  refine hoist_call [] [] (a1 := ?_) 5 rfl (by kernel_rfl) (.inl ⟨rfl, rfl⟩) rfl rfl rfl (fun x K hK => ?_) ?_
  rotate_left
  ·go_big_quiet_op
   apply Exists.intro
   refine ⟨fun y => ?_, ?_⟩
   ·exact Calls.laterS_same (cT.out ⟨y.now, x.ok.trans y.ok⟩)
   ·exact hK
  refine hoist [] [] (a1 := ?_) 6 rfl (by kernel_rfl) (.inl ⟨rfl, rfl⟩) rfl rfl rfl (fun x K hK => ?_) ?_
  rotate_left
  ·go_big_quiet_op
   exact hK
  refine hoist [] [] (a1 := ?_) 7 rfl (by kernel_rfl) (.inl ⟨rfl, rfl⟩) rfl rfl rfl (fun x K hK => ?_) ?_
  rotate_left
  ·go_big_quiet_op
   exact hK
  refine hoist_skip [] [] 8 rfl (by kernel_rfl) (.inl ⟨rfl, rfl⟩) rfl (a1 := ?_) ?_ ?_
  rotate_left
  ·simp only [Act.put, List.setIfInBounds_toArray, List.set_cons_succ, List.set_cons_zero]; rfl
  refine hoist_skip [] [] 9 rfl (by kernel_rfl) (.inl ⟨rfl, rfl⟩) rfl (a1 := ?_) ?_ ?_
  rotate_left
  ·simp only [Act.put, List.setIfInBounds_toArray, List.set_cons_succ, List.set_cons_zero]; rfl
  refine hoist_skip [] [] 10 rfl (by kernel_rfl) (.inl ⟨rfl, rfl⟩) rfl (a1 := ?_) ?_ ?_
  rotate_left
  ·simp only [Act.put, List.setIfInBounds_toArray, List.set_cons_succ, List.set_cons_zero]; rfl
  refine hoist_skip [] [] 11 rfl (by kernel_rfl) (.inl ⟨rfl, rfl⟩) rfl (a1 := ?_) ?_ ?_
  rotate_left
  ·simp only [Act.put, List.setIfInBounds_toArray, List.set_cons_succ, List.set_cons_zero]; rfl
  refine hoist_skip [] [] 12 rfl (by kernel_rfl) (.inl ⟨rfl, rfl⟩) rfl (a1 := ?_) ?_ ?_
  rotate_left
  ·simp only [Act.put, List.setIfInBounds_toArray, List.set_cons_succ, List.set_cons_zero]; rfl
  refine hoist_skip [] [] 13 rfl (by kernel_rfl) (.inl ⟨rfl, rfl⟩) rfl (a1 := ?_) ?_ ?_
  rotate_left
  ·simp only [Act.put, List.setIfInBounds_toArray, List.set_cons_succ, List.set_cons_zero]; rfl
  refine hoist_skip [] [] 14 rfl (by kernel_rfl) (.inl ⟨rfl, rfl⟩) rfl (a1 := ?_) ?_ ?_
  rotate_left
  ·simp only [Act.put, List.setIfInBounds_toArray, List.set_cons_succ, List.set_cons_zero]; rfl
  refine hoist_skip [] [] 15 rfl (by kernel_rfl) (.inl ⟨rfl, rfl⟩) rfl (a1 := ?_) ?_ ?_
  rotate_left
  ·simp only [Act.put, List.setIfInBounds_toArray, List.set_cons_succ, List.set_cons_zero]; rfl
  refine hoist_skip [] [] 16 rfl (by kernel_rfl) (.inl ⟨rfl, rfl⟩) rfl (a1 := ?_) ?_ ?_
  rotate_left
  ·simp only [Act.put, List.setIfInBounds_toArray, List.set_cons_succ, List.set_cons_zero]; rfl
  refine hoist_skip [] [] 17 rfl (by kernel_rfl) (.inl ⟨rfl, rfl⟩) rfl (a1 := ?_) ?_ ?_
  rotate_left
  ·simp only [Act.put, List.setIfInBounds_toArray, List.set_cons_succ, List.set_cons_zero]; rfl
  refine hoist_skip [] [] 18 rfl (by kernel_rfl) (.inl ⟨rfl, rfl⟩) rfl (a1 := ?_) ?_ ?_
  rotate_left
  ·simp only [Act.put, List.setIfInBounds_toArray, List.set_cons_succ, List.set_cons_zero]; rfl
  refine hoist_skip [] [] 19 rfl (by kernel_rfl) (.inl ⟨rfl, rfl⟩) rfl (a1 := ?_) ?_ ?_
  rotate_left
  ·simp only [Act.put, List.setIfInBounds_toArray, List.set_cons_succ, List.set_cons_zero]; rfl
  refine hoist_skip [] [] 20 rfl (by kernel_rfl) (.inl ⟨rfl, rfl⟩) rfl (a1 := ?_) ?_ ?_
  rotate_left
  ·simp only [Act.put, List.setIfInBounds_toArray, List.set_cons_succ, List.set_cons_zero]; rfl
  refine hoist_skip [] [] 21 rfl (by kernel_rfl) (.inl ⟨rfl, rfl⟩) rfl (a1 := ?_) ?_ ?_
  rotate_left
  ·simp only [Act.put, List.setIfInBounds_toArray, List.set_cons_succ, List.set_cons_zero]; rfl
  refine hoist_skip [] [] 22 rfl (by kernel_rfl) (.inl ⟨rfl, rfl⟩) rfl (a1 := ?_) ?_ ?_
  rotate_left
  ·simp only [Act.put, List.setIfInBounds_toArray, List.set_cons_succ, List.set_cons_zero]; rfl
  refine hoist [] [] (a1 := ?_) 23 rfl (by kernel_rfl) (.inl ⟨rfl, rfl⟩) rfl rfl rfl (fun x K hK => ?_) ?_
  rotate_left
  ·go_big_quiet_op
   exact hK
  refine done (by kernel_rfl) (fun xr => ?_)
  have B1 := Lib.hid xr.bw
  clear m5
  generalize xr.now = w1 at *
  go_wp2_with fail
  go_ret2
  exact ⟨rfl, B1.out⟩
 | true =>
  rw [ht] at cT hn
  simp only [Bool.and_eq_true, decide_eq_true_eq] at ht
  obtain ⟨t, rfl, ht2⟩ : ∃ t : Nat, tr = (t : Int) ∧ (t = 0 ∨ t = 1) := ⟨tr.toNat, by omega, by omega⟩
  obtain ⟨vp, z1, -, -, -⟩ := hH.tkc i hi t ht2
  rw [show (L[i].1.tk t).is = false by simpa using hn] at z1
  clear hH h hn ht
  have ht1 : t < 2 := by omega
  replace cT := Lib.hid cT
  replace ht2 := Lib.hid ht2
  go_enter Try.func20, Try.ntmps20
  go_upto_region 1 with (fail)
  have m5 : ∀ y : LaterS [] w, _ := fun y => y.bw.cell s5
  have m9 : ∀ y : LaterS [] w, _ := fun y => y.bw.cell s9
  have m1 : ∀ y : LaterS [] w, _ := fun y => y.bw.cell z1
  clear s5 s9 z1
  refine wp_region_gg [] [] [] (by kernel_rfl) ?_
  refine hoist [] [] (a1 := ?_) 0 rfl (by kernel_rfl) (.inl ⟨rfl, rfl⟩) rfl rfl rfl (fun x K hK => ?_) ?_
  rotate_left
  ·go_big_quiet_op
   exact hK
  refine hoist [] [] (a1 := ?_) 1 rfl (by kernel_rfl) (.inl ⟨rfl, rfl⟩) rfl rfl rfl (fun x K hK => ?_) ?_
  rotate_left
  ·go_big_quiet_op
   exact hK
  refine hoist [] [] (a1 := ?_) 2 rfl (by kernel_rfl) (.inl ⟨rfl, rfl⟩) rfl rfl rfl (fun x K hK => ?_) ?_
  rotate_left
  ·go_big_quiet_op
   exact hK
  refine hoist [] [] (a1 := ?_) 3 rfl (by kernel_rfl) (.inl ⟨rfl, rfl⟩) rfl rfl rfl (fun x K hK => ?_) ?_
  rotate_left
  ·go_big_quiet_op
   exact hK
  refine hoist [] [] (a1 := ?_) 4 rfl (by kernel_rfl) (.inl ⟨rfl, rfl⟩) rfl rfl rfl (fun x K hK => ?_) ?_
  rotate_left
  ·go_big_quiet_op
   exact hK
  refine hoist_call [] [] (a1 := ?_) 5 rfl (by kernel_rfl) (.inl ⟨rfl, rfl⟩) rfl rfl rfl (fun x K hK => ?_) ?_
  rotate_left
  ·go_big_quiet_op
   apply Exists.intro
   refine ⟨fun y => ?_, ?_⟩
   ·exact Calls.laterS_same (cT.out ⟨y.now, x.ok.trans y.ok⟩)
   ·exact hK
  refine hoist [] [] (a1 := ?_) 6 rfl (by kernel_rfl) (.inl ⟨rfl, rfl⟩) rfl rfl rfl (fun x K hK => ?_) ?_
  rotate_left
  ·go_big_quiet_op
   exact hK
  refine hoist [] [] (a1 := ?_) 7 rfl (by kernel_rfl) (.inl ⟨rfl, rfl⟩) rfl rfl rfl (fun x K hK => ?_) ?_
  rotate_left
  ·go_big_quiet_op
   exact hK
  refine hoist [] [] (a1 := ?_) 8 rfl (by kernel_rfl) (.inl ⟨rfl, rfl⟩) rfl rfl rfl (fun x K hK => ?_) ?_
  rotate_left
  ·go_big_quiet_op
   exact hK
  refine hoist [] [] (a1 := ?_) 9 rfl (by kernel_rfl) (.inl ⟨rfl, rfl⟩) rfl rfl rfl (fun x K hK => ?_) ?_
  rotate_left
  ·go_big_quiet_op
   exact hK
  refine hoist [] [] (a1 := ?_) 10 rfl (by kernel_rfl) (.inl ⟨rfl, rfl⟩) rfl rfl rfl (fun x K hK => ?_) ?_
  rotate_left
  ·go_big_quiet_op
   exact hK
  refine hoist [] [] (a1 := ?_) 11 rfl (by kernel_rfl) (.inl ⟨rfl, rfl⟩) rfl rfl rfl (fun x K hK => ?_) ?_
  rotate_left
  ·go_big_quiet_op
   exact hK
  refine hoist [] [] (a1 := ?_) 12 rfl (by kernel_rfl) (.inl ⟨rfl, rfl⟩) rfl rfl rfl (fun x K hK => ?_) ?_
  rotate_left
  ·go_big_quiet_op
   exact hK
  refine hoist [] [] (a1 := ?_) 13 rfl (by kernel_rfl) (.inl ⟨rfl, rfl⟩) rfl rfl rfl (fun x K hK => ?_) ?_
  rotate_left
  ·go_big_quiet_op
   exact hK
  refine hoist [] [] (a1 := ?_) 14 rfl (by kernel_rfl) (.inl ⟨rfl, rfl⟩) rfl rfl rfl (fun x K hK => ?_) ?_
  rotate_left
  ·go_big_quiet_op
   exact hK
  refine hoist [] [] (a1 := ?_) 15 rfl (by kernel_rfl) (.inl ⟨rfl, rfl⟩) rfl rfl rfl (fun x K hK => ?_) ?_
  rotate_left
  ·go_big_quiet_op
   exact hK
  refine hoist [] [] (a1 := ?_) 16 rfl (by kernel_rfl) (.inl ⟨rfl, rfl⟩) rfl rfl rfl (fun x K hK => ?_) ?_
  rotate_left
  ·go_big_quiet_op
   exact hK
  refine hoist [] [] (a1 := ?_) 17 rfl (by kernel_rfl) (.inl ⟨rfl, rfl⟩) rfl rfl rfl (fun x K hK => ?_) ?_
  rotate_left
  ·go_big_quiet_op
   exact hK
  refine hoist [] [] (a1 := ?_) 18 rfl (by kernel_rfl) (.inl ⟨rfl, rfl⟩) rfl rfl rfl (fun x K hK => ?_) ?_
  rotate_left
  ·go_big_quiet_op
   exact hK
  refine hoist [] [] (a1 := ?_) 19 rfl (by kernel_rfl) (.inl ⟨rfl, rfl⟩) rfl rfl rfl (fun x K hK => ?_) ?_
  rotate_left
  ·go_big_quiet_op
   exact hK
  refine hoist [] [] (a1 := ?_) 20 rfl (by kernel_rfl) (.inl ⟨rfl, rfl⟩) rfl rfl rfl (fun x K hK => ?_) ?_
  rotate_left
  ·go_big_quiet_op
   exact hK
  refine hoist [] [] (a1 := ?_) 21 rfl (by kernel_rfl) (.inl ⟨rfl, rfl⟩) rfl rfl rfl (fun x K hK => ?_) ?_
  rotate_left
  ·go_big_quiet_op
   exact hK
  refine hoist [] [] (a1 := ?_) 22 rfl (by kernel_rfl) (.inl ⟨rfl, rfl⟩) rfl rfl rfl (fun x K hK => ?_) ?_
  rotate_left
  ·go_big_quiet_op
   exact hK
  refine hoist [] [] (a1 := ?_) 23 rfl (by kernel_rfl) (.inl ⟨rfl, rfl⟩) rfl rfl rfl (fun x K hK => ?_) ?_
  rotate_left
  ·go_big_quiet_op
   exact hK
  refine done (by kernel_rfl) (fun xr => ?_)
  have B1 := Lib.hid xr.bw
  clear m5 m1 m9
  generalize xr.now = w1 at *
  go_wp2_with fail
  go_ret2
  exact ⟨rfl, B1.out⟩
end Go.Proofs.Ytebeifkgjhgmeaa
