/- A step: join. No condition. -/
import Derived.Test.YtebeifkgjhgmeaaRmH
namespace Go.Proofs.Ytebeifkgjhgmeaa
open Go.RowKit
def joinC (r rm : Int) : Int := if r ≠ -1 then 10 else if rm < 0 ∨ 4 ≤ rm then 1 else 0
def RefP (c : Int) (w : World) (e : Ending) (w' : World) : Prop := e = .returned (.tuple #[.int .i64 0, .int .i64 c]) ∧ BW w w'
set_option maxRecDepth 100000 in
set_option maxHeartbeats 8000000 in
theorem join_no (gs gh gl ol : Nat) (kd st nn rm tr ow ly : Int) (sf : Option Addr) (nf cf : Nat) (chg : Value) (r : Int) (w : World) (h : HpB w gs (.cells (stC gh kd st nn rm tr ow ly sf nf cf gl ol chg) 73)) (hr : w.cell? ⟨gl, ol, none⟩ = some (.int .i64 r)) (hc : joinC r rm ≠ 0) :
  Calls Try.prog 17 #[.pointer (some ⟨gs, 0, none⟩)] w (RefP (joinC r rm) w) := by
 have s4 := (hp_cell h 4).trans (show _ = some (.int .i64 rm) from rfl)
 have s9 := (hp_cell h 9).trans (show _ = some (.pointer (some ⟨gl, ol, none⟩)) from rfl)
 clear h
 obtain ⟨C, hC⟩ : ∃ C, joinC r rm = C := ⟨_, rfl⟩
 rw [hC] at hc ⊢
 unfold joinC at hC
 by_cases h1 : r ≠ -1
 ·rw [if_pos h1] at hC
  have d : (r != -1) = true := by simpa using h1
  subst hC
  replace h1 := Lib.hid h1
  clear hc
  go_enter Try.func17, Try.ntmps17
  go_wp2_with fail
  go_ret2
  exact ⟨rfl, BW.refl _⟩
 rw [if_neg h1] at hC
 have d : (r != -1) = false := by simpa using h1
 by_cases h2 : rm < 0 ∨ 4 ≤ rm
 ·rw [if_pos h2] at hC
  subst hC
  replace h1 := Lib.hid h1
  clear hc
  by_cases h3 : rm < 0
  ·have d3 : decide (rm < 0) = true := decide_eq_true h3
   clear h2
   go_enter Try.func17, Try.ntmps17
   go_wp2_with fail
   go_ret2
   exact ⟨rfl, BW.refl _⟩
  ·have d3 : decide (rm < 0) = false := decide_eq_false h3
   have d4 : decide (4 ≤ rm) = true := decide_eq_true (by omega)
   clear h2
   go_enter Try.func17, Try.ntmps17
   go_wp2_with fail
   go_ret2
   exact ⟨rfl, BW.refl _⟩
 ·rw [if_neg h2] at hC
  exact absurd hC.symm hc
set_option maxRecDepth 100000 in
set_option maxHeartbeats 8000000 in
theorem join_yes (gs gh gl o n c base : Nat) (vS : Value) (S : List (List Nat)) (L : List (Mem × Value)) (i : Nat) (hi : i < L.length) (kd st nn rm tr ow ly : Int) (sf : Option Addr) (nf cf : Nat) (chg : Value) (w : World) (h : HpB w gs (.cells (stC gh kd st nn rm tr ow ly sf nf cf gl (o + i * 9) chg) 73)) (hH : HouseV w base gh vS (.slice (some ⟨gl, o, none⟩) n c) S L) (hc : joinC L[i].1.r rm = 0) :
  Calls Try.prog 17 #[.pointer (some ⟨gs, 0, none⟩)] w fun e w' => e = .returned (.tuple #[.int .i64 rm, .int .i64 0]) ∧ HouseV w' base gh vS (.slice (some ⟨gl, o, none⟩) n c) S (L.set i ({ L[i].1 with r := rm }, L[i].2)) ∧ Still [gl] w w' := by
 unfold joinC at hc
 split at hc
 ·cases hc
 rename_i h1
 split at hc
 ·cases hc
 rename_i h2
 obtain ⟨va, vb, hm, -, -⟩ := hH.mem i hi
 have z0 := (hm 0 (by decide)).trans (show _ = some (.int .i64 L[i].1.r) from rfl)
 rw [Nat.add_zero] at z0
 obtain ⟨cr, hcr⟩ := hH.row
 have y0 : w.frozen? ⟨gl, o + i * 9, none⟩ = false := hp_frz hcr _
 have hgs : gs ≠ gl := fun e => by
  subst e
  have := h.symm.trans hcr
  cases this
 have s4 := (hp_cell h 4).trans (show _ = some (.int .i64 rm) from rfl)
 have s9 := (hp_cell h 9).trans (show _ = some (.pointer (some ⟨gl, o + i * 9, none⟩)) from rfl)
 have d : (L[i].1.r != -1) = false := by simpa using h1
 have d3 : decide (rm < 0) = false := decide_eq_false (by omega)
 have d4 : decide (4 ≤ rm) = false := decide_eq_false (by omega)
 have hS := Lib.hid h
 have hHH := Lib.hid hH
 have hcrr := Lib.hid hcr
 clear h hH hm hcr h1 h2 hc
 generalize hrr : L[i].1.r = r at *
 replace hrr := Lib.hid hrr
 replace hgs := Lib.hid hgs
 go_enter Try.func17, Try.ntmps17
 go_upto_region 5 with (fail)
 have m4 : ∀ y : LaterS [] w, _ := fun y => y.bw.cell s4
 have m9 : ∀ y : LaterS [] w, _ := fun y => y.bw.cell s9
 clear z0 y0 s4 s9
 refine wp_region_gg [] [] [9] (by kernel_rfl) ?_
 refine hoist [] [] (a1 := ?_) 0 rfl (by kernel_rfl) (.inl ⟨rfl, rfl⟩) rfl rfl rfl (fun x K hK => ?_) ?_
 rotate_left
 ·go_big_quiet_op
  exact hK
 refine hoist [] [] (a1 := ?_) 1 rfl (by kernel_rfl) (.inl ⟨rfl, rfl⟩) rfl rfl rfl (fun x K hK => ?_) ?_
 rotate_left
 ·go_big_quiet_op
  exact hK
 refine hoist [] [] (a1 := ?_) 2 rfl (by kernel_rfl) (.inl ⟨rfl, rfl⟩) rfl rfl rfl (fun x K hK => ?_) ?_
 rotate_left
 ·go_big_quiet_op
  exact hK
 refine hoist [] [] (a1 := ?_) 3 rfl (by kernel_rfl) (.inl ⟨rfl, rfl⟩) rfl rfl rfl (fun x K hK => ?_) ?_
 rotate_left
 ·go_big_quiet_op
  exact hK
 refine hoist [] [] (a1 := ?_) 4 rfl (by kernel_rfl) (.inl ⟨rfl, rfl⟩) rfl rfl rfl (fun x K hK => ?_) ?_
 rotate_left
 ·go_big_quiet_op
  exact hK
 refine hoist [] [] (a1 := ?_) 5 rfl (by kernel_rfl) (.inl ⟨rfl, rfl⟩) rfl rfl rfl (fun x K hK => ?_) ?_
 rotate_left
 ·go_big_quiet_op
  exact hK
 refine hoist [] [] (a1 := ?_) 6 rfl (by kernel_rfl) (.inl ⟨rfl, rfl⟩) rfl rfl rfl (fun x K hK => ?_) ?_
 rotate_left
 ·go_big_quiet_op
  exact hK
 refine hoist [] [] (a1 := ?_) 7 rfl (by kernel_rfl) (.inl ⟨rfl, rfl⟩) rfl rfl rfl (fun x K hK => ?_) ?_
 rotate_left
 ·go_big_quiet_op
  exact hK
 refine hoist [] [] (a1 := ?_) 8 rfl (by kernel_rfl) (.inl ⟨rfl, rfl⟩) rfl rfl rfl (fun x K hK => ?_) ?_
 rotate_left
 ·go_big_quiet_op
  exact hK
 refine tail 9 rfl (by kernel_rfl) rfl (fun xr => ?_)
 simp only [List.drop_succ_cons, List.drop_zero]
 have B1 := Lib.hid xr.bw
 have S1 := Lib.hid (hS.out.bw xr.bw)
 have H1 := Lib.hid (hHH.out.bw xr.bw)
 clear m4 m9
 generalize xr.now = w1 at *
 obtain ⟨va1, vb1, hm1, -, -⟩ := H1.out.mem i hi
 have z0 := (hm1 0 (by decide)).trans (show _ = some (.int .i64 L[i].1.r) from rfl)
 rw [Nat.add_zero] at z0
 have y0 : w1.frozen? ⟨gl, o + i * 9, none⟩ = false := hp_frz (B1.out.heap hcrr.out) _
 have H2 := Lib.hid (H1.out.set i hi 0 (by decide) (.int .i64 rm) { L[i].1 with r := rm } rfl (fun cs ⟨va, vb, e, k0, k1, k2⟩ => ⟨va, vb, by rw [e]; rfl, k0, k1, k2⟩))
 rw [Nat.add_zero] at H2
 have T2 := still_sc w1 gl (o + i * 9) (.int .i64 rm)
 have S2 := Lib.hid (S1.out.st T2 (by simpa using hgs.out))
 have T3 := Lib.hid ((B1.out.still [gl]).trans T2)
 clear hm1 T2 S1 H1
 go_upto_region 6 with (fail)
 generalize w1.setCell ⟨gl, o + i * 9, none⟩ (.int .i64 rm) = w2 at *
 have s4 := (hp_cell S2.out 4).trans (show _ = some (.int .i64 rm) from rfl)
 clear z0 y0
 go_wp2_with fail
 go_ret2
 exact ⟨rfl, H2.out, T3.out⟩
end Go.Proofs.Ytebeifkgjhgmeaa
