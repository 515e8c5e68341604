/- A step: own places; publish refused at its arguments. No condition but the sizes'. -/
import Derived.Test.YtebeifkgjhgmeaaRmX
import Derived.Test.YtebeifkgjhgmeaaRmD
import Derived.Test.YtebeifkgjhgmeaaRmE
namespace Go.Proofs.Ytebeifkgjhgmeaa
open Go.RowKit
set_option maxRecDepth 100000 in
set_option maxHeartbeats 8000000 in
theorem own_ok (gs gh base i x : Nat) (kd nn rm tr ow ly : Int) (sf : Option Addr) (nf cf : Nat) (gl ol : Nat) (chg vS vL : Value) (S : List (List Nat)) (L : List (Mem × Value)) (hi : i < S.length) (hs : S[i].length ≤ 1000) (hx : x < 4294967296) (w : World) (h : HpB w gs (.cells (stC gh kd (i : Nat) nn rm tr ow ly sf nf cf gl ol chg) 73)) (hH : HouseV w base gh vS vL S L) :
  Calls Try.prog 29 #[.pointer (some ⟨gs, 0, none⟩), .int .u32 (x : Nat)] w fun e w' => e = .returned (.int .i64 (ixUN S[i] x 0)) ∧ BW w w' := by
 obtain ⟨g, o, cap, hsl, -, -, hcp, hcm, hce⟩ := hH.so.form (by omega)
 unfold maxLen at hcm
 obtain ⟨cs, ⟨v, e1, hv⟩, hcs⟩ := hce i hi
 subst e1
 have zi := (hcs 0 (by decide)).trans (show _ = some v from rfl)
 rw [show ESo.size = 1 from rfl, Nat.mul_one, Nat.add_zero] at zi
 have s0 := (hp_cell h 0).trans (show _ = some (.pointer (some ⟨gh, 0, none⟩)) from rfl)
 have s2 := (hp_cell h 2).trans (show _ = some (.int .i64 (i : Nat)) from rfl)
 have z0 := (hp_cell hH.hp 0).trans (show _ = some vS from rfl)
 rw [hsl] at z0
 obtain ⟨sv, cv, hsv, -, -⟩ := hv.len
 have cI := Lib.hid (fun (y : LaterS [] w) => ixU base S[i].length v S[i] x y.now ((hv.bw y.bw).sq) (by omega))
 rw [hsv] at cI zi
 generalize S[i].length = ns at *
 generalize ixUN S[i] x 0 = r at *
 have hin : (i : Int) < (S.length : Int) := by omega
 clear h hH hce hcs hv hsl hsv hs hi
 generalize S.length = n at *
 go_enter Try.func29, Try.ntmps29
 go_upto_region 1 with (fail)
 have m0 : ∀ y : LaterS [] w, _ := fun y => y.bw.cell s0
 have m2 : ∀ y : LaterS [] w, _ := fun y => y.bw.cell s2
 have mz : ∀ y : LaterS [] w, _ := fun y => y.bw.cell z0
 have mi : ∀ y : LaterS [] w, _ := fun y => y.bw.cell zi
 clear s0 s2 z0 zi
 refine wp_region_gg [] [] [] (by kernel_rfl) ?_
 refine hoist [] [] (a1 := ?_) 0 rfl (by kernel_rfl) (.inl ⟨rfl, rfl⟩) rfl rfl rfl (fun x K hK => ?_) ?_
 rotate_left
 ·go_big_quiet_op
  exact hK
 refine hoist [] [] (a1 := ?_) 1 rfl (by kernel_rfl) (.inl ⟨rfl, rfl⟩) rfl rfl rfl (fun x K hK => ?_) ?_
 rotate_left
 ·go_big_quiet_op
  exact hK
 refine hoist [] [] (a1 := ?_) 2 rfl (by kernel_rfl) (.inl ⟨rfl, rfl⟩) rfl rfl rfl (fun x K hK => ?_) ?_
 rotate_left
 ·go_big_quiet_op
  exact hK
 refine hoist [] [] (a1 := ?_) 3 rfl (by kernel_rfl) (.inl ⟨rfl, rfl⟩) rfl rfl rfl (fun x K hK => ?_) ?_
 rotate_left
 ·go_big_quiet_op
  exact hK
 refine hoist [] [] (a1 := ?_) 4 rfl (by kernel_rfl) (.inl ⟨rfl, rfl⟩) rfl rfl rfl (fun x K hK => ?_) ?_
 rotate_left
 ·go_big_quiet_op
  exact hK
 refine hoist [] [] (a1 := ?_) 5 rfl (by kernel_rfl) (.inl ⟨rfl, rfl⟩) rfl rfl rfl (fun x K hK => ?_) ?_
 rotate_left
 ·go_big_quiet_op
  exact hK
 refine hoist [] [] (a1 := ?_) 6 rfl (by kernel_rfl) (.inl ⟨rfl, rfl⟩) rfl rfl rfl (fun x K hK => ?_) ?_
 rotate_left
 ·go_big_quiet_op
  exact hK
 refine hoist [] [] (a1 := ?_) 7 rfl (by kernel_rfl) (.inl ⟨rfl, rfl⟩) rfl rfl rfl (fun x K hK => ?_) ?_
 rotate_left
 ·go_big_quiet_op
  exact hK
 refine hoist [] [] (a1 := ?_) 8 rfl (by kernel_rfl) (.inl ⟨rfl, rfl⟩) rfl rfl rfl (fun x K hK => ?_) ?_
 rotate_left
 ·go_big_quiet_op
  exact hK
 refine hoist [] [] (a1 := ?_) 9 rfl (by kernel_rfl) (.inl ⟨rfl, rfl⟩) rfl rfl rfl (fun x K hK => ?_) ?_
 rotate_left
 ·go_big_quiet_op
  exact hK
 refine hoist [] [] (a1 := ?_) 10 rfl (by kernel_rfl) (.inl ⟨rfl, rfl⟩) rfl rfl rfl (fun x K hK => ?_) ?_
 rotate_left
 ·go_big_quiet_op
  exact hK
 refine hoist [] [] (a1 := ?_) 11 rfl (by kernel_rfl) (.inl ⟨rfl, rfl⟩) rfl rfl rfl (fun x K hK => ?_) ?_
 rotate_left
 ·go_big_quiet_op
  exact hK
 refine hoist [] [] (a1 := ?_) 12 rfl (by kernel_rfl) (.inl ⟨rfl, rfl⟩) rfl rfl rfl (fun x K hK => ?_) ?_
 rotate_left
 ·go_big_quiet_op
  exact hK
 refine hoist [] [] (a1 := ?_) 13 rfl (by kernel_rfl) (.inl ⟨rfl, rfl⟩) rfl rfl rfl (fun x K hK => ?_) ?_
 rotate_left
 ·go_big_quiet_op
  exact hK
 refine hoist [] [] (a1 := ?_) 14 rfl (by kernel_rfl) (.inl ⟨rfl, rfl⟩) rfl rfl rfl (fun x K hK => ?_) ?_
 rotate_left
 ·go_big_quiet_op
  exact hK
 refine hoist_call [] [] (a1 := ?_) 15 rfl (by kernel_rfl) (.inl ⟨rfl, rfl⟩) rfl rfl rfl (fun x K hK => ?_) ?_
 rotate_left
 ·go_big_quiet_op
  apply Exists.intro
  refine ⟨fun y => ?_, ?_⟩
  ·exact Calls.laterS_same ((cI.out ⟨y.now, x.ok.trans y.ok⟩).mono fun _ _ ⟨k1, k2⟩ => ⟨k1, k2.symm⟩)
  ·exact hK
 refine hoist [] [] (a1 := ?_) 16 rfl (by kernel_rfl) (.inl ⟨rfl, rfl⟩) rfl rfl rfl (fun x K hK => ?_) ?_
 rotate_left
 ·go_big_quiet_op
  exact hK
 refine done (by kernel_rfl) (fun xr => ?_)
 have B1 := Lib.hid xr.bw
 clear m0 m2 mz mi
 generalize xr.now = w1 at *
 go_wp2_with fail
 go_ret
 exact ⟨rfl, B1.out⟩
def pubB (tr ly : Int) (nf : Nat) : Bool := (decide (0 ≤ tr) && decide (tr < 2)) && (decide (0 ≤ ly) && decide (ly < 3) && decide (1 ≤ nf) && decide (nf ≤ 4))
set_option maxRecDepth 100000 in
set_option maxHeartbeats 8000000 in
theorem pub_arg (gs gh gl ol : Nat) (kd st nn rm tr ow ly : Int) (sf : Option Addr) (nf cf : Nat) (chg : Value) (hnf : nf ≤ 1000000) (w : World) (h : HpB w gs (.cells (stC gh kd st nn rm tr ow ly sf nf cf gl ol chg) 73)) (hn : pubB tr ly nf = false) :
  Calls Try.prog 19 #[.pointer (some ⟨gs, 0, none⟩)] w (RefP 1 w) := by
 have s5 := (hp_cell h 5).trans (show _ = some (.int .i64 tr) from rfl)
 have s7 := (hp_cell h 7).trans (show _ = some (.int .i64 ly) from rfl)
 have s8 := (hp_cell h 8).trans (show _ = some (.slice sf nf cf) from rfl)
 have cT := Lib.hid (fun y : World => (track_any tr y).mono fun _ _ h => (⟨h.1, h.2.symm⟩ : _ ∧ _))
 clear h
 unfold pubB at hn
 cases h1 : (decide (0 ≤ tr) && decide (tr < 2)) with
 | false =>
  rw [h1] at cT
  clear hn h1
  go_enter Try.func19, Try.ntmps19
  go_wp2_with fail
  refine Calls.mono (cT.out w) ?_
  rintro e w1 ⟨rfl, rfl⟩
  dsimp only
  go_wp2_with fail
  go_ret2
  exact ⟨rfl, BW.refl _⟩
 | true =>
  rw [h1] at cT hn
  simp only [Bool.true_and] at hn
  clear h1
  by_cases h2 : ly < 0
  ·have d2 : decide (ly < 0) = true := decide_eq_true h2
   clear hn
   replace h2 := Lib.hid h2
   go_enter Try.func19, Try.ntmps19
   go_wp2_with fail
   refine Calls.mono (cT.out w) ?_
   rintro e w1 ⟨rfl, rfl⟩
   dsimp only
   go_wp2_with fail
   go_ret2
   exact ⟨rfl, BW.refl _⟩
  have d2 : decide (ly < 0) = false := decide_eq_false h2
  by_cases h3 : 3 ≤ ly
  ·have d3 : decide (3 ≤ ly) = true := decide_eq_true h3
   clear hn
   replace h2 := Lib.hid h2
   replace h3 := Lib.hid h3
   go_enter Try.func19, Try.ntmps19
   go_wp2_with fail
   refine Calls.mono (cT.out w) ?_
   rintro e w1 ⟨rfl, rfl⟩
   dsimp only
   go_wp2_with fail
   go_ret2
   exact ⟨rfl, BW.refl _⟩
  have d3 : decide (3 ≤ ly) = false := decide_eq_false h3
  by_cases h4 : (nf : Int) < 1
  ·have d4 : decide ((nf : Int) < 1) = true := decide_eq_true h4
   clear hn
   replace h2 := Lib.hid h2
   replace h3 := Lib.hid h3
   replace h4 := Lib.hid h4
   go_enter Try.func19, Try.ntmps19
   go_wp2_with fail
   refine Calls.mono (cT.out w) ?_
   rintro e w1 ⟨rfl, rfl⟩
   dsimp only
   go_wp2_with fail
   go_ret2
   exact ⟨rfl, BW.refl _⟩
  have d4 : decide ((nf : Int) < 1) = false := decide_eq_false h4
  have h5 : 4 < (nf : Int) := by
   rw [decide_eq_true (show 0 ≤ ly by omega), decide_eq_true (show ly < 3 by omega), decide_eq_true (show 1 ≤ nf by omega)] at hn
   simp at hn
   omega
  have d5 : decide (4 < (nf : Int)) = true := decide_eq_true h5
  clear hn
  replace h2 := Lib.hid h2
  replace h3 := Lib.hid h3
  replace h4 := Lib.hid h4
  replace h5 := Lib.hid h5
  go_enter Try.func19, Try.ntmps19
  go_wp2_with fail
  refine Calls.mono (cT.out w) ?_
  rintro e w1 ⟨rfl, rfl⟩
  dsimp only
  go_wp2_with fail
  go_ret2
  exact ⟨rfl, BW.refl _⟩
end Go.Proofs.Ytebeifkgjhgmeaa
