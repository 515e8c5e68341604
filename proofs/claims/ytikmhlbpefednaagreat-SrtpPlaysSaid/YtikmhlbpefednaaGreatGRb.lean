/- rtp's reader: must, num, take. No condition. rtp's extension of a packet. No condition. The bits of rtp's first two bytes. No condition. Packets of media as values and variables; what they are read as. No condition. -/
import Derived.Test.YtikmhlbpefednaaGreatGRa
import Derived.Test.YtikmhlbpefednaaGreatGPr
import Derived.Test.YtikmhlbpefednaaGreatGAr
import Derived.Test.YtikmhlbpefednaaGreatCln
import Derived.Test.YtikmhlbpefednaaGreatGRg
namespace Go.Proofs.YtikmhlbpefednaaGreat
open Go.RowKit
def gaveUp (k : Nat) : Ending := .panicked [{ v := .iface 180 (.agg #[.int .i64 (k : Nat)]), recovered := false }]
set_option maxRecDepth 100000 in
set_option maxHeartbeats 8000000 in
theorem must_ok (k : Nat) (w : World) : Calls Tryz.prog 123 #[.bool true, .int .i64 (k : Nat)] w fun e w' => e = .returned (.tuple #[]) ∧ w = w' := by
 go_enter Tryz.func123, Tryz.ntmps123
 go_wp2
 go_end0
 exact ⟨rfl, rfl⟩
set_option maxRecDepth 100000 in
set_option maxHeartbeats 8000000 in
theorem must_no (k : Nat) (w : World) : Calls Tryz.prog 123 #[.bool false, .int .i64 (k : Nat)] w fun e w' => e = gaveUp k ∧ w = w' := by
 go_enter Tryz.func123, Tryz.ntmps123
 go_wp2
 exact ⟨rfl, rfl, rfl⟩
def Rdr (w : World) (g : Nat) (v : Value) (at_ : Nat) : Prop := HpB w g (.cells #[v, .int .i64 (at_ : Nat)] 184)
theorem Rdr.bw {w w' : World} {g : Nat} {v : Value} {at_ : Nat} (h : Rdr w g v at_) (hb : BW w w') : Rdr w' g v at_ := HpB.bw h hb
theorem Rdr.still {w w' : World} {g : Nat} {v : Value} {at_ : Nat} (h : Rdr w g v at_) {S : List Nat} (hs : Still S w w') (hg : g ∉ S) : Rdr w' g v at_ := hp_st hs h hg
theorem Rdr.cells {w : World} {g : Nat} {v : Value} {at_ : Nat} (h : Rdr w g v at_) : w.cell? ⟨g, 0, none⟩ = some v ∧ w.cell? ⟨g, 1, none⟩ = some (.int .i64 (at_ : Nat)) ∧ w.frozen? ⟨g, 1, none⟩ = false := ⟨hp_cell h 0, hp_cell h 1, hp_frz h 1⟩
theorem Rdr.set {w : World} {g : Nat} {v : Value} {at_ : Nat} (h : Rdr w g v at_) (b : Nat) : Rdr (w.setCell ⟨g, 1, none⟩ (.int .i64 (b : Nat))) g v b := hp_set h 1 _
theorem still_setCR (w : World) (g o : Nat) (v : Value) : Still [g] w (w.setCell ⟨g, o, none⟩ v) := by
 refine ⟨rfl, rfl, rfl, by simp [World.setCell], fun k _ hk => ?_⟩
 exact hp_oth (by simpa using hk)
set_option maxRecDepth 100000 in
set_option maxHeartbeats 8000000 in
theorem num_no (v : Value) (len : Nat) (l : List Nat) (at_ n : Nat) (hn1 : 1 ≤ n) (hn8 : n ≤ 8) (hat : at_ ≤ len) (hno : len < at_ + n) (w : World) (hv : SB w v len l) :
  Calls Tryz.prog 57 #[v, .int .i64 (at_ : Nat), .int .i64 (n : Nat)] w fun e w' => e = .returned (.tuple #[.int .u64 0, .bool false]) ∧ w = w' := by
 obtain ⟨sa, cap, rfl, _, hm⟩ := hv.len
 unfold maxLen at hm
 replace hv := Lib.hid hv
 have h1 : ¬ (n : Int) < 1 := by omega
 have h2 : ¬ (8 : Int) < n := by omega
 have h3 : ¬ (at_ : Int) < 0 := by omega
 have h4 : ¬ (len : Int) < at_ := by omega
 have h5 : (len : Int) - at_ < n := by omega
 go_enter Tryz.func57, Tryz.ntmps57
 go_wp2
 all_goals
  go_ret2
  exact ⟨rfl, rfl⟩
set_option maxRecDepth 100000 in
set_option maxHeartbeats 8000000 in
theorem rnum_ok' (g at_ n : Nat) (l : List Nat) (v : Value) (len : Nat) (hn1 : 1 ≤ n) (hn8 : n ≤ 8) (hat : at_ + n ≤ len) (hlen : len ≤ 1000000000000) (w : World) (hr : Rdr w g v at_) (hv : SB w v len l) :
  Calls Tryz.prog 124 #[.pointer (some ⟨g, 0, none⟩), .int .i64 (n : Nat)] w fun e w' => e = .returned (.int .u64 (nm l at_ n : Nat)) ∧ Rdr w' g v (at_ + n) ∧ Still [g] w w' := by
 have hnm : Hid (nm l at_ n = numB ((l.drop at_).take n)) := rfl
 have cn := fun wz hv => Lib.hid (num_ok v len l at_ n at_ n hn1 hn8 hat rfl rfl wz hv)
 rw [← hnm.out] at cn
 generalize nm l at_ n = x at *
 obtain ⟨c0, c1, f1⟩ := hr.cells
 have l0 : ∀ x : LaterS [] w, x.now.cell? ⟨g, 0, none⟩ = some v := fun x => x.cell c0 (by simp)
 have l1 : ∀ x : LaterS [] w, x.now.cell? ⟨g, 1, none⟩ = some (.int .i64 (at_ : Nat)) := fun x => x.cell c1 (by simp)
 obtain ⟨sa, cap, rfl, _, hm⟩ := hv.len
 replace hr := Lib.hid hr
 replace hv := Lib.hid hv
 clear c0 c1 f1
 go_enter Tryz.func124, Tryz.ntmps124
 go_upto_region 1 with (fail)
 refine wp_region_gg [] [] [] (by kernel_rfl) ?_
 refine hoist [] [] (a1 := ?_) 0 rfl (by kernel_rfl) (.inl ⟨rfl, rfl⟩) rfl rfl rfl (fun x K hK => ?_) ?_
 rotate_left
 ·go_big_quiet_op
  exact hK
 refine hoist [] [] (a1 := ?_) 1 rfl (by kernel_rfl) (.inl ⟨rfl, rfl⟩) rfl rfl rfl (fun x K hK => ?_) ?_
 rotate_left
 ·go_big_quiet_op
  exact hK
 refine hoist [] [] (a1 := ?_) 2 rfl (by kernel_rfl) (.inl ⟨rfl, rfl⟩) rfl rfl rfl (fun x K hK => ?_) ?_
 rotate_left
 ·go_big_quiet_op
  exact hK
 refine hoist [] [] (a1 := ?_) 3 rfl (by kernel_rfl) (.inl ⟨rfl, rfl⟩) rfl rfl rfl (fun x K hK => ?_) ?_
 rotate_left
 ·go_big_quiet_op
  exact hK
 refine hoist [] [] (a1 := ?_) 4 rfl (by kernel_rfl) (.inl ⟨rfl, rfl⟩) rfl rfl rfl (fun x K hK => ?_) ?_
 rotate_left
 ·go_big_quiet_op
  exact hK
 refine hoist [] [] (a1 := ?_) 5 rfl (by kernel_rfl) (.inl ⟨rfl, rfl⟩) rfl rfl rfl (fun x K hK => ?_) ?_
 rotate_left
 ·go_big_quiet_op
  exact hK
 refine hoist [] [] (a1 := ?_) 6 rfl (by kernel_rfl) (.inl ⟨rfl, rfl⟩) rfl rfl rfl (fun x K hK => ?_) ?_
 rotate_left
 ·go_big_quiet_op
  exact hK
 refine hoist [] [] (a1 := ?_) 7 rfl (by kernel_rfl) (.inl ⟨rfl, rfl⟩) rfl rfl rfl (fun x K hK => ?_) ?_
 rotate_left
 ·go_big_quiet_op
  exact hK
 refine hoist [] [] (a1 := ?_) 8 rfl (by kernel_rfl) (.inl ⟨rfl, rfl⟩) rfl rfl rfl (fun x K hK => ?_) ?_
 rotate_left
 ·go_big_quiet_op
  exact hK
 refine hoist_call [] [] (a1 := ?_) 9 rfl (by kernel_rfl) (.inl ⟨rfl, rfl⟩) rfl rfl rfl (fun x K hK => ?_) ?_
 rotate_left
 ·go_big_quiet_op
  apply Exists.intro
  refine ⟨fun y => ?_, ?_⟩
  ·exact ((cn y.now (hv.out.bw (x.bw.trans y.bw))).out).mono fun _ _ h => ⟨h.1, y, h.2.symm⟩
  ·exact hK
 refine hoist [] [] (a1 := ?_) 10 rfl (by kernel_rfl) (.inl ⟨rfl, rfl⟩) rfl rfl rfl (fun x K hK => ?_) ?_
 rotate_left
 ·go_big_quiet_op
  exact hK
 refine hoist [] [] (a1 := ?_) 11 rfl (by kernel_rfl) (.inl ⟨rfl, rfl⟩) rfl rfl rfl (fun x K hK => ?_) ?_
 rotate_left
 ·go_big_quiet_op
  exact hK
 refine hoist [] [] (a1 := ?_) 12 rfl (by kernel_rfl) (.inl ⟨rfl, rfl⟩) rfl rfl rfl (fun x K hK => ?_) ?_
 rotate_left
 ·go_big_quiet_op
  exact hK
 refine hoist [] [] (a1 := ?_) 13 rfl (by kernel_rfl) (.inl ⟨rfl, rfl⟩) rfl rfl rfl (fun x K hK => ?_) ?_
 rotate_left
 ·go_big_quiet_op
  exact hK
 refine hoist [] [] (a1 := ?_) 14 rfl (by kernel_rfl) (.inl ⟨rfl, rfl⟩) rfl rfl rfl (fun x K hK => ?_) ?_
 rotate_left
 ·go_big_quiet_op
  exact hK
 refine done (by kernel_rfl) (fun xr => ?_)
 have R1 := hr.out.bw xr.bw
 obtain ⟨c0, c1, f1⟩ := R1.cells
 have R2 := Lib.hid (R1.set (at_ + n))
 have T2 := Lib.hid (((xr.ok.weaken (by simp)) : Still [g] w xr.now).trans (still_setCR xr.now g 1 (.int .i64 (at_ + n : Nat))))
 clear cn l0 l1
 replace R1 := Lib.hid R1
 go_wp2_with fail
 refine Calls.mono (must_ok 2 _) ?_
 rintro e w' ⟨rfl, rfl⟩
 dsimp only
 go_wp2_with fail
 go_ret
 exact ⟨rfl, R2.out, T2.out⟩
set_option maxRecDepth 100000 in
set_option maxHeartbeats 8000000 in
theorem rnum_no' (g at_ n : Nat) (l : List Nat) (v : Value) (len : Nat) (hn1 : 1 ≤ n) (hn8 : n ≤ 8) (hat : at_ ≤ len) (hno : len < at_ + n) (hlen : len ≤ 1000000000000) (w : World) (hr : Rdr w g v at_) (hv : SB w v len l) :
  Calls Tryz.prog 124 #[.pointer (some ⟨g, 0, none⟩), .int .i64 (n : Nat)] w fun e w' => e = gaveUp 2 ∧ Still [g] w w' := by
 have cn := fun wz hv => Lib.hid (num_no v len l at_ n hn1 hn8 hat hno wz hv)
 obtain ⟨c0, c1, f1⟩ := hr.cells
 have l0 : ∀ x : LaterS [] w, x.now.cell? ⟨g, 0, none⟩ = some v := fun x => x.cell c0 (by simp)
 have l1 : ∀ x : LaterS [] w, x.now.cell? ⟨g, 1, none⟩ = some (.int .i64 (at_ : Nat)) := fun x => x.cell c1 (by simp)
 obtain ⟨sa, cap, rfl, _, hm⟩ := hv.len
 replace hr := Lib.hid hr
 replace hv := Lib.hid hv
 clear c0 c1 f1
 go_enter Tryz.func124, Tryz.ntmps124
 go_upto_region 1 with (fail)
 refine wp_region_gg [] [] [] (by kernel_rfl) ?_
 refine hoist [] [] (a1 := ?_) 0 rfl (by kernel_rfl) (.inl ⟨rfl, rfl⟩) rfl rfl rfl (fun x K hK => ?_) ?_
 rotate_left
 ·go_big_quiet_op
  exact hK
 refine hoist [] [] (a1 := ?_) 1 rfl (by kernel_rfl) (.inl ⟨rfl, rfl⟩) rfl rfl rfl (fun x K hK => ?_) ?_
 rotate_left
 ·go_big_quiet_op
  exact hK
 refine hoist [] [] (a1 := ?_) 2 rfl (by kernel_rfl) (.inl ⟨rfl, rfl⟩) rfl rfl rfl (fun x K hK => ?_) ?_
 rotate_left
 ·go_big_quiet_op
  exact hK
 refine hoist [] [] (a1 := ?_) 3 rfl (by kernel_rfl) (.inl ⟨rfl, rfl⟩) rfl rfl rfl (fun x K hK => ?_) ?_
 rotate_left
 ·go_big_quiet_op
  exact hK
 refine hoist [] [] (a1 := ?_) 4 rfl (by kernel_rfl) (.inl ⟨rfl, rfl⟩) rfl rfl rfl (fun x K hK => ?_) ?_
 rotate_left
 ·go_big_quiet_op
  exact hK
 refine hoist [] [] (a1 := ?_) 5 rfl (by kernel_rfl) (.inl ⟨rfl, rfl⟩) rfl rfl rfl (fun x K hK => ?_) ?_
 rotate_left
 ·go_big_quiet_op
  exact hK
 refine hoist [] [] (a1 := ?_) 6 rfl (by kernel_rfl) (.inl ⟨rfl, rfl⟩) rfl rfl rfl (fun x K hK => ?_) ?_
 rotate_left
 ·go_big_quiet_op
  exact hK
 refine hoist [] [] (a1 := ?_) 7 rfl (by kernel_rfl) (.inl ⟨rfl, rfl⟩) rfl rfl rfl (fun x K hK => ?_) ?_
 rotate_left
 ·go_big_quiet_op
  exact hK
 refine hoist [] [] (a1 := ?_) 8 rfl (by kernel_rfl) (.inl ⟨rfl, rfl⟩) rfl rfl rfl (fun x K hK => ?_) ?_
 rotate_left
 ·go_big_quiet_op
  exact hK
 refine hoist_call [] [] (a1 := ?_) 9 rfl (by kernel_rfl) (.inl ⟨rfl, rfl⟩) rfl rfl rfl (fun x K hK => ?_) ?_
 rotate_left
 ·go_big_quiet_op
  apply Exists.intro
  refine ⟨fun y => ?_, ?_⟩
  ·exact ((cn y.now (hv.out.bw (x.bw.trans y.bw))).out).mono fun _ _ h => ⟨h.1, y, h.2.symm⟩
  ·exact hK
 refine hoist [] [] (a1 := ?_) 10 rfl (by kernel_rfl) (.inl ⟨rfl, rfl⟩) rfl rfl rfl (fun x K hK => ?_) ?_
 rotate_left
 ·go_big_quiet_op
  exact hK
 refine hoist [] [] (a1 := ?_) 11 rfl (by kernel_rfl) (.inl ⟨rfl, rfl⟩) rfl rfl rfl (fun x K hK => ?_) ?_
 rotate_left
 ·go_big_quiet_op
  exact hK
 refine hoist [] [] (a1 := ?_) 12 rfl (by kernel_rfl) (.inl ⟨rfl, rfl⟩) rfl rfl rfl (fun x K hK => ?_) ?_
 rotate_left
 ·go_big_quiet_op
  exact hK
 refine hoist [] [] (a1 := ?_) 13 rfl (by kernel_rfl) (.inl ⟨rfl, rfl⟩) rfl rfl rfl (fun x K hK => ?_) ?_
 rotate_left
 ·go_big_quiet_op
  exact hK
 refine hoist [] [] (a1 := ?_) 14 rfl (by kernel_rfl) (.inl ⟨rfl, rfl⟩) rfl rfl rfl (fun x K hK => ?_) ?_
 rotate_left
 ·go_big_quiet_op
  exact hK
 refine done (by kernel_rfl) (fun xr => ?_)
 clear cn l0 l1
 go_wp2_with fail
 refine Calls.mono (must_no 2 _) ?_
 rintro e w' ⟨rfl, rfl⟩
 exact ⟨rfl, rfl, xr.ok.weaken (by simp)⟩
set_option maxRecDepth 100000 in
set_option maxHeartbeats 8000000 in
theorem rtake_ok (g at_ n : Nat) (l : List Nat) (v : Value) (len : Nat) (hat : at_ + n ≤ len) (hlen : len ≤ 1000000000000) (w : World) (hr : Rdr w g v at_) (hv : SB w v len l) (hg : ∀ k, v.ownBlock = some k → k ≠ g) :
  Calls Tryz.prog 126 #[.pointer (some ⟨g, 0, none⟩), .int .i64 (n : Nat)] w fun e w' => ∃ v', e = .returned v' ∧ OB w' w.heap.size 5 v' n ((l.drop at_).take n) ∧ Rdr w' g v (at_ + n) ∧ Still [g] w w' := by
 obtain ⟨c0, c1, f1⟩ := hr.cells
 have l0 : ∀ x : LaterS [] w, x.now.cell? ⟨g, 0, none⟩ = some v := fun x => x.cell c0 (by simp)
 have l1 : ∀ x : LaterS [] w, x.now.cell? ⟨g, 1, none⟩ = some (.int .i64 (at_ : Nat)) := fun x => x.cell c1 (by simp)
 obtain ⟨sa, cap, rfl, hcap, hm⟩ := hv.len
 unfold maxLen at hm
 replace hr := Lib.hid hr
 replace hv := Lib.hid hv
 clear c0 c1 f1
 have q1 : decide ((n : Int) ≤ (len : Int) - (at_ : Int)) = true := by simp; omega
 have q2 : IntKind.i64.wrap ((len : Int) - (at_ : Int)) = (len : Int) - (at_ : Int) := IntWalk.i64_in _ (by omega)
 go_enter Tryz.func126, Tryz.ntmps126
 go_upto_region 1 with (fail)
 refine wp_region_gg [] [] [12] (by kernel_rfl) ?_
 refine hoist [] [] (a1 := ?_) 0 rfl (by kernel_rfl) (.inl ⟨rfl, rfl⟩) rfl rfl rfl (fun x K hK => ?_) ?_
 rotate_left
 ·go_big_quiet_op
  exact hK
 refine hoist [] [] (a1 := ?_) 1 rfl (by kernel_rfl) (.inl ⟨rfl, rfl⟩) rfl rfl rfl (fun x K hK => ?_) ?_
 rotate_left
 ·go_big_quiet_op
  exact hK
 refine hoist [] [] (a1 := ?_) 2 rfl (by kernel_rfl) (.inl ⟨rfl, rfl⟩) rfl rfl rfl (fun x K hK => ?_) ?_
 rotate_left
 ·go_big_quiet_op
  exact hK
 refine hoist [] [] (a1 := ?_) 3 rfl (by kernel_rfl) (.inl ⟨rfl, rfl⟩) rfl rfl rfl (fun x K hK => ?_) ?_
 rotate_left
 ·go_big_quiet_op
  exact hK
 refine hoist [] [] (a1 := ?_) 4 rfl (by kernel_rfl) (.inl ⟨rfl, rfl⟩) rfl rfl rfl (fun x K hK => ?_) ?_
 rotate_left
 ·go_big_quiet_op
  exact hK
 refine hoist [] [] (a1 := ?_) 5 rfl (by kernel_rfl) (.inl ⟨rfl, rfl⟩) rfl rfl rfl (fun x K hK => ?_) ?_
 rotate_left
 ·go_big_quiet_op
  exact hK
 refine hoist [] [] (a1 := ?_) 6 rfl (by kernel_rfl) (.inl ⟨rfl, rfl⟩) rfl rfl rfl (fun x K hK => ?_) ?_
 rotate_left
 ·go_big_quiet_op
  exact hK
 refine hoist [] [] (a1 := ?_) 7 rfl (by kernel_rfl) (.inl ⟨rfl, rfl⟩) rfl rfl rfl (fun x K hK => ?_) ?_
 rotate_left
 ·go_big_quiet_op
  exact hK
 refine hoist [] [] (a1 := ?_) 8 rfl (by kernel_rfl) (.inl ⟨rfl, rfl⟩) rfl rfl rfl (fun x K hK => ?_) ?_
 rotate_left
 ·go_big_quiet_op
  exact hK
 refine hoist [] [] (a1 := ?_) 9 rfl (by kernel_rfl) (.inl ⟨rfl, rfl⟩) rfl rfl rfl (fun x K hK => ?_) ?_
 rotate_left
 ·go_big_quiet_op
  exact hK
 refine hoist [] [] (a1 := ?_) 10 rfl (by kernel_rfl) (.inl ⟨rfl, rfl⟩) rfl rfl rfl (fun x K hK => ?_) ?_
 rotate_left
 ·go_big_quiet_op
  exact hK
 refine hoist [] [] (a1 := ?_) 11 rfl (by kernel_rfl) (.inl ⟨rfl, rfl⟩) rfl rfl rfl (fun x K hK => ?_) ?_
 rotate_left
 ·go_big_quiet_op
  exact hK
 refine tail 12 rfl (by kernel_rfl) rfl (fun xr => ?_)
 simp only [List.drop_succ_cons, List.drop_zero]
 clear q2 l0 l1
 go_wp2_with fail
 refine Calls.mono (must_ok 2 xr.now) ?_
 rintro e w' ⟨rfl, rfl⟩
 dsimp only
 have R1 := hr.out.bw xr.bw
 obtain ⟨c0, c1, f1⟩ := R1.cells
 obtain ⟨m, em⟩ : ∃ m, at_ + n = m := ⟨_, rfl⟩
 have R2 : Hid (Rdr (xr.now.setCell ⟨g, 1, none⟩ (.int .i64 ((at_ : Int) + (n : Int)))) g (.slice sa len cap) (at_ + n)) := R1.set (at_ + n)
 have T2 := Lib.hid (((xr.ok.weaken (by simp)) : Still [g] w xr.now).trans (still_setCR xr.now g 1 (.int .i64 ((at_ : Int) + (n : Int)))))
 replace R1 := Lib.hid R1
 go_upto_region 3 with (fail)
 generalize xr.now.setCell ⟨g, 1, none⟩ (.int .i64 ((at_ : Int) + (n : Int))) = w2 at *
 rw [em] at R2
 have V2 := Lib.hid (hv.out.still T2.out (fun k hk => by simpa using hg k hk))
 obtain ⟨c0', c1', _⟩ := R2.out.cells
 have l0 : ∀ x : LaterS [] w2, x.now.cell? ⟨g, 0, none⟩ = some (.slice sa len cap) := fun x => x.cell c0' (by simp)
 have l1 : ∀ x : LaterS [] w2, x.now.cell? ⟨g, 1, none⟩ = some (.int .i64 (m : Nat)) := fun x => x.cell c1' (by simp)
 have q2 : IntKind.i64.wrap ((m : Int) - (n : Int)) = (m : Int) - (n : Int) := IntWalk.i64_in _ (by omega)
 have hc := fun w => run_cut_lh (P := Tryz.prog) Tryz.underlying35 info_u8 sa len cap at_ m ((m : Int) - (n : Int)) (m : Int) (by omega) rfl .i64 .i64 (by omega) (by omega) w
 have P2 := Lib.hid (V2.out.cut at_ m cap (by omega) (by omega) (by omega) (Nat.le_refl _))
 have en : m - at_ = n := by omega
 rw [en] at P2 hc
 replace en := Lib.hid en
 replace em := Lib.hid em
 clear c0' c1' c0 c1 f1
 refine wp_region_gg [] [] [] (by kernel_rfl) ?_
 refine hoist [] [] (a1 := ?_) 0 rfl (by kernel_rfl) (.inl ⟨rfl, rfl⟩) rfl rfl rfl (fun x K hK => ?_) ?_
 rotate_left
 ·go_big_quiet_op
  exact hK
 refine hoist [] [] (a1 := ?_) 1 rfl (by kernel_rfl) (.inl ⟨rfl, rfl⟩) rfl rfl rfl (fun x K hK => ?_) ?_
 rotate_left
 ·go_big_quiet_op
  exact hK
 refine hoist [] [] (a1 := ?_) 2 rfl (by kernel_rfl) (.inl ⟨rfl, rfl⟩) rfl rfl rfl (fun x K hK => ?_) ?_
 rotate_left
 ·go_big_quiet_op
  exact hK
 refine hoist [] [] (a1 := ?_) 3 rfl (by kernel_rfl) (.inl ⟨rfl, rfl⟩) rfl rfl rfl (fun x K hK => ?_) ?_
 rotate_left
 ·go_big_quiet_op
  exact hK
 refine hoist [] [] (a1 := ?_) 4 rfl (by kernel_rfl) (.inl ⟨rfl, rfl⟩) rfl rfl rfl (fun x K hK => ?_) ?_
 rotate_left
 ·go_big_quiet_op
  exact hK
 refine hoist [] [] (a1 := ?_) 5 rfl (by kernel_rfl) (.inl ⟨rfl, rfl⟩) rfl rfl rfl (fun x K hK => ?_) ?_
 rotate_left
 ·go_big_quiet_op
  exact hK
 refine hoist [] [] (a1 := ?_) 6 rfl (by kernel_rfl) (.inl ⟨rfl, rfl⟩) rfl rfl rfl (fun x K hK => ?_) ?_
 rotate_left
 ·go_big_quiet_op
  exact hK
 refine hoist [] [] (a1 := ?_) 7 rfl (by kernel_rfl) (.inl ⟨rfl, rfl⟩) rfl rfl rfl (fun x K hK => ?_) ?_
 rotate_left
 ·go_big_quiet_op
  exact hK
 refine hoist [] [] (a1 := ?_) 8 rfl (by kernel_rfl) (.inl ⟨rfl, rfl⟩) rfl rfl rfl (fun x K hK => ?_) ?_
 rotate_left
 ·go_big_quiet_op
  exact hK
 refine hoist [] [] (a1 := ?_) 9 rfl (by kernel_rfl) (.inl ⟨rfl, rfl⟩) rfl rfl rfl (fun x K hK => ?_) ?_
 rotate_left
 ·go_big_quiet_op
  exact hK
 refine hoist [] [] (a1 := ?_) 10 rfl (by kernel_rfl) (.inl ⟨rfl, rfl⟩) rfl rfl rfl (fun x K hK => ?_) ?_
 rotate_left
 ·go_big_quiet_op
  exact hK
 refine hoist [] [] (a1 := ?_) 11 rfl (by kernel_rfl) (.inl ⟨rfl, rfl⟩) rfl rfl rfl (fun x K hK => ?_) ?_
 rotate_left
 ·go_big_quiet_op
  exact hK
 refine hoist [] [] (a1 := ?_) 12 rfl (by kernel_rfl) (.inl ⟨rfl, rfl⟩) rfl rfl rfl (fun x K hK => ?_) ?_
 rotate_left
 ·go_big_quiet_op
  exact hK
 refine hoist [] [] (a1 := ?_) 13 rfl (by kernel_rfl) (.inl ⟨rfl, rfl⟩) rfl rfl rfl (fun x K hK => ?_) ?_
 rotate_left
 ·go_big_quiet_op
  exact hK
 refine hoist [] [] (a1 := ?_) 14 rfl (by kernel_rfl) (.inl ⟨rfl, rfl⟩) rfl rfl rfl (fun x K hK => ?_) ?_
 rotate_left
 ·go_big_quiet_op
  exact hK
 refine effect 15 rfl (by kernel_rfl) (by kernel_rfl) rfl (fun x15 K hK => ?_)
 go_simp
 refine Calls.mono (clone_ok _ n _ _ (by omega) x15.now (P2.out.bw x15.bw)) ?_
 rintro e w3 ⟨v3, rfl, O3, hb⟩
 obtain ⟨s3, p3, rfl, _, _⟩ := O3.len
 refine hK _ _ (Still.of_below hb) ?_
 clear hK K
 have B3 := Lib.hid (BW.call x15.bw hb)
 have z := Nat.le_trans T2.out.size x15.bw.size
 replace O3 := Lib.hid (O3.up z)
 clear z hb
 try simp only [Act.put, List.setIfInBounds_toArray, List.set_cons_succ, List.set_cons_zero]
 refine hoist [] [] (a1 := ?_) 16 rfl (by kernel_rfl) (.inl ⟨rfl, rfl⟩) rfl rfl rfl (fun x K hK => ?_) ?_
 rotate_left
 ·go_big_quiet_op
  exact hK
 refine done (by kernel_rfl) (fun xr => ?_)
 have R3 := R2.out.bw (B3.out.trans xr.bw)
 have T3 := T2.out.trans ((B3.out.trans xr.bw).still [g])
 go_wp2_with fail
 go_ret
 exact ⟨_, rfl, O3.out.bw xr.bw, by rw [em.out]; exact R3, T3⟩
end Go.Proofs.YtikmhlbpefednaaGreat

namespace Go.Proofs.YtikmhlbpefednaaGreat
open Go.RowKit
def rtpC (mk : Bool) (ty sq st so : Nat) (ov : Value) (ex : Bool) (pf : Nat) (ev pv : Value) (pd : Nat) : Array Value :=
 #[.bool mk, .int .u8 (ty : Nat), .int .u16 (sq : Nat), .int .u32 (st : Nat), .int .u32 (so : Nat), ov, .bool ex, .int .u16 (pf : Nat), ev, pv, .int .u8 (pd : Nat)]
def PkV (w : World) (p : Nat) (c : Array Value) : Prop := HpB w p (.cells c 37)
theorem PkV.bw {w w' : World} {p : Nat} {c : Array Value} (h : PkV w p c) (hb : BW w w') : PkV w' p c := HpB.bw h hb
theorem PkV.still {w w' : World} {p : Nat} {c : Array Value} (h : PkV w p c) {S : List Nat} (hs : Still S w w') (hg : p ∉ S) : PkV w' p c := hp_st hs h hg
theorem PkV.set {w : World} {p : Nat} {c : Array Value} (h : PkV w p c) (i : Nat) (u : Value) : PkV (w.setCell ⟨p, i, none⟩ u) p (c.setIfInBounds i u) := hp_set h i u
theorem PkV.cell {w : World} {p : Nat} {c : Array Value} (h : PkV w p c) (i : Nat) : w.cell? ⟨p, i, none⟩ = c[i]? := hp_cell h i
theorem PkV.frz {w : World} {p : Nat} {c : Array Value} (h : PkV w p c) (i : Nat) : w.frozen? ⟨p, i, none⟩ = false := hp_frz h i
theorem Still.sub {S S' : List Nat} {w w' : World} (h : Still S w w') (hs : ∀ k ∈ S, k ∈ S') : Still S' w w' := h.weaken hs
set_option maxRecDepth 100000 in
set_option maxHeartbeats 8000000 in
theorem rext_ok (g p at_ words : Nat) (l : List Nat) (v : Value) (len : Nat) (mk : Bool) (ty sq st so : Nat) (ov : Value) (ex : Bool) (pf : Nat) (ev pv : Value) (pd : Nat)
  (hw2 : nm l (at_ + 2) 2 = words) (h255 : words ≤ 255) (hat : at_ + 4 + 4 * words ≤ len) (hlen : len ≤ 1000000000000) (hby : ByL l) (w : World) (hr : Rdr w g v at_) (hp : PkV w p (rtpC mk ty sq st so ov ex pf ev pv pd)) (hv : SB w v len l) (hg : ∀ k, v.ownBlock = some k → k ≠ g ∧ k ≠ p) :
  Calls Tryz.prog 125 #[.pointer (some ⟨g, 0, none⟩), .pointer (some ⟨p, 0, none⟩)] w fun e w' => e = .returned (.tuple #[]) ∧ ∃ v', PkV w' p (rtpC mk ty sq st so ov true (nm l at_ 2) v' pv pd) ∧ OB w' w.heap.size 5 v' (4 * words) ((l.drop (at_ + 4)).take (4 * words)) ∧ Rdr w' g v (at_ + 4 + 4 * words) ∧ Still [g, p] w w' := by
 have hgp : g ≠ p := hp_ne hr hp (by decide)
 have hx := nm_lt l hby at_ 2
 have c1 := fun wz hr hv => Lib.hid (rnum_ok' g at_ 2 l v len (by decide) (by decide) (by omega) hlen wz hr hv)
 have c2 := fun wz hr hv => Lib.hid (rnum_ok' g (at_ + 2) 2 l v len (by decide) (by decide) (by omega) hlen wz hr hv)
 have c3 := fun wz hr hv hg => Lib.hid (rtake_ok g (at_ + 2 + 2) (4 * words) l v len (by omega) hlen wz hr hv hg)
 rw [hw2] at c2
 generalize hX : nm l at_ 2 = X at *
 replace hw2 := Lib.hid hw2
 replace hX := Lib.hid hX
 have hXi : (X : Int) ≤ 65535 := by omega
 have hWi : (words : Int) ≤ 255 := by omega
 replace hr := Lib.hid hr
 replace hp := Lib.hid hp
 replace hv := Lib.hid hv
 go_enter Tryz.func125, Tryz.ntmps125
 go_wp2_with fail
 refine Calls.mono (c1 w hr.out hv.out).out ?_
 rintro e w1 ⟨rfl, R1, T1⟩
 have V1 := Lib.hid (hv.out.still T1 (fun k hk => by simpa using (hg k hk).1))
 have P1 := hp.out.still T1 (by simpa using hgp.symm)
 have f6 := P1.frz 6
 have f7 := P1.frz 7
 have e6 : w1.cell? ⟨p, 6, none⟩ = some (.bool ex) := P1.cell 6
 have e7 : w1.cell? ⟨p, 7, none⟩ = some (.int .u16 (pf : Nat)) := P1.cell 7
 have P2 : Hid (PkV ((w1.setCell ⟨p, 6, none⟩ (.bool true)).setCell ⟨p, 7, none⟩ (.int .u16 (X : Nat))) p (rtpC mk ty sq st so ov true X ev pv pd)) := (P1.set 6 (.bool true)).set 7 (.int .u16 (X : Nat))
 have T2a : Still [p] w1 ((w1.setCell ⟨p, 6, none⟩ (.bool true)).setCell ⟨p, 7, none⟩ (.int .u16 (X : Nat))) := (still_setCR w1 p 6 _).trans (still_setCR _ p 7 _)
 have T2 := Lib.hid ((T1.sub (S' := [g, p]) (by simp)).trans (T2a.sub (by simp)))
 have R2 := Lib.hid (R1.still T2a (by simpa using hgp))
 have V2 := Lib.hid (V1.out.still T2a (fun k hk => by simpa using (hg k hk).2))
 replace P1 := Lib.hid P1
 replace R1 := Lib.hid R1
 replace T1 := Lib.hid T1
 replace T2a := Lib.hid T2a
 dsimp only
 go_upto_region 1 with (fail)
 generalize (w1.setCell ⟨p, 6, none⟩ (.bool true)).setCell ⟨p, 7, none⟩ (.int .u16 (X : Nat)) = w2 at *
 clear P1 R1 T1 T2a f6 f7 e6 e7 c1
 go_wp2_with fail
 refine Calls.mono (c2 w2 R2.out V2.out).out ?_
 rintro e w3 ⟨rfl, R3, T3⟩
 have V3 := Lib.hid (V2.out.still T3 (fun k hk => by simpa using (hg k hk).1))
 have P3 := Lib.hid (P2.out.still T3 (by simpa using hgp.symm))
 replace T3 := Lib.hid (T2.out.trans (T3.sub (by simp)))
 replace R3 := Lib.hid R3
 clear c2 R2 V2 P2 T2
 dsimp only
 go_upto_region 2 with (fail)
 obtain ⟨sa, cap, rfl, hcap, hm⟩ := V3.out.len
 unfold maxLen at hm
 obtain ⟨c0, c1', _⟩ := R3.out.cells
 have l0 : ∀ x : LaterS [] w3, x.now.cell? ⟨g, 0, none⟩ = some (.slice sa len cap) := fun x => x.cell c0 (by simp)
 have l1 : ∀ x : LaterS [] w3, x.now.cell? ⟨g, 1, none⟩ = some (.int .i64 (at_ + 2 + 2 : Nat)) := fun x => x.cell c1' (by simp)
 have q0 : IntKind.i64.wrap (4 * (words : Int)) = 4 * (words : Int) := IntWalk.i64_in _ (by omega)
 have q1 : IntKind.i64.wrap ((len : Int) - ((at_ + 2 + 2 : Nat) : Int)) = (len : Int) - ((at_ + 2 + 2 : Nat) : Int) := IntWalk.i64_in _ (by omega)
 have q2 : decide (4 * (words : Int) ≤ (len : Int) - ((at_ + 2 + 2 : Nat) : Int)) = true := by simp; omega
 clear c0 c1'
 generalize hA : at_ + 2 + 2 = A at *
 replace hA := Lib.hid hA
 refine wp_region_gg [] [] [13] (by kernel_rfl) ?_
 refine hoist [] [] (a1 := ?_) 0 rfl (by kernel_rfl) (.inl ⟨rfl, rfl⟩) rfl rfl rfl (fun x K hK => ?_) ?_
 rotate_left
 ·go_big_quiet_op
  exact hK
 refine hoist [] [] (a1 := ?_) 1 rfl (by kernel_rfl) (.inl ⟨rfl, rfl⟩) rfl rfl rfl (fun x K hK => ?_) ?_
 rotate_left
 ·go_big_quiet_op
  exact hK
 refine hoist [] [] (a1 := ?_) 2 rfl (by kernel_rfl) (.inl ⟨rfl, rfl⟩) rfl rfl rfl (fun x K hK => ?_) ?_
 rotate_left
 ·go_big_quiet_op
  exact hK
 refine hoist [] [] (a1 := ?_) 3 rfl (by kernel_rfl) (.inl ⟨rfl, rfl⟩) rfl rfl rfl (fun x K hK => ?_) ?_
 rotate_left
 ·go_big_quiet_op
  exact hK
 refine hoist [] [] (a1 := ?_) 4 rfl (by kernel_rfl) (.inl ⟨rfl, rfl⟩) rfl rfl rfl (fun x K hK => ?_) ?_
 rotate_left
 ·go_big_quiet_op
  exact hK
 refine hoist [] [] (a1 := ?_) 5 rfl (by kernel_rfl) (.inl ⟨rfl, rfl⟩) rfl rfl rfl (fun x K hK => ?_) ?_
 rotate_left
 ·go_big_quiet_op
  exact hK
 refine hoist [] [] (a1 := ?_) 6 rfl (by kernel_rfl) (.inl ⟨rfl, rfl⟩) rfl rfl rfl (fun x K hK => ?_) ?_
 rotate_left
 ·go_big_quiet_op
  exact hK
 refine hoist [] [] (a1 := ?_) 7 rfl (by kernel_rfl) (.inl ⟨rfl, rfl⟩) rfl rfl rfl (fun x K hK => ?_) ?_
 rotate_left
 ·go_big_quiet_op
  exact hK
 refine hoist [] [] (a1 := ?_) 8 rfl (by kernel_rfl) (.inl ⟨rfl, rfl⟩) rfl rfl rfl (fun x K hK => ?_) ?_
 rotate_left
 ·go_big_quiet_op
  exact hK
 refine hoist [] [] (a1 := ?_) 9 rfl (by kernel_rfl) (.inl ⟨rfl, rfl⟩) rfl rfl rfl (fun x K hK => ?_) ?_
 rotate_left
 ·go_big_quiet_op
  exact hK
 refine hoist [] [] (a1 := ?_) 10 rfl (by kernel_rfl) (.inl ⟨rfl, rfl⟩) rfl rfl rfl (fun x K hK => ?_) ?_
 rotate_left
 ·go_big_quiet_op
  exact hK
 refine hoist [] [] (a1 := ?_) 11 rfl (by kernel_rfl) (.inl ⟨rfl, rfl⟩) rfl rfl rfl (fun x K hK => ?_) ?_
 rotate_left
 ·go_big_quiet_op
  exact hK
 refine hoist [] [] (a1 := ?_) 12 rfl (by kernel_rfl) (.inl ⟨rfl, rfl⟩) rfl rfl rfl (fun x K hK => ?_) ?_
 rotate_left
 ·go_big_quiet_op
  exact hK
 refine tail 13 rfl (by kernel_rfl) rfl (fun xr => ?_)
 simp only [List.drop_succ_cons, List.drop_zero]
 clear q0 q1 q2 l0 l1
 go_wp2_with fail
 refine Calls.mono (must_ok 2 xr.now) ?_
 rintro e w' ⟨rfl, rfl⟩
 dsimp only
 go_wp2_with fail
 refine Calls.mono (must_ok 3 xr.now) ?_
 rintro e w' ⟨rfl, rfl⟩
 dsimp only
 have R4 := R3.out.bw xr.bw
 have V4 := V3.out.bw xr.bw
 have T4 := Lib.hid (T3.out.trans (xr.bw.still _))
 have P4 := Lib.hid (P3.out.bw xr.bw)
 go_wp2_with fail
 refine Calls.mono (c3 xr.now R4 V4 (fun k hk => (hg k hk).1)).out ?_
 rintro e w5 ⟨v5, rfl, O5, R5, T5⟩
 have P5 := P4.out.still T5 (by simpa using hgp.symm)
 have e8 : w5.cell? ⟨p, 8, none⟩ = some ev := P5.cell 8
 have f8 := P5.frz 8
 have P6 : Hid (PkV (w5.setCell ⟨p, 8, none⟩ v5) p (rtpC mk ty sq st so ov true X v5 pv pd)) := P5.set 8 v5
 obtain ⟨s5, p5, rfl, _, _⟩ := O5.len
 have T6 := Lib.hid ((T4.out.trans (T5.sub (by simp))).trans ((still_setCR w5 p 8 (.slice s5 (4 * words) p5)).sub (by simp)))
 have R6 := Lib.hid (R5.still (still_setCR w5 p 8 (.slice s5 (4 * words) p5)) (by simpa using hgp))
 have O6 := Lib.hid ((O5.up (Nat.le_trans T3.out.size xr.bw.size)).still (still_setCR w5 p 8 (.slice s5 (4 * words) p5)) (fun k hk => by have := O5.2.2.ne P5 (by decide) k hk; simpa using this))
 replace P5 := Lib.hid P5
 replace O5 := Lib.hid O5
 replace R5 := Lib.hid R5
 replace T5 := Lib.hid T5
 dsimp only
 go_wp2_with fail
 go_end0
 exact ⟨rfl, _, P6.out, by rw [show at_ + 4 = A by rw [← hA.out]]; exact O6.out, by rw [show at_ + 4 = A by rw [← hA.out]]; exact R6.out, T6.out⟩
set_option maxRecDepth 100000 in
set_option maxHeartbeats 8000000 in
theorem rext_no (g p at_ k : Nat) (l : List Nat) (v : Value) (len : Nat) (mk : Bool) (ty sq st so : Nat) (ov : Value) (ex : Bool) (pf : Nat) (ev pv : Value) (pd : Nat)
  (hk : (len < at_ + 4 ∧ k = 2) ∨ (at_ + 4 ≤ len ∧ len < at_ + 4 + 4 * nm l (at_ + 2) 2 ∧ k = 2) ∨ (at_ + 4 + 4 * nm l (at_ + 2) 2 ≤ len ∧ 255 < nm l (at_ + 2) 2 ∧ k = 3)) (hat : at_ ≤ len) (hlen : len ≤ 1000000000000) (hby : ByL l) (w : World) (hr : Rdr w g v at_) (hp : PkV w p (rtpC mk ty sq st so ov ex pf ev pv pd)) (hv : SB w v len l) (hg : ∀ k, v.ownBlock = some k → k ≠ g ∧ k ≠ p) :
  Calls Tryz.prog 125 #[.pointer (some ⟨g, 0, none⟩), .pointer (some ⟨p, 0, none⟩)] w fun e w' => e = gaveUp k ∧ Still [g, p] w w' := by
 have hgp : g ≠ p := hp_ne hr hp (by decide)
 by_cases ha : len < at_ + 2
 ·obtain rfl : k = 2 := by omega
  have c1 := fun wz hr hv => Lib.hid (rnum_no' g at_ 2 l v len (by decide) (by decide) (by omega) (by omega) hlen wz hr hv)
  replace hr := Lib.hid hr
  replace hp := Lib.hid hp
  replace hv := Lib.hid hv
  clear hk
  go_enter Tryz.func125, Tryz.ntmps125
  go_wp2_with fail
  refine Calls.mono (c1 w hr.out hv.out).out ?_
  rintro e w1 ⟨rfl, T1⟩
  exact ⟨rfl, rfl, T1.sub (by simp)⟩
 have hx := nm_lt l hby at_ 2
 have hy := nm_lt l hby (at_ + 2) 2
 have c1 := fun wz hr hv => Lib.hid (rnum_ok' g at_ 2 l v len (by decide) (by decide) (by omega) hlen wz hr hv)
 generalize hX : nm l at_ 2 = X at *
 have hXi : (X : Int) ≤ 65535 := by omega
 replace hX := Lib.hid hX
 replace hr := Lib.hid hr
 replace hp := Lib.hid hp
 replace hv := Lib.hid hv
 by_cases hb4 : len < at_ + 4
 ·obtain rfl : k = 2 := by omega
  have c2 := fun wz hr hv => Lib.hid (rnum_no' g (at_ + 2) 2 l v len (by decide) (by decide) (by omega) (by omega) hlen wz hr hv)
  clear hk
  go_enter Tryz.func125, Tryz.ntmps125
  go_wp2_with fail
  refine Calls.mono (c1 w hr.out hv.out).out ?_
  rintro e w1 ⟨rfl, R1, T1⟩
  have V1 := Lib.hid (hv.out.still T1 (fun k hk => by simpa using (hg k hk).1))
  have P1 := hp.out.still T1 (by simpa using hgp.symm)
  have f6 := P1.frz 6
  have f7 := P1.frz 7
  have e6 : w1.cell? ⟨p, 6, none⟩ = some (.bool ex) := P1.cell 6
  have e7 : w1.cell? ⟨p, 7, none⟩ = some (.int .u16 (pf : Nat)) := P1.cell 7
  have P2 : Hid (PkV ((w1.setCell ⟨p, 6, none⟩ (.bool true)).setCell ⟨p, 7, none⟩ (.int .u16 (X : Nat))) p (rtpC mk ty sq st so ov true X ev pv pd)) := (P1.set 6 (.bool true)).set 7 (.int .u16 (X : Nat))
  have T2a : Still [p] w1 ((w1.setCell ⟨p, 6, none⟩ (.bool true)).setCell ⟨p, 7, none⟩ (.int .u16 (X : Nat))) := (still_setCR w1 p 6 _).trans (still_setCR _ p 7 _)
  have T2 := Lib.hid ((T1.sub (S' := [g, p]) (by simp)).trans (T2a.sub (by simp)))
  have R2 := Lib.hid (R1.still T2a (by simpa using hgp))
  have V2 := Lib.hid (V1.out.still T2a (fun k hk => by simpa using (hg k hk).2))
  replace P1 := Lib.hid P1
  replace R1 := Lib.hid R1
  replace T1 := Lib.hid T1
  replace T2a := Lib.hid T2a
  dsimp only
  go_upto_region 1 with (fail)
  generalize (w1.setCell ⟨p, 6, none⟩ (.bool true)).setCell ⟨p, 7, none⟩ (.int .u16 (X : Nat)) = w2 at *
  clear P1 R1 T1 T2a f6 f7 e6 e7 c1
  go_wp2_with fail
  refine Calls.mono (c2 w2 R2.out V2.out).out ?_
  rintro e w3 ⟨rfl, T3⟩
  exact ⟨rfl, rfl, T2.out.trans (T3.sub (by simp))⟩
 have c2 := fun wz hr hv => Lib.hid (rnum_ok' g (at_ + 2) 2 l v len (by decide) (by decide) (by omega) hlen wz hr hv)
 generalize hW : nm l (at_ + 2) 2 = words at *
 have hWi : (words : Int) ≤ 65535 := by omega
 replace hW := Lib.hid hW
 by_cases hc4 : len < at_ + 4 + 4 * words
 ·obtain rfl : k = 2 := by omega
  clear hk
  go_enter Tryz.func125, Tryz.ntmps125
  go_wp2_with fail
  refine Calls.mono (c1 w hr.out hv.out).out ?_
  rintro e w1 ⟨rfl, R1, T1⟩
  have V1 := Lib.hid (hv.out.still T1 (fun k hk => by simpa using (hg k hk).1))
  have P1 := hp.out.still T1 (by simpa using hgp.symm)
  have f6 := P1.frz 6
  have f7 := P1.frz 7
  have e6 : w1.cell? ⟨p, 6, none⟩ = some (.bool ex) := P1.cell 6
  have e7 : w1.cell? ⟨p, 7, none⟩ = some (.int .u16 (pf : Nat)) := P1.cell 7
  have P2 : Hid (PkV ((w1.setCell ⟨p, 6, none⟩ (.bool true)).setCell ⟨p, 7, none⟩ (.int .u16 (X : Nat))) p (rtpC mk ty sq st so ov true X ev pv pd)) := (P1.set 6 (.bool true)).set 7 (.int .u16 (X : Nat))
  have T2a : Still [p] w1 ((w1.setCell ⟨p, 6, none⟩ (.bool true)).setCell ⟨p, 7, none⟩ (.int .u16 (X : Nat))) := (still_setCR w1 p 6 _).trans (still_setCR _ p 7 _)
  have T2 := Lib.hid ((T1.sub (S' := [g, p]) (by simp)).trans (T2a.sub (by simp)))
  have R2 := Lib.hid (R1.still T2a (by simpa using hgp))
  have V2 := Lib.hid (V1.out.still T2a (fun k hk => by simpa using (hg k hk).2))
  replace P1 := Lib.hid P1
  replace R1 := Lib.hid R1
  replace T1 := Lib.hid T1
  replace T2a := Lib.hid T2a
  dsimp only
  go_upto_region 1 with (fail)
  generalize (w1.setCell ⟨p, 6, none⟩ (.bool true)).setCell ⟨p, 7, none⟩ (.int .u16 (X : Nat)) = w2 at *
  clear P1 R1 T1 T2a f6 f7 e6 e7 c1
  go_wp2_with fail
  refine Calls.mono (c2 w2 R2.out V2.out).out ?_
  rintro e w3 ⟨rfl, R3, T3⟩
  have V3 := Lib.hid (V2.out.still T3 (fun k hk => by simpa using (hg k hk).1))
  have P3 := Lib.hid (P2.out.still T3 (by simpa using hgp.symm))
  replace T3 := Lib.hid (T2.out.trans (T3.sub (by simp)))
  replace R3 := Lib.hid R3
  clear c2 R2 V2 P2 T2
  dsimp only
  go_upto_region 2 with (fail)
  obtain ⟨sa, cap, rfl, hcap, hm⟩ := V3.out.len
  unfold maxLen at hm
  obtain ⟨c0, c1', _⟩ := R3.out.cells
  have l0 : ∀ x : LaterS [] w3, x.now.cell? ⟨g, 0, none⟩ = some (.slice sa len cap) := fun x => x.cell c0 (by simp)
  have l1 : ∀ x : LaterS [] w3, x.now.cell? ⟨g, 1, none⟩ = some (.int .i64 (at_ + 2 + 2 : Nat)) := fun x => x.cell c1' (by simp)
  have q0 : IntKind.i64.wrap (4 * (words : Int)) = 4 * (words : Int) := IntWalk.i64_in _ (by omega)
  have q1 : IntKind.i64.wrap ((len : Int) - ((at_ + 2 + 2 : Nat) : Int)) = (len : Int) - ((at_ + 2 + 2 : Nat) : Int) := IntWalk.i64_in _ (by omega)
  have q2 : decide (4 * (words : Int) ≤ (len : Int) - ((at_ + 2 + 2 : Nat) : Int)) = false := by simp; omega
  clear c0 c1'
  generalize hA : at_ + 2 + 2 = A at *
  replace hA := Lib.hid hA
  refine wp_region_gg [] [] [13] (by kernel_rfl) ?_
  refine hoist [] [] (a1 := ?_) 0 rfl (by kernel_rfl) (.inl ⟨rfl, rfl⟩) rfl rfl rfl (fun x K hK => ?_) ?_
  rotate_left
  ·go_big_quiet_op
   exact hK
  refine hoist [] [] (a1 := ?_) 1 rfl (by kernel_rfl) (.inl ⟨rfl, rfl⟩) rfl rfl rfl (fun x K hK => ?_) ?_
  rotate_left
  ·go_big_quiet_op
   exact hK
  refine hoist [] [] (a1 := ?_) 2 rfl (by kernel_rfl) (.inl ⟨rfl, rfl⟩) rfl rfl rfl (fun x K hK => ?_) ?_
  rotate_left
  ·go_big_quiet_op
   exact hK
  refine hoist [] [] (a1 := ?_) 3 rfl (by kernel_rfl) (.inl ⟨rfl, rfl⟩) rfl rfl rfl (fun x K hK => ?_) ?_
  rotate_left
  ·go_big_quiet_op
   exact hK
  refine hoist [] [] (a1 := ?_) 4 rfl (by kernel_rfl) (.inl ⟨rfl, rfl⟩) rfl rfl rfl (fun x K hK => ?_) ?_
  rotate_left
  ·go_big_quiet_op
   exact hK
  refine hoist [] [] (a1 := ?_) 5 rfl (by kernel_rfl) (.inl ⟨rfl, rfl⟩) rfl rfl rfl (fun x K hK => ?_) ?_
  rotate_left
  ·go_big_quiet_op
   exact hK
  refine hoist [] [] (a1 := ?_) 6 rfl (by kernel_rfl) (.inl ⟨rfl, rfl⟩) rfl rfl rfl (fun x K hK => ?_) ?_
  rotate_left
  ·go_big_quiet_op
   exact hK
  refine hoist [] [] (a1 := ?_) 7 rfl (by kernel_rfl) (.inl ⟨rfl, rfl⟩) rfl rfl rfl (fun x K hK => ?_) ?_
  rotate_left
  ·go_big_quiet_op
   exact hK
  refine hoist [] [] (a1 := ?_) 8 rfl (by kernel_rfl) (.inl ⟨rfl, rfl⟩) rfl rfl rfl (fun x K hK => ?_) ?_
  rotate_left
  ·go_big_quiet_op
   exact hK
  refine hoist [] [] (a1 := ?_) 9 rfl (by kernel_rfl) (.inl ⟨rfl, rfl⟩) rfl rfl rfl (fun x K hK => ?_) ?_
  rotate_left
  ·go_big_quiet_op
   exact hK
  refine hoist [] [] (a1 := ?_) 10 rfl (by kernel_rfl) (.inl ⟨rfl, rfl⟩) rfl rfl rfl (fun x K hK => ?_) ?_
  rotate_left
  ·go_big_quiet_op
   exact hK
  refine hoist [] [] (a1 := ?_) 11 rfl (by kernel_rfl) (.inl ⟨rfl, rfl⟩) rfl rfl rfl (fun x K hK => ?_) ?_
  rotate_left
  ·go_big_quiet_op
   exact hK
  refine hoist [] [] (a1 := ?_) 12 rfl (by kernel_rfl) (.inl ⟨rfl, rfl⟩) rfl rfl rfl (fun x K hK => ?_) ?_
  rotate_left
  ·go_big_quiet_op
   exact hK
  refine tail 13 rfl (by kernel_rfl) rfl (fun xr => ?_)
  simp only [List.drop_succ_cons, List.drop_zero]
  clear q0 q1 q2 l0 l1
  go_wp2_with fail
  refine Calls.mono (must_no 2 xr.now) ?_
  rintro e w' ⟨rfl, rfl⟩
  exact ⟨rfl, rfl, T3.out.trans (xr.bw.still _)⟩
 ·obtain ⟨h255, rfl⟩ : 255 < words ∧ k = 3 := by omega
  clear hk
  have d255 : decide ((words : Int) ≤ 255) = false := by simp; omega
  go_enter Tryz.func125, Tryz.ntmps125
  go_wp2_with fail
  refine Calls.mono (c1 w hr.out hv.out).out ?_
  rintro e w1 ⟨rfl, R1, T1⟩
  have V1 := Lib.hid (hv.out.still T1 (fun k hk => by simpa using (hg k hk).1))
  have P1 := hp.out.still T1 (by simpa using hgp.symm)
  have f6 := P1.frz 6
  have f7 := P1.frz 7
  have e6 : w1.cell? ⟨p, 6, none⟩ = some (.bool ex) := P1.cell 6
  have e7 : w1.cell? ⟨p, 7, none⟩ = some (.int .u16 (pf : Nat)) := P1.cell 7
  have P2 : Hid (PkV ((w1.setCell ⟨p, 6, none⟩ (.bool true)).setCell ⟨p, 7, none⟩ (.int .u16 (X : Nat))) p (rtpC mk ty sq st so ov true X ev pv pd)) := (P1.set 6 (.bool true)).set 7 (.int .u16 (X : Nat))
  have T2a : Still [p] w1 ((w1.setCell ⟨p, 6, none⟩ (.bool true)).setCell ⟨p, 7, none⟩ (.int .u16 (X : Nat))) := (still_setCR w1 p 6 _).trans (still_setCR _ p 7 _)
  have T2 := Lib.hid ((T1.sub (S' := [g, p]) (by simp)).trans (T2a.sub (by simp)))
  have R2 := Lib.hid (R1.still T2a (by simpa using hgp))
  have V2 := Lib.hid (V1.out.still T2a (fun k hk => by simpa using (hg k hk).2))
  replace P1 := Lib.hid P1
  replace R1 := Lib.hid R1
  replace T1 := Lib.hid T1
  replace T2a := Lib.hid T2a
  dsimp only
  go_upto_region 1 with (fail)
  generalize (w1.setCell ⟨p, 6, none⟩ (.bool true)).setCell ⟨p, 7, none⟩ (.int .u16 (X : Nat)) = w2 at *
  clear P1 R1 T1 T2a f6 f7 e6 e7 c1
  go_wp2_with fail
  refine Calls.mono (c2 w2 R2.out V2.out).out ?_
  rintro e w3 ⟨rfl, R3, T3⟩
  have V3 := Lib.hid (V2.out.still T3 (fun k hk => by simpa using (hg k hk).1))
  have P3 := Lib.hid (P2.out.still T3 (by simpa using hgp.symm))
  replace T3 := Lib.hid (T2.out.trans (T3.sub (by simp)))
  replace R3 := Lib.hid R3
  clear c2 R2 V2 P2 T2
  dsimp only
  go_upto_region 2 with (fail)
  obtain ⟨sa, cap, rfl, hcap, hm⟩ := V3.out.len
  unfold maxLen at hm
  obtain ⟨c0, c1', _⟩ := R3.out.cells
  have l0 : ∀ x : LaterS [] w3, x.now.cell? ⟨g, 0, none⟩ = some (.slice sa len cap) := fun x => x.cell c0 (by simp)
  have l1 : ∀ x : LaterS [] w3, x.now.cell? ⟨g, 1, none⟩ = some (.int .i64 (at_ + 2 + 2 : Nat)) := fun x => x.cell c1' (by simp)
  have q0 : IntKind.i64.wrap (4 * (words : Int)) = 4 * (words : Int) := IntWalk.i64_in _ (by omega)
  have q1 : IntKind.i64.wrap ((len : Int) - ((at_ + 2 + 2 : Nat) : Int)) = (len : Int) - ((at_ + 2 + 2 : Nat) : Int) := IntWalk.i64_in _ (by omega)
  have q2 : decide (4 * (words : Int) ≤ (len : Int) - ((at_ + 2 + 2 : Nat) : Int)) = true := by simp; omega
  clear c0 c1'
  generalize hA : at_ + 2 + 2 = A at *
  replace hA := Lib.hid hA
  refine wp_region_gg [] [] [13] (by kernel_rfl) ?_
  refine hoist [] [] (a1 := ?_) 0 rfl (by kernel_rfl) (.inl ⟨rfl, rfl⟩) rfl rfl rfl (fun x K hK => ?_) ?_
  rotate_left
  ·go_big_quiet_op
   exact hK
  refine hoist [] [] (a1 := ?_) 1 rfl (by kernel_rfl) (.inl ⟨rfl, rfl⟩) rfl rfl rfl (fun x K hK => ?_) ?_
  rotate_left
  ·go_big_quiet_op
   exact hK
  refine hoist [] [] (a1 := ?_) 2 rfl (by kernel_rfl) (.inl ⟨rfl, rfl⟩) rfl rfl rfl (fun x K hK => ?_) ?_
  rotate_left
  ·go_big_quiet_op
   exact hK
  refine hoist [] [] (a1 := ?_) 3 rfl (by kernel_rfl) (.inl ⟨rfl, rfl⟩) rfl rfl rfl (fun x K hK => ?_) ?_
  rotate_left
  ·go_big_quiet_op
   exact hK
  refine hoist [] [] (a1 := ?_) 4 rfl (by kernel_rfl) (.inl ⟨rfl, rfl⟩) rfl rfl rfl (fun x K hK => ?_) ?_
  rotate_left
  ·go_big_quiet_op
   exact hK
  refine hoist [] [] (a1 := ?_) 5 rfl (by kernel_rfl) (.inl ⟨rfl, rfl⟩) rfl rfl rfl (fun x K hK => ?_) ?_
  rotate_left
  ·go_big_quiet_op
   exact hK
  refine hoist [] [] (a1 := ?_) 6 rfl (by kernel_rfl) (.inl ⟨rfl, rfl⟩) rfl rfl rfl (fun x K hK => ?_) ?_
  rotate_left
  ·go_big_quiet_op
   exact hK
  refine hoist [] [] (a1 := ?_) 7 rfl (by kernel_rfl) (.inl ⟨rfl, rfl⟩) rfl rfl rfl (fun x K hK => ?_) ?_
  rotate_left
  ·go_big_quiet_op
   exact hK
  refine hoist [] [] (a1 := ?_) 8 rfl (by kernel_rfl) (.inl ⟨rfl, rfl⟩) rfl rfl rfl (fun x K hK => ?_) ?_
  rotate_left
  ·go_big_quiet_op
   exact hK
  refine hoist [] [] (a1 := ?_) 9 rfl (by kernel_rfl) (.inl ⟨rfl, rfl⟩) rfl rfl rfl (fun x K hK => ?_) ?_
  rotate_left
  ·go_big_quiet_op
   exact hK
  refine hoist [] [] (a1 := ?_) 10 rfl (by kernel_rfl) (.inl ⟨rfl, rfl⟩) rfl rfl rfl (fun x K hK => ?_) ?_
  rotate_left
  ·go_big_quiet_op
   exact hK
  refine hoist [] [] (a1 := ?_) 11 rfl (by kernel_rfl) (.inl ⟨rfl, rfl⟩) rfl rfl rfl (fun x K hK => ?_) ?_
  rotate_left
  ·go_big_quiet_op
   exact hK
  refine hoist [] [] (a1 := ?_) 12 rfl (by kernel_rfl) (.inl ⟨rfl, rfl⟩) rfl rfl rfl (fun x K hK => ?_) ?_
  rotate_left
  ·go_big_quiet_op
   exact hK
  refine tail 13 rfl (by kernel_rfl) rfl (fun xr => ?_)
  simp only [List.drop_succ_cons, List.drop_zero]
  clear q0 q1 q2 l0 l1
  go_wp2_with fail
  refine Calls.mono (must_ok 2 xr.now) ?_
  rintro e w' ⟨rfl, rfl⟩
  dsimp only
  go_wp2_with fail
  refine Calls.mono (must_no 3 xr.now) ?_
  rintro e w' ⟨rfl, rfl⟩
  exact ⟨rfl, rfl, T3.out.trans (xr.bw.still _)⟩
end Go.Proofs.YtikmhlbpefednaaGreat

namespace Go.Proofs.YtikmhlbpefednaaGreat
open Go.RowKit
theorem rbits_all : (List.range 256).all (fun x => ((bits .and .u8 (x : Int) 128 != 0) == (x / 128 == 1)) && (bits .andNot .u8 (x : Int) 128 == ((x % 128 : Nat) : Int)) && (bits .and .u8 (x : Int) 15 == ((x % 16 : Nat) : Int)) && ((bits .and .u8 (x : Int) 16 != 0) == (x / 16 % 2 == 1)) && ((bits .and .u8 (x : Int) 32 != 0) == (x / 32 % 2 == 1))) = true := by kernel_rfl
theorem rbits (x : Nat) (h : x < 256) : (bits .and .u8 (x : Int) 128 != 0) = (x / 128 == 1) ∧ bits .andNot .u8 (x : Int) 128 = ((x % 128 : Nat) : Int) ∧ bits .and .u8 (x : Int) 15 = ((x % 16 : Nat) : Int) ∧ (bits .and .u8 (x : Int) 16 != 0) = (x / 16 % 2 == 1) ∧ (bits .and .u8 (x : Int) 32 != 0) = (x / 32 % 2 == 1) := by
 have a := List.all_eq_true.1 rbits_all x (List.mem_range.2 h)
 rw [Bool.and_eq_true, Bool.and_eq_true, Bool.and_eq_true, Bool.and_eq_true] at a
 obtain ⟨⟨⟨⟨a1, a2⟩, a3⟩, a4⟩, a5⟩ := a
 exact ⟨eq_of_beq a1, eq_of_beq a2, eq_of_beq a3, eq_of_beq a4, eq_of_beq a5⟩
end Go.Proofs.YtikmhlbpefednaaGreat

namespace Go.Proofs.YtikmhlbpefednaaGreat
open Go.RowKit
theorem slU32' : SlTy Tryz.prog 34 33 1 4 := SlTy.mk' Tryz.underlying34 (by kernel_rfl) (by decide)
def nz (l : List Nat) : List Int := l.map fun (n : Nat) => (n : Int)
def RtpO (w : World) (base : Nat) (c : Array Value) (d : RtpD) : Prop :=
 ∃ ov ev pv, c = rtpC d.marker d.typ d.seq d.stamp d.source ov d.ext d.profile ev pv d.pad ∧ NO w base 33 .u32 ov d.others.length (nz d.others) ∧ OB w base 5 ev d.extra.length d.extra ∧ OB w base 5 pv d.payload.length d.payload
def RtpV (w : World) (c : Array Value) (d : RtpD) : Prop :=
 ∃ ov ev pv, c = rtpC d.marker d.typ d.seq d.stamp d.source ov d.ext d.profile ev pv d.pad ∧ NB w .u32 ov d.others.length (nz d.others) ∧ SB w ev d.extra.length d.extra ∧ SB w pv d.payload.length d.payload
theorem RtpO.v {w : World} {base : Nat} {c : Array Value} {d : RtpD} (h : RtpO w base c d) : RtpV w c d := by
 obtain ⟨ov, ev, pv, rfl, h1, h2, h3⟩ := h
 exact ⟨ov, ev, pv, rfl, h1.nb, h2.sb, h3.sb⟩
theorem RtpO.bw {w w' : World} {base : Nat} {c : Array Value} {d : RtpD} (h : RtpO w base c d) (hb : BW w w') : RtpO w' base c d := by
 obtain ⟨ov, ev, pv, rfl, h1, h2, h3⟩ := h
 exact ⟨ov, ev, pv, rfl, h1.bw hb, h2.bw hb, h3.bw hb⟩
theorem RtpV.bw {w w' : World} {c : Array Value} {d : RtpD} (h : RtpV w c d) (hb : BW w w') : RtpV w' c d := by
 obtain ⟨ov, ev, pv, rfl, h1, h2, h3⟩ := h
 exact ⟨ov, ev, pv, rfl, h1.bw hb, h2.bw hb, h3.bw hb⟩
theorem RtpO.up {w : World} {base base' : Nat} {c : Array Value} {d : RtpD} (h : RtpO w base c d) (hb : base' ≤ base) : RtpO w base' c d := by
 obtain ⟨ov, ev, pv, rfl, h1, h2, h3⟩ := h
 exact ⟨ov, ev, pv, rfl, h1.up hb, h2.up hb, h3.up hb⟩
def zC : Array Value := rtpC false 0 0 0 0 (.slice none 0 0) false 0 (.slice none 0 0) (.slice none 0 0) 0
theorem RtpO.zero (w : World) (base : Nat) : RtpO w base zC rZero := ⟨_, _, _, rfl, NO.nil _ _ _ _, OB.nil _ _ _, OB.nil _ _ _⟩
def PkPost (g : Nat) (R : Nat × Nat × RtpD) (w : World) (e : Ending) (w' : World) : Prop :=
 (R.1 = 0 ∧ ∃ c, e = .returned (.tuple #[.agg c, .int .i64 (R.2.1 : Nat)]) ∧ RtpO w' w.heap.size c R.2.2 ∧ Still [g] w w') ∨ (R.1 ≠ 0 ∧ e = gaveUp R.1 ∧ Still [g] w w')
theorem PkPost.no {g : Nat} {R : Nat × Nat × RtpD} {w w' : World} {e : Ending} (k : Nat) (hk : R.1 = k) (h0 : k ≠ 0) (he : e = gaveUp k) (hs : Still [g] w w') : PkPost g R w e w' :=
 .inr ⟨by rw [hk]; exact h0, by rw [hk]; exact he, hs⟩
theorem nm_one (l : List Nat) (i : Nat) (h : i < l.length) : nm l i 1 = l.getD i 0 := by
 unfold nm
 rw [List.drop_eq_getElem_cons h, List.take_succ_cons, List.take_zero, List.getD_eq_getElem?_getD, List.getElem?_eq_getElem h]
 simp [numB]
theorem Still.own2 {S0 S : List Nat} {a b c : World} (T : Still S0 a b) (h : Still S b c) (hS : ∀ k ∈ S, k ∈ S0 ∨ a.heap.size ≤ k) : Still S0 a c := by
 refine ⟨h.os.trans T.os, h.tape.trans T.tape, h.output.trans T.output, Nat.le_trans T.size h.size, fun k hk hs => ?_⟩
 rw [h.block k (Nat.lt_of_lt_of_le hk T.size) (fun hm => (hS k hm).elim hs (fun hl => Nat.lt_irrefl _ (Nat.lt_of_lt_of_le hk hl))), T.block k hk hs]
theorem SB.own_lt {w : World} {v : Value} {n : Nat} {l : List Nat} (h : SB w v n l) (h0 : 0 < n) (k : Nat) (hk : v.ownBlock = some k) : k < w.heap.size := by
 obtain ⟨b, o, cap, rfl, _, _, h3, _⟩ := h.2.2.form h0
 obtain rfl : b = k := by simpa [Value.ownBlock] using hk
 exact h3
theorem readN_at (l : List Nat) {x0 k : Nat} {xb pb : Bool} (h1 : ¬ 1200 < l.length) (h2 : ¬ l.length < 12) (e0 : l.getD 0 0 = x0) (h3 : ¬ x0 / 64 ≠ 2) (hk : x0 % 16 = k) (hx : (x0 / 16 % 2 == 1) = xb) (hp : (x0 / 32 % 2 == 1) = pb) (h4 : ¬ l.length < 12 + 4 * k) :
  readN l = (let x := rExt l xb (12 + 4 * k)
   if x.1 ≠ 0 then (x.1, 0, rZero)
   else match rPad pb (l.drop x.2.1) with
    | none => (3, 0, rZero)
    | some p => (0, x.2.1, ⟨l.getD 1 0 / 128 == 1, l.getD 1 0 % 128, nm l 2 2, nm l 4 4, nm l 8 4, rOthers l k, xb, x.2.2.1, x.2.2.2, (l.drop x.2.1).take (l.length - x.2.1 - p), p⟩)) := by
 unfold readN
 rw [if_neg h1, if_neg h2, e0, if_neg h3, hk, if_neg h4, hx, hp]
 rfl
theorem rExt_no (l : List Nat) (A len : Nat) (hl : l.length = len) (h : ¬ (A + 4 + 4 * nm l (A + 2) 2 ≤ len ∧ nm l (A + 2) 2 ≤ 255)) : ∃ k, ((len < A + 4 ∧ k = 2) ∨ (A + 4 ≤ len ∧ len < A + 4 + 4 * nm l (A + 2) 2 ∧ k = 2) ∨ (A + 4 + 4 * nm l (A + 2) 2 ≤ len ∧ 255 < nm l (A + 2) 2 ∧ k = 3)) ∧ rExt l true A = (k, 0, 0, []) ∧ k ≠ 0 := by
 unfold rExt
 rw [if_pos rfl, hl]
 by_cases a : len < A + 4
 ·exact ⟨2, .inl ⟨a, rfl⟩, by rw [if_pos a], by decide⟩
 by_cases b : len < A + 4 + 4 * nm l (A + 2) 2
 ·exact ⟨2, .inr (.inl ⟨by omega, b, rfl⟩), by rw [if_neg a, if_pos b], by decide⟩
 ·exact ⟨3, .inr (.inr ⟨by omega, by omega, rfl⟩), by rw [if_neg a, if_neg b, if_pos (by omega)], by decide⟩
theorem rExt_ok (l : List Nat) (A len : Nat) (hl : l.length = len) (h : A + 4 + 4 * nm l (A + 2) 2 ≤ len ∧ nm l (A + 2) 2 ≤ 255) : rExt l true A = (0, A + 4 + 4 * nm l (A + 2) 2, nm l A 2, (l.drop (A + 4)).take (4 * nm l (A + 2) 2)) := by
 unfold rExt
 rw [if_pos rfl, hl, if_neg (by omega), if_neg (by omega), if_neg (by omega)]
theorem still_set11 (w : World) (z : Nat) (v0 v1 v2 v3 v4 v5 v6 v7 v8 v9 v10 : Value) : Still [z] w (((((((((((w.setCell ⟨z, 0, none⟩ v0).setCell ⟨z, 1, none⟩ v1).setCell ⟨z, 2, none⟩ v2).setCell ⟨z, 3, none⟩ v3).setCell ⟨z, 4, none⟩ v4).setCell ⟨z, 5, none⟩ v5).setCell ⟨z, 6, none⟩ v6).setCell ⟨z, 7, none⟩ v7).setCell ⟨z, 8, none⟩ v8).setCell ⟨z, 9, none⟩ v9).setCell ⟨z, 10, none⟩ v10) :=
 (((((((((((still_setCR w z 0 v0).trans (still_setCR _ z 1 v1)).trans (still_setCR _ z 2 v2)).trans (still_setCR _ z 3 v3)).trans (still_setCR _ z 4 v4)).trans (still_setCR _ z 5 v5)).trans (still_setCR _ z 6 v6)).trans (still_setCR _ z 7 v7)).trans (still_setCR _ z 8 v8)).trans (still_setCR _ z 9 v9)).trans (still_setCR _ z 10 v10))
theorem set11_arr (c : Array Value) (hc : c.size = 11) (v0 v1 v2 v3 v4 v5 v6 v7 v8 v9 v10 : Value) : (((((((((((c.setIfInBounds 0 v0).setIfInBounds 1 v1).setIfInBounds 2 v2).setIfInBounds 3 v3).setIfInBounds 4 v4).setIfInBounds 5 v5).setIfInBounds 6 v6).setIfInBounds 7 v7).setIfInBounds 8 v8).setIfInBounds 9 v9).setIfInBounds 10 v10) = #[v0, v1, v2, v3, v4, v5, v6, v7, v8, v9, v10] := by
 obtain ⟨l⟩ := c
 match l, hc with
 | [_, _, _, _, _, _, _, _, _, _, _], _ => simp only [List.setIfInBounds_toArray, List.set_cons_zero, List.set_cons_succ]
theorem PkV.set11 {w : World} {z : Nat} {c : Array Value} (h : PkV w z c) (hc : c.size = 11) (v0 v1 v2 v3 v4 v5 v6 v7 v8 v9 v10 : Value) : PkV (((((((((((w.setCell ⟨z, 0, none⟩ v0).setCell ⟨z, 1, none⟩ v1).setCell ⟨z, 2, none⟩ v2).setCell ⟨z, 3, none⟩ v3).setCell ⟨z, 4, none⟩ v4).setCell ⟨z, 5, none⟩ v5).setCell ⟨z, 6, none⟩ v6).setCell ⟨z, 7, none⟩ v7).setCell ⟨z, 8, none⟩ v8).setCell ⟨z, 9, none⟩ v9).setCell ⟨z, 10, none⟩ v10) z #[v0, v1, v2, v3, v4, v5, v6, v7, v8, v9, v10] := by
 have k := ((((((((((h.set 0 v0).set 1 v1).set 2 v2).set 3 v3).set 4 v4).set 5 v5).set 6 v6).set 7 v7).set 8 v8).set 9 v9).set 10 v10
 rw [set11_arr c hc] at k
 exact k
end Go.Proofs.YtikmhlbpefednaaGreat
