/- rtp's reader: must, num, take. No condition. -/
import Derived.Test.YtgiajnfmjpdodaaRtA
import Derived.Test.YtgiajnfmjpdodaaNum
import Derived.Test.YtgiajnfmjpdodaaArB
import Derived.Test.YtgiajnfmjpdodaaCln
namespace Go.Proofs.Ytgiajnfmjpdodaa
open Go.RowKit

/-- It gives up with an error. -/
def gaveUp (k : Nat) : Ending := .panicked [{ v := .iface 137 (.agg #[.int .i64 (k : Nat)]), recovered := false }]

set_option maxRecDepth 100000 in
set_option maxHeartbeats 8000000 in
theorem must_ok (k : Nat) (w : World) : Calls Try.prog 111 #[.bool true, .int .i64 (k : Nat)] w fun e w' => e = .returned (.tuple #[]) ∧ w = w' := by
  go_enter Try.func111, Try.ntmps111
  go_wp2
  go_end0
  exact ⟨rfl, rfl⟩
set_option maxRecDepth 100000 in
set_option maxHeartbeats 8000000 in
theorem must_no (k : Nat) (w : World) : Calls Try.prog 111 #[.bool false, .int .i64 (k : Nat)] w fun e w' => e = gaveUp k ∧ w = w' := by
  go_enter Try.func111, Try.ntmps111
  go_wp2
  exact ⟨rfl, rfl, rfl⟩

/-- A reader along the bytes v, at a place. -/
def Rdr (w : World) (g : Nat) (v : Value) (at_ : Nat) : Prop := HpB w g (.cells #[v, .int .i64 (at_ : Nat)] 141)
theorem Rdr.bw {w w' : World} {g : Nat} {v : Value} {at_ : Nat} (h : Rdr w g v at_) (hb : BW w w') : Rdr w' g v at_ := HpB.bw h hb
theorem Rdr.still {w w' : World} {g : Nat} {v : Value} {at_ : Nat} (h : Rdr w g v at_) {S : List Nat} (hs : Still S w w') (hg : g ∉ S) : Rdr w' g v at_ := hp_st hs h hg
theorem Rdr.cells {w : World} {g : Nat} {v : Value} {at_ : Nat} (h : Rdr w g v at_) : w.cell? ⟨g, 0, none⟩ = some v ∧ w.cell? ⟨g, 1, none⟩ = some (.int .i64 (at_ : Nat)) ∧ w.frozen? ⟨g, 1, none⟩ = false := ⟨hp_cell h 0, hp_cell h 1, hp_frz h 1⟩
theorem Rdr.set {w : World} {g : Nat} {v : Value} {at_ : Nat} (h : Rdr w g v at_) (b : Nat) : Rdr (w.setCell ⟨g, 1, none⟩ (.int .i64 (b : Nat))) g v b := hp_set h 1 _
theorem still_setCR (w : World) (g o : Nat) (v : Value) : Still [g] w (w.setCell ⟨g, o, none⟩ v) := by
  refine ⟨rfl, rfl, rfl, by simp [World.setCell], fun k _ hk => ?_⟩
  exact hp_oth (by simpa using hk)

set_option maxRecDepth 100000 in
set_option maxHeartbeats 8000000 in
theorem num_no (v : Value) (len : Nat) (l : List Nat) (at_ n : Nat) (hn1 : 1 ≤ n) (hn8 : n ≤ 8) (hat : at_ ≤ len) (hno : len < at_ + n) (w : World) (hv : SB w v len l) :
    Calls Try.prog 105 #[v, .int .i64 (at_ : Nat), .int .i64 (n : Nat)] w fun e w' => e = .returned (.tuple #[.int .u64 0, .bool false]) ∧ w = w' := by
  obtain ⟨sa, cap, rfl, _, hm⟩ := hv.len
  unfold maxLen at hm
  replace hv := Lib.hid hv
  have h1 : ¬ (n : Int) < 1 := by omega
  have h2 : ¬ (8 : Int) < n := by omega
  have h3 : ¬ (at_ : Int) < 0 := by omega
  have h4 : ¬ (len : Int) < at_ := by omega
  have h5 : (len : Int) - at_ < n := by omega
  go_enter Try.func105, Try.ntmps105
  go_wp2
  all_goals
    go_ret2
    exact ⟨rfl, rfl⟩

set_option maxRecDepth 100000 in
set_option maxHeartbeats 8000000 in
theorem rnum_ok' (g at_ n : Nat) (l : List Nat) (v : Value) (len : Nat) (hn1 : 1 ≤ n) (hn8 : n ≤ 8) (hat : at_ + n ≤ len) (hlen : len ≤ 1000000000000) (w : World) (hr : Rdr w g v at_) (hv : SB w v len l) :
    Calls Try.prog 112 #[.pointer (some ⟨g, 0, none⟩), .int .i64 (n : Nat)] w fun e w' => e = .returned (.int .u64 (nm l at_ n : Nat)) ∧ Rdr w' g v (at_ + n) ∧ Still [g] w w' := by
  have hnm : Hid (nm l at_ n = numB ((l.drop at_).take n)) := rfl
  have cn := fun wz hv => Lib.hid (num_ok v len l at_ n at_ n hn1 hn8 hat rfl rfl wz hv)
  rw [← hnm.out] at cn
  generalize nm l at_ n = x at *
  obtain ⟨c0, c1, f1⟩ := hr.cells
  have l0 : ∀ x : LaterS [] w, x.now.cell? ⟨g, 0, none⟩ = some v := fun x => x.cell c0 (by simp)
  have l1 : ∀ x : LaterS [] w, x.now.cell? ⟨g, 1, none⟩ = some (.int .i64 (at_ : Nat)) := fun x => x.cell c1 (by simp)
  obtain ⟨sa, cap, rfl, _, hm⟩ := hv.len
  replace hr := Lib.hid hr
  replace hv := Lib.hid hv
  clear c0 c1 f1
  go_enter Try.func112, Try.ntmps112
  go_upto_region 1 with (fail)
  refine wp_region_gg [] [] [] (by kernel_rfl) ?_
  refine hoist [] [] (a1 := ?_) 0 rfl (by kernel_rfl) (.inl ⟨rfl, rfl⟩) rfl rfl rfl (fun x K hK => ?_) ?_
  rotate_left
  · go_big_quiet_op
    exact hK
  refine hoist [] [] (a1 := ?_) 1 rfl (by kernel_rfl) (.inl ⟨rfl, rfl⟩) rfl rfl rfl (fun x K hK => ?_) ?_
  rotate_left
  · go_big_quiet_op
    exact hK
  refine hoist [] [] (a1 := ?_) 2 rfl (by kernel_rfl) (.inl ⟨rfl, rfl⟩) rfl rfl rfl (fun x K hK => ?_) ?_
  rotate_left
  · go_big_quiet_op
    exact hK
  refine hoist [] [] (a1 := ?_) 3 rfl (by kernel_rfl) (.inl ⟨rfl, rfl⟩) rfl rfl rfl (fun x K hK => ?_) ?_
  rotate_left
  · go_big_quiet_op
    exact hK
  refine hoist [] [] (a1 := ?_) 4 rfl (by kernel_rfl) (.inl ⟨rfl, rfl⟩) rfl rfl rfl (fun x K hK => ?_) ?_
  rotate_left
  · go_big_quiet_op
    exact hK
  refine hoist [] [] (a1 := ?_) 5 rfl (by kernel_rfl) (.inl ⟨rfl, rfl⟩) rfl rfl rfl (fun x K hK => ?_) ?_
  rotate_left
  · go_big_quiet_op
    exact hK
  refine hoist [] [] (a1 := ?_) 6 rfl (by kernel_rfl) (.inl ⟨rfl, rfl⟩) rfl rfl rfl (fun x K hK => ?_) ?_
  rotate_left
  · go_big_quiet_op
    exact hK
  refine hoist [] [] (a1 := ?_) 7 rfl (by kernel_rfl) (.inl ⟨rfl, rfl⟩) rfl rfl rfl (fun x K hK => ?_) ?_
  rotate_left
  · go_big_quiet_op
    exact hK
  refine hoist [] [] (a1 := ?_) 8 rfl (by kernel_rfl) (.inl ⟨rfl, rfl⟩) rfl rfl rfl (fun x K hK => ?_) ?_
  rotate_left
  · go_big_quiet_op
    exact hK
  refine hoist_call [] [] (a1 := ?_) 9 rfl (by kernel_rfl) (.inl ⟨rfl, rfl⟩) rfl rfl rfl (fun x K hK => ?_) ?_
  rotate_left
  · go_big_quiet_op
    apply Exists.intro
    refine ⟨fun y => ?_, ?_⟩
    · exact ((cn y.now (hv.out.bw (x.bw.trans y.bw))).out).mono fun _ _ h => ⟨h.1, y, h.2.symm⟩
    · exact hK
  refine hoist [] [] (a1 := ?_) 10 rfl (by kernel_rfl) (.inl ⟨rfl, rfl⟩) rfl rfl rfl (fun x K hK => ?_) ?_
  rotate_left
  · go_big_quiet_op
    exact hK
  refine hoist [] [] (a1 := ?_) 11 rfl (by kernel_rfl) (.inl ⟨rfl, rfl⟩) rfl rfl rfl (fun x K hK => ?_) ?_
  rotate_left
  · go_big_quiet_op
    exact hK
  refine hoist [] [] (a1 := ?_) 12 rfl (by kernel_rfl) (.inl ⟨rfl, rfl⟩) rfl rfl rfl (fun x K hK => ?_) ?_
  rotate_left
  · go_big_quiet_op
    exact hK
  refine hoist [] [] (a1 := ?_) 13 rfl (by kernel_rfl) (.inl ⟨rfl, rfl⟩) rfl rfl rfl (fun x K hK => ?_) ?_
  rotate_left
  · go_big_quiet_op
    exact hK
  refine hoist [] [] (a1 := ?_) 14 rfl (by kernel_rfl) (.inl ⟨rfl, rfl⟩) rfl rfl rfl (fun x K hK => ?_) ?_
  rotate_left
  · go_big_quiet_op
    exact hK
  refine done (by kernel_rfl) (fun xr => ?_)
  have R1 := hr.out.bw xr.bw
  obtain ⟨c0, c1, f1⟩ := R1.cells
  have R2 := Lib.hid (R1.set (at_ + n))
  have T2 := Lib.hid (((xr.ok.weaken (by simp)) : Still [g] w xr.now).trans (still_setCR xr.now g 1 (.int .i64 (at_ + n : Nat))))
  clear cn l0 l1
  replace R1 := Lib.hid R1
  go_wp2_with fail
  refine Calls.mono (must_ok 2 _) ?_
  rintro e w' ⟨rfl, rfl⟩
  dsimp only
  go_wp2_with fail
  go_ret
  exact ⟨rfl, R2.out, T2.out⟩

set_option maxRecDepth 100000 in
set_option maxHeartbeats 8000000 in
theorem rnum_no' (g at_ n : Nat) (l : List Nat) (v : Value) (len : Nat) (hn1 : 1 ≤ n) (hn8 : n ≤ 8) (hat : at_ ≤ len) (hno : len < at_ + n) (hlen : len ≤ 1000000000000) (w : World) (hr : Rdr w g v at_) (hv : SB w v len l) :
    Calls Try.prog 112 #[.pointer (some ⟨g, 0, none⟩), .int .i64 (n : Nat)] w fun e w' => e = gaveUp 2 ∧ Still [g] w w' := by
  have cn := fun wz hv => Lib.hid (num_no v len l at_ n hn1 hn8 hat hno wz hv)
  obtain ⟨c0, c1, f1⟩ := hr.cells
  have l0 : ∀ x : LaterS [] w, x.now.cell? ⟨g, 0, none⟩ = some v := fun x => x.cell c0 (by simp)
  have l1 : ∀ x : LaterS [] w, x.now.cell? ⟨g, 1, none⟩ = some (.int .i64 (at_ : Nat)) := fun x => x.cell c1 (by simp)
  obtain ⟨sa, cap, rfl, _, hm⟩ := hv.len
  replace hr := Lib.hid hr
  replace hv := Lib.hid hv
  clear c0 c1 f1
  go_enter Try.func112, Try.ntmps112
  go_upto_region 1 with (fail)
  refine wp_region_gg [] [] [] (by kernel_rfl) ?_
  refine hoist [] [] (a1 := ?_) 0 rfl (by kernel_rfl) (.inl ⟨rfl, rfl⟩) rfl rfl rfl (fun x K hK => ?_) ?_
  rotate_left
  · go_big_quiet_op
    exact hK
  refine hoist [] [] (a1 := ?_) 1 rfl (by kernel_rfl) (.inl ⟨rfl, rfl⟩) rfl rfl rfl (fun x K hK => ?_) ?_
  rotate_left
  · go_big_quiet_op
    exact hK
  refine hoist [] [] (a1 := ?_) 2 rfl (by kernel_rfl) (.inl ⟨rfl, rfl⟩) rfl rfl rfl (fun x K hK => ?_) ?_
  rotate_left
  · go_big_quiet_op
    exact hK
  refine hoist [] [] (a1 := ?_) 3 rfl (by kernel_rfl) (.inl ⟨rfl, rfl⟩) rfl rfl rfl (fun x K hK => ?_) ?_
  rotate_left
  · go_big_quiet_op
    exact hK
  refine hoist [] [] (a1 := ?_) 4 rfl (by kernel_rfl) (.inl ⟨rfl, rfl⟩) rfl rfl rfl (fun x K hK => ?_) ?_
  rotate_left
  · go_big_quiet_op
    exact hK
  refine hoist [] [] (a1 := ?_) 5 rfl (by kernel_rfl) (.inl ⟨rfl, rfl⟩) rfl rfl rfl (fun x K hK => ?_) ?_
  rotate_left
  · go_big_quiet_op
    exact hK
  refine hoist [] [] (a1 := ?_) 6 rfl (by kernel_rfl) (.inl ⟨rfl, rfl⟩) rfl rfl rfl (fun x K hK => ?_) ?_
  rotate_left
  · go_big_quiet_op
    exact hK
  refine hoist [] [] (a1 := ?_) 7 rfl (by kernel_rfl) (.inl ⟨rfl, rfl⟩) rfl rfl rfl (fun x K hK => ?_) ?_
  rotate_left
  · go_big_quiet_op
    exact hK
  refine hoist [] [] (a1 := ?_) 8 rfl (by kernel_rfl) (.inl ⟨rfl, rfl⟩) rfl rfl rfl (fun x K hK => ?_) ?_
  rotate_left
  · go_big_quiet_op
    exact hK
  refine hoist_call [] [] (a1 := ?_) 9 rfl (by kernel_rfl) (.inl ⟨rfl, rfl⟩) rfl rfl rfl (fun x K hK => ?_) ?_
  rotate_left
  · go_big_quiet_op
    apply Exists.intro
    refine ⟨fun y => ?_, ?_⟩
    · exact ((cn y.now (hv.out.bw (x.bw.trans y.bw))).out).mono fun _ _ h => ⟨h.1, y, h.2.symm⟩
    · exact hK
  refine hoist [] [] (a1 := ?_) 10 rfl (by kernel_rfl) (.inl ⟨rfl, rfl⟩) rfl rfl rfl (fun x K hK => ?_) ?_
  rotate_left
  · go_big_quiet_op
    exact hK
  refine hoist [] [] (a1 := ?_) 11 rfl (by kernel_rfl) (.inl ⟨rfl, rfl⟩) rfl rfl rfl (fun x K hK => ?_) ?_
  rotate_left
  · go_big_quiet_op
    exact hK
  refine hoist [] [] (a1 := ?_) 12 rfl (by kernel_rfl) (.inl ⟨rfl, rfl⟩) rfl rfl rfl (fun x K hK => ?_) ?_
  rotate_left
  · go_big_quiet_op
    exact hK
  refine hoist [] [] (a1 := ?_) 13 rfl (by kernel_rfl) (.inl ⟨rfl, rfl⟩) rfl rfl rfl (fun x K hK => ?_) ?_
  rotate_left
  · go_big_quiet_op
    exact hK
  refine hoist [] [] (a1 := ?_) 14 rfl (by kernel_rfl) (.inl ⟨rfl, rfl⟩) rfl rfl rfl (fun x K hK => ?_) ?_
  rotate_left
  · go_big_quiet_op
    exact hK
  refine done (by kernel_rfl) (fun xr => ?_)
  clear cn l0 l1
  go_wp2_with fail
  refine Calls.mono (must_no 2 _) ?_
  rintro e w' ⟨rfl, rfl⟩
  exact ⟨rfl, rfl, xr.ok.weaken (by simp)⟩

set_option maxRecDepth 100000 in
set_option maxHeartbeats 8000000 in
theorem rtake_ok (g at_ n : Nat) (l : List Nat) (v : Value) (len : Nat) (hat : at_ + n ≤ len) (hlen : len ≤ 1000000000000) (w : World) (hr : Rdr w g v at_) (hv : SB w v len l) (hg : ∀ k, v.ownBlock = some k → k ≠ g) :
    Calls Try.prog 114 #[.pointer (some ⟨g, 0, none⟩), .int .i64 (n : Nat)] w fun e w' => ∃ v', e = .returned v' ∧ OB w' w.heap.size 5 v' n ((l.drop at_).take n) ∧ Rdr w' g v (at_ + n) ∧ Still [g] w w' := by
  obtain ⟨c0, c1, f1⟩ := hr.cells
  have l0 : ∀ x : LaterS [] w, x.now.cell? ⟨g, 0, none⟩ = some v := fun x => x.cell c0 (by simp)
  have l1 : ∀ x : LaterS [] w, x.now.cell? ⟨g, 1, none⟩ = some (.int .i64 (at_ : Nat)) := fun x => x.cell c1 (by simp)
  obtain ⟨sa, cap, rfl, hcap, hm⟩ := hv.len
  unfold maxLen at hm
  replace hr := Lib.hid hr
  replace hv := Lib.hid hv
  clear c0 c1 f1
  have q1 : decide ((n : Int) ≤ (len : Int) - (at_ : Int)) = true := by simp; omega
  have q2 : IntKind.i64.wrap ((len : Int) - (at_ : Int)) = (len : Int) - (at_ : Int) := IntWalk.i64_in _ (by omega)
  go_enter Try.func114, Try.ntmps114
  go_upto_region 1 with (fail)
  refine wp_region_gg [] [] [12] (by kernel_rfl) ?_
  refine hoist [] [] (a1 := ?_) 0 rfl (by kernel_rfl) (.inl ⟨rfl, rfl⟩) rfl rfl rfl (fun x K hK => ?_) ?_
  rotate_left
  · go_big_quiet_op
    exact hK
  refine hoist [] [] (a1 := ?_) 1 rfl (by kernel_rfl) (.inl ⟨rfl, rfl⟩) rfl rfl rfl (fun x K hK => ?_) ?_
  rotate_left
  · go_big_quiet_op
    exact hK
  refine hoist [] [] (a1 := ?_) 2 rfl (by kernel_rfl) (.inl ⟨rfl, rfl⟩) rfl rfl rfl (fun x K hK => ?_) ?_
  rotate_left
  · go_big_quiet_op
    exact hK
  refine hoist [] [] (a1 := ?_) 3 rfl (by kernel_rfl) (.inl ⟨rfl, rfl⟩) rfl rfl rfl (fun x K hK => ?_) ?_
  rotate_left
  · go_big_quiet_op
    exact hK
  refine hoist [] [] (a1 := ?_) 4 rfl (by kernel_rfl) (.inl ⟨rfl, rfl⟩) rfl rfl rfl (fun x K hK => ?_) ?_
  rotate_left
  · go_big_quiet_op
    exact hK
  refine hoist [] [] (a1 := ?_) 5 rfl (by kernel_rfl) (.inl ⟨rfl, rfl⟩) rfl rfl rfl (fun x K hK => ?_) ?_
  rotate_left
  · go_big_quiet_op
    exact hK
  refine hoist [] [] (a1 := ?_) 6 rfl (by kernel_rfl) (.inl ⟨rfl, rfl⟩) rfl rfl rfl (fun x K hK => ?_) ?_
  rotate_left
  · go_big_quiet_op
    exact hK
  refine hoist [] [] (a1 := ?_) 7 rfl (by kernel_rfl) (.inl ⟨rfl, rfl⟩) rfl rfl rfl (fun x K hK => ?_) ?_
  rotate_left
  · go_big_quiet_op
    exact hK
  refine hoist [] [] (a1 := ?_) 8 rfl (by kernel_rfl) (.inl ⟨rfl, rfl⟩) rfl rfl rfl (fun x K hK => ?_) ?_
  rotate_left
  · go_big_quiet_op
    exact hK
  refine hoist [] [] (a1 := ?_) 9 rfl (by kernel_rfl) (.inl ⟨rfl, rfl⟩) rfl rfl rfl (fun x K hK => ?_) ?_
  rotate_left
  · go_big_quiet_op
    exact hK
  refine hoist [] [] (a1 := ?_) 10 rfl (by kernel_rfl) (.inl ⟨rfl, rfl⟩) rfl rfl rfl (fun x K hK => ?_) ?_
  rotate_left
  · go_big_quiet_op
    exact hK
  refine hoist [] [] (a1 := ?_) 11 rfl (by kernel_rfl) (.inl ⟨rfl, rfl⟩) rfl rfl rfl (fun x K hK => ?_) ?_
  rotate_left
  · go_big_quiet_op
    exact hK
  refine tail 12 rfl (by kernel_rfl) rfl (fun xr => ?_)
  simp only [List.drop_succ_cons, List.drop_zero]
  clear q2 l0 l1
  go_wp2_with fail
  refine Calls.mono (must_ok 2 xr.now) ?_
  rintro e w' ⟨rfl, rfl⟩
  dsimp only
  have R1 := hr.out.bw xr.bw
  obtain ⟨c0, c1, f1⟩ := R1.cells
  obtain ⟨m, em⟩ : ∃ m, at_ + n = m := ⟨_, rfl⟩
  have R2 : Hid (Rdr (xr.now.setCell ⟨g, 1, none⟩ (.int .i64 ((at_ : Int) + (n : Int)))) g (.slice sa len cap) (at_ + n)) := R1.set (at_ + n)
  have T2 := Lib.hid (((xr.ok.weaken (by simp)) : Still [g] w xr.now).trans (still_setCR xr.now g 1 (.int .i64 ((at_ : Int) + (n : Int)))))
  replace R1 := Lib.hid R1
  go_upto_region 3 with (fail)
  generalize xr.now.setCell ⟨g, 1, none⟩ (.int .i64 ((at_ : Int) + (n : Int))) = w2 at *
  rw [em] at R2
  have V2 := Lib.hid (hv.out.still T2.out (fun k hk => by simpa using hg k hk))
  obtain ⟨c0', c1', _⟩ := R2.out.cells
  have l0 : ∀ x : LaterS [] w2, x.now.cell? ⟨g, 0, none⟩ = some (.slice sa len cap) := fun x => x.cell c0' (by simp)
  have l1 : ∀ x : LaterS [] w2, x.now.cell? ⟨g, 1, none⟩ = some (.int .i64 (m : Nat)) := fun x => x.cell c1' (by simp)
  have q2 : IntKind.i64.wrap ((m : Int) - (n : Int)) = (m : Int) - (n : Int) := IntWalk.i64_in _ (by omega)
  have hc := fun w => run_cut_lh (P := Try.prog) Try.underlying22 info_u8 sa len cap at_ m ((m : Int) - (n : Int)) (m : Int) (by omega) rfl .i64 .i64 (by omega) (by omega) w
  have P2 := Lib.hid (V2.out.cut at_ m cap (by omega) (by omega) (by omega) (Nat.le_refl _))
  have en : m - at_ = n := by omega
  rw [en] at P2 hc
  replace en := Lib.hid en
  replace em := Lib.hid em
  clear c0' c1' c0 c1 f1
  refine wp_region_gg [] [] [] (by kernel_rfl) ?_
  refine hoist [] [] (a1 := ?_) 0 rfl (by kernel_rfl) (.inl ⟨rfl, rfl⟩) rfl rfl rfl (fun x K hK => ?_) ?_
  rotate_left
  · go_big_quiet_op
    exact hK
  refine hoist [] [] (a1 := ?_) 1 rfl (by kernel_rfl) (.inl ⟨rfl, rfl⟩) rfl rfl rfl (fun x K hK => ?_) ?_
  rotate_left
  · go_big_quiet_op
    exact hK
  refine hoist [] [] (a1 := ?_) 2 rfl (by kernel_rfl) (.inl ⟨rfl, rfl⟩) rfl rfl rfl (fun x K hK => ?_) ?_
  rotate_left
  · go_big_quiet_op
    exact hK
  refine hoist [] [] (a1 := ?_) 3 rfl (by kernel_rfl) (.inl ⟨rfl, rfl⟩) rfl rfl rfl (fun x K hK => ?_) ?_
  rotate_left
  · go_big_quiet_op
    exact hK
  refine hoist [] [] (a1 := ?_) 4 rfl (by kernel_rfl) (.inl ⟨rfl, rfl⟩) rfl rfl rfl (fun x K hK => ?_) ?_
  rotate_left
  · go_big_quiet_op
    exact hK
  refine hoist [] [] (a1 := ?_) 5 rfl (by kernel_rfl) (.inl ⟨rfl, rfl⟩) rfl rfl rfl (fun x K hK => ?_) ?_
  rotate_left
  · go_big_quiet_op
    exact hK
  refine hoist [] [] (a1 := ?_) 6 rfl (by kernel_rfl) (.inl ⟨rfl, rfl⟩) rfl rfl rfl (fun x K hK => ?_) ?_
  rotate_left
  · go_big_quiet_op
    exact hK
  refine hoist [] [] (a1 := ?_) 7 rfl (by kernel_rfl) (.inl ⟨rfl, rfl⟩) rfl rfl rfl (fun x K hK => ?_) ?_
  rotate_left
  · go_big_quiet_op
    exact hK
  refine hoist [] [] (a1 := ?_) 8 rfl (by kernel_rfl) (.inl ⟨rfl, rfl⟩) rfl rfl rfl (fun x K hK => ?_) ?_
  rotate_left
  · go_big_quiet_op
    exact hK
  refine hoist [] [] (a1 := ?_) 9 rfl (by kernel_rfl) (.inl ⟨rfl, rfl⟩) rfl rfl rfl (fun x K hK => ?_) ?_
  rotate_left
  · go_big_quiet_op
    exact hK
  refine hoist [] [] (a1 := ?_) 10 rfl (by kernel_rfl) (.inl ⟨rfl, rfl⟩) rfl rfl rfl (fun x K hK => ?_) ?_
  rotate_left
  · go_big_quiet_op
    exact hK
  refine hoist [] [] (a1 := ?_) 11 rfl (by kernel_rfl) (.inl ⟨rfl, rfl⟩) rfl rfl rfl (fun x K hK => ?_) ?_
  rotate_left
  · go_big_quiet_op
    exact hK
  refine hoist [] [] (a1 := ?_) 12 rfl (by kernel_rfl) (.inl ⟨rfl, rfl⟩) rfl rfl rfl (fun x K hK => ?_) ?_
  rotate_left
  · go_big_quiet_op
    exact hK
  refine hoist [] [] (a1 := ?_) 13 rfl (by kernel_rfl) (.inl ⟨rfl, rfl⟩) rfl rfl rfl (fun x K hK => ?_) ?_
  rotate_left
  · go_big_quiet_op
    exact hK
  refine hoist [] [] (a1 := ?_) 14 rfl (by kernel_rfl) (.inl ⟨rfl, rfl⟩) rfl rfl rfl (fun x K hK => ?_) ?_
  rotate_left
  · go_big_quiet_op
    exact hK
  refine effect 15 rfl (by kernel_rfl) (by kernel_rfl) rfl (fun x15 K hK => ?_)
  go_simp
  refine Calls.mono (clone_ok _ n _ _ (by omega) x15.now (P2.out.bw x15.bw)) ?_
  rintro e w3 ⟨v3, rfl, O3, hb⟩
  obtain ⟨s3, p3, rfl, _, _⟩ := O3.len
  refine hK _ _ (Still.of_below hb) ?_
  clear hK K
  have B3 := Lib.hid (BW.call x15.bw hb)
  have z := Nat.le_trans T2.out.size x15.bw.size
  replace O3 := Lib.hid (O3.up z)
  clear z hb
  try simp only [Act.put, List.setIfInBounds_toArray, List.set_cons_succ, List.set_cons_zero]
  refine hoist [] [] (a1 := ?_) 16 rfl (by kernel_rfl) (.inl ⟨rfl, rfl⟩) rfl rfl rfl (fun x K hK => ?_) ?_
  rotate_left
  · go_big_quiet_op
    exact hK
  refine done (by kernel_rfl) (fun xr => ?_)
  have R3 := R2.out.bw (B3.out.trans xr.bw)
  have T3 := T2.out.trans ((B3.out.trans xr.bw).still [g])
  go_wp2_with fail
  go_ret
  exact ⟨_, rfl, O3.out.bw xr.bw, by rw [em.out]; exact R3, T3⟩

set_option maxRecDepth 100000 in
set_option maxHeartbeats 8000000 in
theorem rtake_no (g at_ n : Nat) (v : Value) (len : Nat) (l : List Nat) (hat : at_ ≤ len) (hno : len < at_ + n) (hn : n ≤ 1000000000000) (hlen : len ≤ 1000000000000) (w : World) (hr : Rdr w g v at_) (hv : SB w v len l) :
    Calls Try.prog 114 #[.pointer (some ⟨g, 0, none⟩), .int .i64 (n : Nat)] w fun e w' => e = gaveUp 2 ∧ Still [g] w w' := by
  obtain ⟨c0, c1, f1⟩ := hr.cells
  have l0 : ∀ x : LaterS [] w, x.now.cell? ⟨g, 0, none⟩ = some v := fun x => x.cell c0 (by simp)
  have l1 : ∀ x : LaterS [] w, x.now.cell? ⟨g, 1, none⟩ = some (.int .i64 (at_ : Nat)) := fun x => x.cell c1 (by simp)
  obtain ⟨sa, cap, rfl, hcap, hm⟩ := hv.len
  unfold maxLen at hm
  replace hr := Lib.hid hr
  replace hv := Lib.hid hv
  clear c0 c1 f1
  have q1 : decide ((n : Int) ≤ (len : Int) - (at_ : Int)) = false := by simp; omega
  have q2 : IntKind.i64.wrap ((len : Int) - (at_ : Int)) = (len : Int) - (at_ : Int) := IntWalk.i64_in _ (by omega)
  go_enter Try.func114, Try.ntmps114
  go_upto_region 1 with (fail)
  refine wp_region_gg [] [] [12] (by kernel_rfl) ?_
  refine hoist [] [] (a1 := ?_) 0 rfl (by kernel_rfl) (.inl ⟨rfl, rfl⟩) rfl rfl rfl (fun x K hK => ?_) ?_
  rotate_left
  · go_big_quiet_op
    exact hK
  refine hoist [] [] (a1 := ?_) 1 rfl (by kernel_rfl) (.inl ⟨rfl, rfl⟩) rfl rfl rfl (fun x K hK => ?_) ?_
  rotate_left
  · go_big_quiet_op
    exact hK
  refine hoist [] [] (a1 := ?_) 2 rfl (by kernel_rfl) (.inl ⟨rfl, rfl⟩) rfl rfl rfl (fun x K hK => ?_) ?_
  rotate_left
  · go_big_quiet_op
    exact hK
  refine hoist [] [] (a1 := ?_) 3 rfl (by kernel_rfl) (.inl ⟨rfl, rfl⟩) rfl rfl rfl (fun x K hK => ?_) ?_
  rotate_left
  · go_big_quiet_op
    exact hK
  refine hoist [] [] (a1 := ?_) 4 rfl (by kernel_rfl) (.inl ⟨rfl, rfl⟩) rfl rfl rfl (fun x K hK => ?_) ?_
  rotate_left
  · go_big_quiet_op
    exact hK
  refine hoist [] [] (a1 := ?_) 5 rfl (by kernel_rfl) (.inl ⟨rfl, rfl⟩) rfl rfl rfl (fun x K hK => ?_) ?_
  rotate_left
  · go_big_quiet_op
    exact hK
  refine hoist [] [] (a1 := ?_) 6 rfl (by kernel_rfl) (.inl ⟨rfl, rfl⟩) rfl rfl rfl (fun x K hK => ?_) ?_
  rotate_left
  · go_big_quiet_op
    exact hK
  refine hoist [] [] (a1 := ?_) 7 rfl (by kernel_rfl) (.inl ⟨rfl, rfl⟩) rfl rfl rfl (fun x K hK => ?_) ?_
  rotate_left
  · go_big_quiet_op
    exact hK
  refine hoist [] [] (a1 := ?_) 8 rfl (by kernel_rfl) (.inl ⟨rfl, rfl⟩) rfl rfl rfl (fun x K hK => ?_) ?_
  rotate_left
  · go_big_quiet_op
    exact hK
  refine hoist [] [] (a1 := ?_) 9 rfl (by kernel_rfl) (.inl ⟨rfl, rfl⟩) rfl rfl rfl (fun x K hK => ?_) ?_
  rotate_left
  · go_big_quiet_op
    exact hK
  refine hoist [] [] (a1 := ?_) 10 rfl (by kernel_rfl) (.inl ⟨rfl, rfl⟩) rfl rfl rfl (fun x K hK => ?_) ?_
  rotate_left
  · go_big_quiet_op
    exact hK
  refine hoist [] [] (a1 := ?_) 11 rfl (by kernel_rfl) (.inl ⟨rfl, rfl⟩) rfl rfl rfl (fun x K hK => ?_) ?_
  rotate_left
  · go_big_quiet_op
    exact hK
  refine tail 12 rfl (by kernel_rfl) rfl (fun xr => ?_)
  simp only [List.drop_succ_cons, List.drop_zero]
  clear q2 l0 l1
  go_wp2_with fail
  refine Calls.mono (must_no 2 xr.now) ?_
  rintro e w' ⟨rfl, rfl⟩
  exact ⟨rfl, rfl, xr.ok.weaken (by simp)⟩
end Go.Proofs.Ytgiajnfmjpdodaa
