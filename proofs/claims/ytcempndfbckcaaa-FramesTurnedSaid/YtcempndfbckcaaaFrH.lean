/- Frames: Read, walked. No condition but the sizes'. -/
import Derived.Test.YtcempndfbckcaaaFrG
namespace Go.Proofs.Ytcempndfbckcaaa
open Go.RowKit

set_option maxRecDepth 100000 in
set_option maxHeartbeats 8000000 in
theorem frRead_any (sb : Option Addr) (n cb : Nat) (l : List Nat) (sk : Option Addr) (nk ck : Nat) (key : List Nat) (w : World) (h : SB w (.slice sb n cb) n l) (hk : SB w (.slice sk nk ck) nk key) (hn : n ≤ 1000000) (hnk : nk ≤ 1000000) :
    Calls Try.prog 25 #[.slice sb n cb, .slice sk nk ck] w (FrRdPost (rdF key l) w) := by
  have hR : rdF key l = if n < 25 then (2, zF) else if formF l = true ∨ smallF l = true then (3, zF) else if goodB key (l.take (n - 10)) (l.drop (n - 10)) = true then (0, frOf l (l.getD 14 0)) else (4, zF) := by rw [← h.1]; rfl
  have hForm : formF l = (!(kindB (l.getD 0 0)) || decide (16 < l.getD 14 0) || decide (n ≠ 25 + 4 * l.getD 14 0)) := by rw [← h.1]; rfl
  have hSm : smallF l = [(l.getD 1 0 : Int), (l.getD 10 0 : Int), (l.getD 11 0 : Int), (l.getD 12 0 : Int)].any badB := rfl
  obtain ⟨RR, hRR⟩ : ∃ RR, rdF key l = RR := ⟨_, rfl⟩
  rw [hRR] at hR ⊢
  clear hRR
  obtain ⟨_, _, he, hc, hm⟩ := h.len
  cases he
  obtain ⟨_, _, he, hkc, hkm⟩ := hk.len
  cases he
  unfold maxLen at hm hkm
  have hby := fun i => ByL.get h.2.1 i
  have hll := h.1
  have SBl := Lib.hid h.2.1
  have Z : Hid (HpB (w.alloc (.cells #[.int .i64 0, .int .i64 0, .int .u64 0, .int .i64 0, .int .i64 0, .int .i64 0, .int .i64 0, .slice none 0 0] 35)) w.heap.size (.cells #[.int .i64 0, .int .i64 0, .int .u64 0, .int .i64 0, .int .i64 0, .int .i64 0, .int .i64 0, .slice none 0 0] 35)) := HpB.new w _
  have B : Hid (BW w (w.alloc (.cells #[.int .i64 0, .int .i64 0, .int .u64 0, .int .i64 0, .int .i64 0, .int .i64 0, .int .i64 0, .slice none 0 0] 35))) := (BW.refl w).alloc
  have V := Lib.hid h
  have K := Lib.hid hk
  clear h hk
  unfold FrRdPost
  replace hR := Lib.hid hR
  replace hForm := Lib.hid hForm
  replace hSm := Lib.hid hSm
  replace hby := Lib.hid hby
  replace hll := Lib.hid hll
  go_enter Try.func25, Try.ntmps25
  go_upto_region 1 with (fail)
  generalize w.alloc (.cells #[.int .i64 0, .int .i64 0, .int .u64 0, .int .i64 0, .int .i64 0, .int .i64 0, .int .i64 0, .slice none 0 0] 35) = w1 at *
  by_cases h1 : n < 25
  · have d : decide ((n : Int) < 25) = true := by simp; omega
    have hRd := Lib.hid (hR.out.trans (if_pos h1))
    go_upto_region 2 with (fail)
    have z0 := hp_cell (Z.out) 0
    have y0 := hp_frz (Z.out) 0
    have z1 := hp_cell (Z.out) 1
    have y1 := hp_frz (Z.out) 1
    have z2 := hp_cell (Z.out) 2
    have y2 := hp_frz (Z.out) 2
    have z3 := hp_cell (Z.out) 3
    have y3 := hp_frz (Z.out) 3
    have z4 := hp_cell (Z.out) 4
    have y4 := hp_frz (Z.out) 4
    have z5 := hp_cell (Z.out) 5
    have y5 := hp_frz (Z.out) 5
    have z6 := hp_cell (Z.out) 6
    have y6 := hp_frz (Z.out) 6
    have z7 := hp_cell (Z.out) 7
    have y7 := hp_frz (Z.out) 7
    simp only [zFC, frC, List.getElem?_toArray, List.getElem?_cons_zero, List.getElem?_cons_succ] at z0 z1 z2 z3 z4 z5 z6 z7
    go_wp2_with fail
    clear z0 z1 z2 z3 z4 z5 z6 z7 y0 y1 y2 y3 y4 y5 y6 y7
    have TS := still_st8 w1 w.heap.size (.int .i64 0) (.int .i64 0) (.int .u64 0) (.int .i64 0) (.int .i64 0) (.int .i64 0) (.int .i64 0) (.slice none 0 0)
    have Z4 := Z.out.st8 rfl (.int .i64 0) (.int .i64 0) (.int .u64 0) (.int .i64 0) (.int .i64 0) (.int .i64 0) (.int .i64 0) (.slice none 0 0)
    have T4 := B.out.stP TS (by simp)
    have z0 := hp_cell (Z4) 0
    have z1 := hp_cell (Z4) 1
    have z2 := hp_cell (Z4) 2
    have z3 := hp_cell (Z4) 3
    have z4 := hp_cell (Z4) 4
    have z5 := hp_cell (Z4) 5
    have z6 := hp_cell (Z4) 6
    have z7 := hp_cell (Z4) 7
    simp only [List.getElem?_toArray, List.getElem?_cons_zero, List.getElem?_cons_succ] at z0 z1 z2 z3 z4 z5 z6 z7
    have V4 := FrV.zero ((((((((w1.setCell ⟨w.heap.size, 0, none⟩ (.int .i64 0)).setCell ⟨w.heap.size, 1, none⟩ (.int .i64 0)).setCell ⟨w.heap.size, 2, none⟩ (.int .u64 0)).setCell ⟨w.heap.size, 3, none⟩ (.int .i64 0)).setCell ⟨w.heap.size, 4, none⟩ (.int .i64 0)).setCell ⟨w.heap.size, 5, none⟩ (.int .i64 0)).setCell ⟨w.heap.size, 6, none⟩ (.int .i64 0)).setCell ⟨w.heap.size, 7, none⟩ (.slice none 0 0))
    replace Z4 := Lib.hid Z4
    replace TS := Lib.hid TS
    replace T4 := Lib.hid T4
    replace V4 := Lib.hid V4
    exact bodyPost_ret (v := .tuple #[.agg zFC, .int .i64 2]) (by simp [results, Try.results25, go_sem, z0, z1, z2, z3, z4, z5, z6, z7, zFC, frC]) rfl ⟨_, by rw [hRd.out]; rfl, by rw [hRd.out]; exact V4.out, T4.out⟩
  have d : decide ((n : Int) < 25) = false := by simp; omega
  have hRd := hR.out
  rw [if_neg h1] at hRd
  clear hR
  obtain ⟨N, hN⟩ : ∃ N, N = n - 10 := ⟨_, rfl⟩
  have hN15 : 15 ≤ N := by omega
  have hnN : n = N + 10 := by omega
  rw [← hN] at hRd
  clear hN
  have qN : IntKind.i64.wrap ((n : Int) - 10) = (N : Int) := by rw [IntWalk.i64_in _ (by omega)]; omega
  have r1 := fun w => run_cut_h (P := Try.prog) Try.underlying36 info_u8 sb n cb N (N : Int) rfl .i64 (by omega) w
  have r2 := fun w => run_cut_l (P := Try.prog) Try.underlying36 info_u8 sb n cb N (N : Int) rfl .i64 (by omega) w
  have SBody := Lib.hid (sb_take V.out N (by omega))
  have STag := V.out.cut N n cb (by omega) (Nat.le_refl _) hc (Nat.le_refl _)
  rw [show (l.drop N).take (n - N) = l.drop N from List.take_of_length_le (by rw [List.length_drop, hll.out]; exact Nat.le_refl _)] at STag
  generalize cutA sb N cb 1 = st at *
  replace hRd := Lib.hid hRd
  replace STag := Lib.hid STag
  replace hnN := Lib.hid hnN
  go_upto_region 3 with (fail)
  refine wp_region_gg [] [] [] (by kernel_rfl) ?_
  refine hoist [] [] (a1 := ?_) 0 rfl (by kernel_rfl) (.inl ⟨rfl, rfl⟩) rfl rfl rfl (fun x K hK => ?_) ?_
  rotate_left
  · go_big_quiet_op
    exact hK
  refine hoist [] [] (a1 := ?_) 1 rfl (by kernel_rfl) (.inl ⟨rfl, rfl⟩) rfl rfl rfl (fun x K hK => ?_) ?_
  rotate_left
  · go_big_quiet_op
    exact hK
  refine hoist [] [] (a1 := ?_) 2 rfl (by kernel_rfl) (.inl ⟨rfl, rfl⟩) rfl rfl rfl (fun x K hK => ?_) ?_
  rotate_left
  · go_big_quiet_op
    exact hK
  refine hoist [] [] (a1 := ?_) 3 rfl (by kernel_rfl) (.inl ⟨rfl, rfl⟩) rfl rfl rfl (fun x K hK => ?_) ?_
  rotate_left
  · go_big_quiet_op
    exact hK
  refine hoist [] [] (a1 := ?_) 4 rfl (by kernel_rfl) (.inl ⟨rfl, rfl⟩) rfl rfl rfl (fun x K hK => ?_) ?_
  rotate_left
  · go_big_quiet_op
    exact hK
  refine hoist [] [] (a1 := ?_) 5 rfl (by kernel_rfl) (.inl ⟨rfl, rfl⟩) rfl rfl rfl (fun x K hK => ?_) ?_
  rotate_left
  · go_big_quiet_op
    exact hK
  refine hoist [] [] (a1 := ?_) 6 rfl (by kernel_rfl) (.inl ⟨rfl, rfl⟩) rfl rfl rfl (fun x K hK => ?_) ?_
  rotate_left
  · go_big_quiet_op
    exact hK
  refine hoist [] [] (a1 := ?_) 7 rfl (by kernel_rfl) (.inl ⟨rfl, rfl⟩) rfl rfl rfl (fun x K hK => ?_) ?_
  rotate_left
  · go_big_quiet_op
    exact hK
  refine hoist [] [] (a1 := ?_) 8 rfl (by kernel_rfl) (.inl ⟨rfl, rfl⟩) rfl rfl rfl (fun x K hK => ?_) ?_
  rotate_left
  · go_big_quiet_op
    exact hK
  refine hoist [] [] (a1 := ?_) 9 rfl (by kernel_rfl) (.inl ⟨rfl, rfl⟩) rfl rfl rfl (fun x K hK => ?_) ?_
  rotate_left
  · go_big_quiet_op
    exact hK
  refine hoist [] [] (a1 := ?_) 10 rfl (by kernel_rfl) (.inl ⟨rfl, rfl⟩) rfl rfl rfl (fun x K hK => ?_) ?_
  rotate_left
  · go_big_quiet_op
    exact hK
  refine hoist [] [] (a1 := ?_) 11 rfl (by kernel_rfl) (.inl ⟨rfl, rfl⟩) rfl rfl rfl (fun x K hK => ?_) ?_
  rotate_left
  · go_big_quiet_op
    exact hK
  refine done (by kernel_rfl) (fun xr => ?_)
  have B2 := Lib.hid (B.out.trans xr.bw)
  have Z2 := Lib.hid (Z.out.bw xr.bw)
  have hwg := Z2.out.lt
  clear r1 r2 qN B Z
  generalize xr.now = w2 at *
  obtain ⟨b, o, cap', he, _, _, hbw, hcell⟩ := V.out.form (by omega)
  cases he
  have x0 := B2.out.cell (hcell 0 (by omega))
  have x1 := B2.out.cell (hcell 1 (by omega))
  have x10 := B2.out.cell (hcell 10 (by omega))
  have x11 := B2.out.cell (hcell 11 (by omega))
  have x12 := B2.out.cell (hcell 12 (by omega))
  have x13 := B2.out.cell (hcell 13 (by omega))
  have x14 := B2.out.cell (hcell 14 (by omega))
  rw [Nat.add_zero] at x0
  have l0 := hby.out 0
  have l1 := hby.out 1
  have l10 := hby.out 10
  have l11 := hby.out 11
  have l12 := hby.out 12
  have l13 := hby.out 13
  have l14 := hby.out 14
  have hfo : frOf l (l.getD 14 0) = ⟨(l.getD 0 0 : Nat), (l.getD 1 0 : Nat), numB ((l.drop 2).take 8), (l.getD 10 0 : Nat), (l.getD 11 0 : Nat), (l.getD 12 0 : Nat), layF (l.getD 13 0), srcF l (l.getD 14 0)⟩ := rfl
  rw [hfo] at hRd
  clear hcell hfo
  generalize l.getD 0 0 = b0 at *
  generalize l.getD 1 0 = b1 at *
  generalize l.getD 10 0 = b10 at *
  generalize l.getD 11 0 = b11 at *
  generalize l.getD 12 0 = b12 at *
  generalize l.getD 13 0 = b13 at *
  generalize l.getD 14 0 = m at *
  have hx13 : Hid (∀ wx, BW w2 wx → wx.cell? ⟨b, o + 13, none⟩ = some (.int .u8 (b13 : Nat))) := Lib.hid (fun wx h => h.cell x13)
  have B3 : Hid (BW w2 (w2.alloc (.cells #[.int .i64 0, .int .i64 0, .int .u64 0, .int .i64 0, .int .i64 0, .int .i64 0, .int .i64 0, .slice none 0 0] 35))) := (BW.refl w2).alloc
  have F3 := Lib.hid (HpB.new w2 (.cells #[.int .i64 0, .int .i64 0, .int .u64 0, .int .i64 0, .int .i64 0, .int .i64 0, .int .i64 0, .slice none 0 0] 35))
  have cKi := Lib.hid (kind_any b0 (w2.alloc (.cells #[.int .i64 0, .int .i64 0, .int .u64 0, .int .i64 0, .int .i64 0, .int .i64 0, .int .i64 0, .slice none 0 0] 35)))
  go_upto_region 6 with (fail)
  generalize w2.alloc (.cells #[.int .i64 0, .int .i64 0, .int .u64 0, .int .i64 0, .int .i64 0, .int .i64 0, .int .i64 0, .slice none 0 0] 35) = w3 at *
  generalize hg9 : w2.heap.size = g9 at *
  replace x0 := B3.out.cell x0
  replace x1 := B3.out.cell x1
  replace x10 := B3.out.cell x10
  replace x11 := B3.out.cell x11
  replace x12 := B3.out.cell x12
  replace x13 := B3.out.cell x13
  replace x14 := B3.out.cell x14
  go_cut [10] (fun v wc => v = .bool (formF l) ∧ w3 = wc)
  case first =>
    cases hkk : kindB b0 with
    | false =>
      rw [hkk] at cKi
      have hF : Hid (formF l = true) := Lib.hid (by rw [hForm.out, hkk]; rfl)
      replace hkk := Lib.hid hkk
      go_wp2_with fail
      refine Calls.mono cKi.out ?_
      rintro e w4 ⟨rfl, rfl⟩
      clear cKi
      dsimp only
      go_wp2_with fail
      go_meet
      exact ⟨by rw [hF.out], rfl⟩
    | true =>
      rw [hkk] at cKi
      have hF0 := hForm.out
      rw [hkk, Bool.not_true, Bool.false_or] at hF0
      replace hkk := Lib.hid hkk
      replace hF0 := Lib.hid hF0
      go_wp2_with fail
      refine Calls.mono cKi.out ?_
      rintro e w4 ⟨rfl, rfl⟩
      clear cKi
      dsimp only
      by_cases h16 : 16 < m
      · have d16 : decide ((16 : Int) < (m : Int)) = true := by simp; omega
        have hF : Hid (formF l = true) := Lib.hid (by rw [hF0.out, decide_eq_true h16]; rfl)
        go_wp2_with fail
        go_meet
        exact ⟨by rw [hF.out], rfl⟩
      · have d16 : decide ((16 : Int) < (m : Int)) = false := by simp; omega
        have hq : ((N : Int) != 15 + 4 * (m : Int)) = decide (n ≠ 25 + 4 * m) := by
          rw [Bool.eq_iff_iff, bne_iff_ne, decide_eq_true_iff, hnN.out]; omega
        have hF : Hid (formF l = decide (n ≠ 25 + 4 * m)) := Lib.hid (by rw [hF0.out, decide_eq_false h16]; rfl)
        generalize decide (n ≠ 25 + 4 * m) = z at *
        go_wp2_with fail
        go_meet
        exact ⟨by rw [hF.out], rfl⟩
  case rest =>
    obtain ⟨rfl, rfl⟩ := hcut
    clear cKi
    have hb9 : b < g9 := by rw [← hg9]; exact Nat.lt_of_lt_of_le hbw B2.out.size
    have m0 : ∀ y : LaterS [] w3, _ := fun y => y.bw.cell x0
    have k0 : ∀ y : LaterS [g9] w3, _ := fun y => y.cell x0 (by simp; omega)
    have m1 : ∀ y : LaterS [] w3, _ := fun y => y.bw.cell x1
    have k1 : ∀ y : LaterS [g9] w3, _ := fun y => y.cell x1 (by simp; omega)
    have m10 : ∀ y : LaterS [] w3, _ := fun y => y.bw.cell x10
    have k10 : ∀ y : LaterS [g9] w3, _ := fun y => y.cell x10 (by simp; omega)
    have m11 : ∀ y : LaterS [] w3, _ := fun y => y.bw.cell x11
    have k11 : ∀ y : LaterS [g9] w3, _ := fun y => y.cell x11 (by simp; omega)
    have m12 : ∀ y : LaterS [] w3, _ := fun y => y.bw.cell x12
    have k12 : ∀ y : LaterS [g9] w3, _ := fun y => y.cell x12 (by simp; omega)
    go_upto_region 7 with (fail)
    refine wp_region_gg ([g9]) [21, 23, 25, 27, 29] [] (by kernel_rfl) ?_
    refine hoist [] [21, 23, 25, 27, 29] (a1 := ?_) 0 rfl (by kernel_rfl) (.inl ⟨rfl, rfl⟩) rfl rfl rfl (fun x K hK => ?_) ?_
    rotate_left
    · go_big_quiet_op
      exact hK
    refine hoist [] [21, 23, 25, 27, 29] (a1 := ?_) 1 rfl (by kernel_rfl) (.inl ⟨rfl, rfl⟩) rfl rfl rfl (fun x K hK => ?_) ?_
    rotate_left
    · go_big_quiet_op
      exact hK
    refine hoist [] [21, 23, 25, 27, 29] (a1 := ?_) 2 rfl (by kernel_rfl) (.inl ⟨rfl, rfl⟩) rfl rfl rfl (fun x K hK => ?_) ?_
    rotate_left
    · go_big_quiet_op
      exact hK
    refine hoist [] [21, 23, 25, 27, 29] (a1 := ?_) 3 rfl (by kernel_rfl) (.inl ⟨rfl, rfl⟩) rfl rfl rfl (fun x K hK => ?_) ?_
    rotate_left
    · go_big_quiet_op
      exact hK
    refine hoist ([g9]) [] (a1 := ?_) 4 rfl (by kernel_rfl) (.inr rfl) rfl rfl rfl (fun x K hK => ?_) ?_
    rotate_left
    · go_big_quiet_op
      exact hK
    refine hoist ([g9]) [] (a1 := ?_) 5 rfl (by kernel_rfl) (.inr rfl) rfl rfl rfl (fun x K hK => ?_) ?_
    rotate_left
    · go_big_quiet_op
      exact hK
    refine hoist ([g9]) [] (a1 := ?_) 6 rfl (by kernel_rfl) (.inr rfl) rfl rfl rfl (fun x K hK => ?_) ?_
    rotate_left
    · go_big_quiet_op
      exact hK
    refine hoist ([g9]) [] (a1 := ?_) 7 rfl (by kernel_rfl) (.inr rfl) rfl rfl rfl (fun x K hK => ?_) ?_
    rotate_left
    · go_big_quiet_op
      exact hK
    refine hoist ([g9]) [] (a1 := ?_) 8 rfl (by kernel_rfl) (.inr rfl) rfl rfl rfl (fun x K hK => ?_) ?_
    rotate_left
    · go_big_quiet_op
      exact hK
    refine hoist ([g9]) [] (a1 := ?_) 9 rfl (by kernel_rfl) (.inr rfl) rfl rfl rfl (fun x K hK => ?_) ?_
    rotate_left
    · go_big_quiet_op
      exact hK
    refine hoist ([g9]) [] (a1 := ?_) 10 rfl (by kernel_rfl) (.inr rfl) rfl rfl rfl (fun x K hK => ?_) ?_
    rotate_left
    · go_big_quiet_op
      exact hK
    refine hoist ([g9]) [] (a1 := ?_) 11 rfl (by kernel_rfl) (.inr rfl) rfl rfl rfl (fun x K hK => ?_) ?_
    rotate_left
    · go_big_quiet_op
      exact hK
    refine hoist ([g9]) [] (a1 := ?_) 12 rfl (by kernel_rfl) (.inr rfl) rfl rfl rfl (fun x K hK => ?_) ?_
    rotate_left
    · go_big_quiet_op
      exact hK
    refine hoist ([g9]) [] (a1 := ?_) 13 rfl (by kernel_rfl) (.inr rfl) rfl rfl rfl (fun x K hK => ?_) ?_
    rotate_left
    · go_big_quiet_op
      exact hK
    refine hoist ([g9]) [] (a1 := ?_) 14 rfl (by kernel_rfl) (.inr rfl) rfl rfl rfl (fun x K hK => ?_) ?_
    rotate_left
    · go_big_quiet_op
      exact hK
    refine hoist ([g9]) [] (a1 := ?_) 15 rfl (by kernel_rfl) (.inr rfl) rfl rfl rfl (fun x K hK => ?_) ?_
    rotate_left
    · go_big_quiet_op
      exact hK
    refine hoist ([g9]) [] (a1 := ?_) 16 rfl (by kernel_rfl) (.inr rfl) rfl rfl rfl (fun x K hK => ?_) ?_
    rotate_left
    · go_big_quiet_op
      exact hK
    refine hoist ([g9]) [] (a1 := ?_) 17 rfl (by kernel_rfl) (.inr rfl) rfl rfl rfl (fun x K hK => ?_) ?_
    rotate_left
    · go_big_quiet_op
      exact hK
    refine hoist ([g9]) [] (a1 := ?_) 18 rfl (by kernel_rfl) (.inr rfl) rfl rfl rfl (fun x K hK => ?_) ?_
    rotate_left
    · go_big_quiet_op
      exact hK
    refine hoist ([g9]) [] (a1 := ?_) 19 rfl (by kernel_rfl) (.inr rfl) rfl rfl rfl (fun x K hK => ?_) ?_
    rotate_left
    · go_big_quiet_op
      exact hK
    refine hoist [] [21, 23, 25, 27, 29] (a1 := ?_) 20 rfl (by kernel_rfl) (.inl ⟨rfl, rfl⟩) rfl rfl rfl (fun x K hK => ?_) ?_
    rotate_left
    · go_big_quiet_op
      exact hK
    refine effect 21 rfl (by kernel_rfl) (by kernel_rfl) rfl (fun x21 K hK => ?_)
    have F21 := F3.out.bw x21.bw
    have y21 := hp_cell F21 0
    have f21 := hp_frz F21 0
    simp only [List.getElem?_toArray, List.getElem?_cons_zero, List.getElem?_cons_succ] at y21
    go_simp
    have T21 := still_sc x21.now g9 0 (.int .i64 (b0 : Nat))
    refine hK _ _ T21 ?_
    clear hK K y21 f21
    have S21 := Lib.hid (( x21.bw.still [g9]).trans T21)
    have F121 := Lib.hid (F21.st1 0 (.int .i64 (b0 : Nat)))
    simp only [List.setIfInBounds_toArray, List.set_cons_zero, List.set_cons_succ] at F121
    clear T21
    try simp only [Act.put, List.setIfInBounds_toArray, List.set_cons_succ, List.set_cons_zero]
    refine hoist [] [21, 23, 25, 27, 29] (a1 := ?_) 22 rfl (by kernel_rfl) (.inl ⟨rfl, rfl⟩) rfl rfl rfl (fun x K hK => ?_) ?_
    rotate_left
    · go_big_quiet_op
      exact hK
    refine effect 23 rfl (by kernel_rfl) (by kernel_rfl) rfl (fun x23 K hK => ?_)
    have F23 := F121.out.bw x23.bw
    have y23 := hp_cell F23 1
    have f23 := hp_frz F23 1
    simp only [List.getElem?_toArray, List.getElem?_cons_zero, List.getElem?_cons_succ] at y23
    go_simp
    have T23 := still_sc x23.now g9 1 (.int .i64 (b1 : Nat))
    refine hK _ _ T23 ?_
    clear hK K y23 f23
    have S23 := Lib.hid ((S21.out.trans <| x23.bw.still [g9]).trans T23)
    have F123 := Lib.hid (F23.st1 1 (.int .i64 (b1 : Nat)))
    simp only [List.setIfInBounds_toArray, List.set_cons_zero, List.set_cons_succ] at F123
    clear T23
    try simp only [Act.put, List.setIfInBounds_toArray, List.set_cons_succ, List.set_cons_zero]
    refine hoist [] [21, 23, 25, 27, 29] (a1 := ?_) 24 rfl (by kernel_rfl) (.inl ⟨rfl, rfl⟩) rfl rfl rfl (fun x K hK => ?_) ?_
    rotate_left
    · go_big_quiet_op
      exact hK
    refine effect 25 rfl (by kernel_rfl) (by kernel_rfl) rfl (fun x25 K hK => ?_)
    have F25 := F123.out.bw x25.bw
    have y25 := hp_cell F25 3
    have f25 := hp_frz F25 3
    simp only [List.getElem?_toArray, List.getElem?_cons_zero, List.getElem?_cons_succ] at y25
    go_simp
    have T25 := still_sc x25.now g9 3 (.int .i64 (b10 : Nat))
    refine hK _ _ T25 ?_
    clear hK K y25 f25
    have S25 := Lib.hid ((S23.out.trans <| x25.bw.still [g9]).trans T25)
    have F125 := Lib.hid (F25.st1 3 (.int .i64 (b10 : Nat)))
    simp only [List.setIfInBounds_toArray, List.set_cons_zero, List.set_cons_succ] at F125
    clear T25
    try simp only [Act.put, List.setIfInBounds_toArray, List.set_cons_succ, List.set_cons_zero]
    refine hoist [] [21, 23, 25, 27, 29] (a1 := ?_) 26 rfl (by kernel_rfl) (.inl ⟨rfl, rfl⟩) rfl rfl rfl (fun x K hK => ?_) ?_
    rotate_left
    · go_big_quiet_op
      exact hK
    refine effect 27 rfl (by kernel_rfl) (by kernel_rfl) rfl (fun x27 K hK => ?_)
    have F27 := F125.out.bw x27.bw
    have y27 := hp_cell F27 4
    have f27 := hp_frz F27 4
    simp only [List.getElem?_toArray, List.getElem?_cons_zero, List.getElem?_cons_succ] at y27
    go_simp
    have T27 := still_sc x27.now g9 4 (.int .i64 (b11 : Nat))
    refine hK _ _ T27 ?_
    clear hK K y27 f27
    have S27 := Lib.hid ((S25.out.trans <| x27.bw.still [g9]).trans T27)
    have F127 := Lib.hid (F27.st1 4 (.int .i64 (b11 : Nat)))
    simp only [List.setIfInBounds_toArray, List.set_cons_zero, List.set_cons_succ] at F127
    clear T27
    try simp only [Act.put, List.setIfInBounds_toArray, List.set_cons_succ, List.set_cons_zero]
    refine hoist [] [21, 23, 25, 27, 29] (a1 := ?_) 28 rfl (by kernel_rfl) (.inl ⟨rfl, rfl⟩) rfl rfl rfl (fun x K hK => ?_) ?_
    rotate_left
    · go_big_quiet_op
      exact hK
    refine effect 29 rfl (by kernel_rfl) (by kernel_rfl) rfl (fun x29 K hK => ?_)
    have F29 := F127.out.bw x29.bw
    have y29 := hp_cell F29 5
    have f29 := hp_frz F29 5
    simp only [List.getElem?_toArray, List.getElem?_cons_zero, List.getElem?_cons_succ] at y29
    go_simp
    have T29 := still_sc x29.now g9 5 (.int .i64 (b12 : Nat))
    refine hK _ _ T29 ?_
    clear hK K y29 f29
    have S29 := Lib.hid ((S27.out.trans <| x29.bw.still [g9]).trans T29)
    have F129 := Lib.hid (F29.st1 5 (.int .i64 (b12 : Nat)))
    simp only [List.setIfInBounds_toArray, List.set_cons_zero, List.set_cons_succ] at F129
    clear T29
    try simp only [Act.put, List.setIfInBounds_toArray, List.set_cons_succ, List.set_cons_zero]
    refine done (by kernel_rfl) (fun xr => ?_)
    have S7 := Lib.hid (S29.out.trans (xr.bw.still [g9]))
    have F7 := Lib.hid (F129.out.bw xr.bw)
    clear m0 m1 m10 m11 m12 k0 k1 k10 k11 k12 F129 S29 S27 S25 S23 S21 F21 F23 F25 F27 F29 F121 F123 F125 F127 x0 x1 x10 x11 x12 x13 x14
    generalize xr.now = w7 at *
    have B7 := Lib.hid (B3.out.stP S7.out (by simp; omega))
    have Z7 := Lib.hid (Z2.out.bw B7.out)
    clear S7 F3 B3 Z2
    cases hfm : formF l with
    | true =>
      have hRd := Lib.hid (hRd.out.trans (by rw [hfm, if_pos (.inl rfl)]))
      have B := Lib.hid (B2.out.trans B7.out)
      have Z := Z7
      clear Z7
      obtain ⟨wb, rfl⟩ : ∃ x, x = w7 := ⟨_, rfl⟩
      replace hfm := Lib.hid hfm
      go_upto_region 9 with (fail)
      have z0 := hp_cell (Z.out) 0
      have y0 := hp_frz (Z.out) 0
      have z1 := hp_cell (Z.out) 1
      have y1 := hp_frz (Z.out) 1
      have z2 := hp_cell (Z.out) 2
      have y2 := hp_frz (Z.out) 2
      have z3 := hp_cell (Z.out) 3
      have y3 := hp_frz (Z.out) 3
      have z4 := hp_cell (Z.out) 4
      have y4 := hp_frz (Z.out) 4
      have z5 := hp_cell (Z.out) 5
      have y5 := hp_frz (Z.out) 5
      have z6 := hp_cell (Z.out) 6
      have y6 := hp_frz (Z.out) 6
      have z7 := hp_cell (Z.out) 7
      have y7 := hp_frz (Z.out) 7
      simp only [zFC, frC, List.getElem?_toArray, List.getElem?_cons_zero, List.getElem?_cons_succ] at z0 z1 z2 z3 z4 z5 z6 z7
      go_wp2_with fail
      clear z0 z1 z2 z3 z4 z5 z6 z7 y0 y1 y2 y3 y4 y5 y6 y7
      have TS := still_st8 wb w.heap.size (.int .i64 0) (.int .i64 0) (.int .u64 0) (.int .i64 0) (.int .i64 0) (.int .i64 0) (.int .i64 0) (.slice none 0 0)
      have Z4 := Z.out.st8 rfl (.int .i64 0) (.int .i64 0) (.int .u64 0) (.int .i64 0) (.int .i64 0) (.int .i64 0) (.int .i64 0) (.slice none 0 0)
      have T4 := B.out.stP TS (by simp)
      have z0 := hp_cell (Z4) 0
      have z1 := hp_cell (Z4) 1
      have z2 := hp_cell (Z4) 2
      have z3 := hp_cell (Z4) 3
      have z4 := hp_cell (Z4) 4
      have z5 := hp_cell (Z4) 5
      have z6 := hp_cell (Z4) 6
      have z7 := hp_cell (Z4) 7
      simp only [List.getElem?_toArray, List.getElem?_cons_zero, List.getElem?_cons_succ] at z0 z1 z2 z3 z4 z5 z6 z7
      have V4 := FrV.zero ((((((((wb.setCell ⟨w.heap.size, 0, none⟩ (.int .i64 0)).setCell ⟨w.heap.size, 1, none⟩ (.int .i64 0)).setCell ⟨w.heap.size, 2, none⟩ (.int .u64 0)).setCell ⟨w.heap.size, 3, none⟩ (.int .i64 0)).setCell ⟨w.heap.size, 4, none⟩ (.int .i64 0)).setCell ⟨w.heap.size, 5, none⟩ (.int .i64 0)).setCell ⟨w.heap.size, 6, none⟩ (.int .i64 0)).setCell ⟨w.heap.size, 7, none⟩ (.slice none 0 0))
      replace Z4 := Lib.hid Z4
      replace TS := Lib.hid TS
      replace T4 := Lib.hid T4
      replace V4 := Lib.hid V4
      exact bodyPost_ret (v := .tuple #[.agg zFC, .int .i64 3]) (by simp [results, Try.results25, go_sem, z0, z1, z2, z3, z4, z5, z6, z7, zFC, frC]) rfl ⟨_, by rw [hRd.out]; rfl, by rw [hRd.out]; exact V4.out, T4.out⟩
    | false =>
      have hform := hForm.out
      rw [hfm] at hform
      have hmm := hform.symm
      rw [Bool.or_eq_false_iff, Bool.or_eq_false_iff] at hmm
      have hm16 := of_decide_eq_false hmm.1.2
      have hnm : n = 25 + 4 * m := Decidable.not_not.1 (of_decide_eq_false hmm.2)
      have hNm : N = 15 + 4 * m := by have := hnN.out; omega
      have hRd2 := hRd.out
      rw [hfm] at hRd2
      simp only [Bool.false_eq_true, false_or] at hRd2
      clear hRd hform hmm
      replace hfm := Lib.hid hfm
      replace hRd2 := Lib.hid hRd2
      replace hnm := Lib.hid hnm
      replace hNm := Lib.hid hNm
      have hNB := NB.newL w7 3 .i64 [(b1 : Int), (b10 : Int), (b11 : Int), (b12 : Int)] 4 rfl (by decide)
      have cB := Lib.hid (bsz_any _ 4 _ _ hNB (by decide))
      rw [← hSm.out] at cB
      have BA : BW w7 (w7.alloc (.cells (nvs .i64 [(b1 : Int), (b10 : Int), (b11 : Int), (b12 : Int)]).toArray 3)) := (BW.refl _).alloc
      have B8 := B7.out.trans BA
      have F8 := F7.out.bw BA
      have Z8 := Z7.out.bw BA
      simp only [nvs, List.map_cons, List.map_nil] at cB B8 F8 Z8
      clear hNB BA
      generalize hw8 : w7.alloc (.cells [Value.int .i64 (b1 : Int), .int .i64 (b10 : Int), .int .i64 (b11 : Int), .int .i64 (b12 : Int)].toArray 3) = w8 at *
      replace B8 := Lib.hid B8
      replace F8 := Lib.hid F8
      replace Z8 := Lib.hid Z8
      have z0 := hp_cell (F7.out) 0
      have z1 := hp_cell (F7.out) 1
      have z2 := hp_cell (F7.out) 2
      have z3 := hp_cell (F7.out) 3
      have z4 := hp_cell (F7.out) 4
      have z5 := hp_cell (F7.out) 5
      have z6 := hp_cell (F7.out) 6
      have z7 := hp_cell (F7.out) 7
      simp only [List.getElem?_toArray, List.getElem?_cons_zero, List.getElem?_cons_succ] at z0 z1 z2 z3 z4 z5 z6 z7
      go_upto_region 8 with (fail)
      go_wp2_with fail
      refine Calls.mono cB.out ?_
      rintro e w9 ⟨rfl, rfl⟩
      clear z0 z1 z2 z3 z4 z5 z6 z7
      clear cB hw8 F7 Z7 B7
      dsimp only
      cases hsm : smallF l with
      | true =>
        have hRd := Lib.hid (hRd2.out.trans (if_pos hsm))
        have B := Lib.hid (B2.out.trans B8.out)
        have Z := Z8
        clear Z8
        obtain ⟨wb, rfl⟩ : ∃ x, x = w8 := ⟨_, rfl⟩
        replace hsm := Lib.hid hsm
        try simp only [Bool.not_true]
        go_upto_region 9 with (fail)
        have z0 := hp_cell (Z.out) 0
        have y0 := hp_frz (Z.out) 0
        have z1 := hp_cell (Z.out) 1
        have y1 := hp_frz (Z.out) 1
        have z2 := hp_cell (Z.out) 2
        have y2 := hp_frz (Z.out) 2
        have z3 := hp_cell (Z.out) 3
        have y3 := hp_frz (Z.out) 3
        have z4 := hp_cell (Z.out) 4
        have y4 := hp_frz (Z.out) 4
        have z5 := hp_cell (Z.out) 5
        have y5 := hp_frz (Z.out) 5
        have z6 := hp_cell (Z.out) 6
        have y6 := hp_frz (Z.out) 6
        have z7 := hp_cell (Z.out) 7
        have y7 := hp_frz (Z.out) 7
        simp only [zFC, frC, List.getElem?_toArray, List.getElem?_cons_zero, List.getElem?_cons_succ] at z0 z1 z2 z3 z4 z5 z6 z7
        go_wp2_with fail
        clear z0 z1 z2 z3 z4 z5 z6 z7 y0 y1 y2 y3 y4 y5 y6 y7
        have TS := still_st8 wb w.heap.size (.int .i64 0) (.int .i64 0) (.int .u64 0) (.int .i64 0) (.int .i64 0) (.int .i64 0) (.int .i64 0) (.slice none 0 0)
        have Z4 := Z.out.st8 rfl (.int .i64 0) (.int .i64 0) (.int .u64 0) (.int .i64 0) (.int .i64 0) (.int .i64 0) (.int .i64 0) (.slice none 0 0)
        have T4 := B.out.stP TS (by simp)
        have z0 := hp_cell (Z4) 0
        have z1 := hp_cell (Z4) 1
        have z2 := hp_cell (Z4) 2
        have z3 := hp_cell (Z4) 3
        have z4 := hp_cell (Z4) 4
        have z5 := hp_cell (Z4) 5
        have z6 := hp_cell (Z4) 6
        have z7 := hp_cell (Z4) 7
        simp only [List.getElem?_toArray, List.getElem?_cons_zero, List.getElem?_cons_succ] at z0 z1 z2 z3 z4 z5 z6 z7
        have V4 := FrV.zero ((((((((wb.setCell ⟨w.heap.size, 0, none⟩ (.int .i64 0)).setCell ⟨w.heap.size, 1, none⟩ (.int .i64 0)).setCell ⟨w.heap.size, 2, none⟩ (.int .u64 0)).setCell ⟨w.heap.size, 3, none⟩ (.int .i64 0)).setCell ⟨w.heap.size, 4, none⟩ (.int .i64 0)).setCell ⟨w.heap.size, 5, none⟩ (.int .i64 0)).setCell ⟨w.heap.size, 6, none⟩ (.int .i64 0)).setCell ⟨w.heap.size, 7, none⟩ (.slice none 0 0))
        replace Z4 := Lib.hid Z4
        replace TS := Lib.hid TS
        replace T4 := Lib.hid T4
        replace V4 := Lib.hid V4
        exact bodyPost_ret (v := .tuple #[.agg zFC, .int .i64 3]) (by simp [results, Try.results25, go_sem, z0, z1, z2, z3, z4, z5, z6, z7, zFC, frC]) rfl ⟨_, by rw [hRd.out]; rfl, by rw [hRd.out]; exact V4.out, T4.out⟩
      | false =>
        have hRd3 := hRd2.out
        rw [hsm, if_neg (by decide)] at hRd3
        clear hRd2
        try simp only [Bool.not_false]
        have SB8 := SBody.out.bw (B2.out.trans B8.out)
        have M8 := SM.one w8 _ _ _ SB8
        have hz8 : (l.take N).length = N := SB8.1
        have hnt : n - N = 10 := by have := hnN.out; omega
        have cC := Lib.hid (check_ok sk nk ck st (n - N) (cb - N) _ 1 1 key (l.drop N) [l.take N] (by omega) (by decide) (by simp; omega) _ (K.out.bw ((B2.out.trans B8.out).trans ((BW.refl _).alloc))) (STag.out.bw ((B2.out.trans B8.out).trans ((BW.refl _).alloc))) M8)
        simp only [List.flatten_cons, List.flatten_nil, List.append_nil] at cC
        have BA : BW w8 (w8.alloc (.cells #[.slice (some ⟨b, o, none⟩) N cb] 36)) := (BW.refl _).alloc
        have B9 := B8.out.trans BA
        have F9 := F8.out.bw BA
        have Z9 := Z8.out.bw BA
        replace hsm := Lib.hid hsm
        replace B9 := Lib.hid B9
        replace F9 := Lib.hid F9
        replace Z9 := Lib.hid Z9
        replace hRd3 := Lib.hid hRd3
        replace hz8 := Lib.hid hz8
        replace hnt := Lib.hid hnt
        clear M8 SB8 BA B8 F8 Z8
        go_wp2_with fail
        refine Calls.mono cC.out ?_
        rintro e w10 ⟨rfl, hb⟩
        have B10 := Lib.hid (B9.out.trans hb)
        have F10 := Lib.hid (F9.out.bw hb)
        have Z10 := Lib.hid (Z9.out.bw hb)
        clear cC hb B9 F9 Z9
        dsimp only
        cases hgd : goodB key (l.take N) (l.drop N) with
        | false =>
          have hRd := Lib.hid (hRd3.out.trans (by rw [hgd, if_neg (by decide)]))
          have B := Lib.hid (B2.out.trans B10.out)
          have Z := Z10
          clear Z10
          obtain ⟨wb, rfl⟩ : ∃ x, x = w10 := ⟨_, rfl⟩
          replace hgd := Lib.hid hgd
          try simp only [Bool.not_false]
          go_upto_region 11 with (fail)
          have z0 := hp_cell (Z.out) 0
          have y0 := hp_frz (Z.out) 0
          have z1 := hp_cell (Z.out) 1
          have y1 := hp_frz (Z.out) 1
          have z2 := hp_cell (Z.out) 2
          have y2 := hp_frz (Z.out) 2
          have z3 := hp_cell (Z.out) 3
          have y3 := hp_frz (Z.out) 3
          have z4 := hp_cell (Z.out) 4
          have y4 := hp_frz (Z.out) 4
          have z5 := hp_cell (Z.out) 5
          have y5 := hp_frz (Z.out) 5
          have z6 := hp_cell (Z.out) 6
          have y6 := hp_frz (Z.out) 6
          have z7 := hp_cell (Z.out) 7
          have y7 := hp_frz (Z.out) 7
          simp only [zFC, frC, List.getElem?_toArray, List.getElem?_cons_zero, List.getElem?_cons_succ] at z0 z1 z2 z3 z4 z5 z6 z7
          go_wp2_with fail
          clear z0 z1 z2 z3 z4 z5 z6 z7 y0 y1 y2 y3 y4 y5 y6 y7
          have TS := still_st8 wb w.heap.size (.int .i64 0) (.int .i64 0) (.int .u64 0) (.int .i64 0) (.int .i64 0) (.int .i64 0) (.int .i64 0) (.slice none 0 0)
          have Z4 := Z.out.st8 rfl (.int .i64 0) (.int .i64 0) (.int .u64 0) (.int .i64 0) (.int .i64 0) (.int .i64 0) (.int .i64 0) (.slice none 0 0)
          have T4 := B.out.stP TS (by simp)
          have z0 := hp_cell (Z4) 0
          have z1 := hp_cell (Z4) 1
          have z2 := hp_cell (Z4) 2
          have z3 := hp_cell (Z4) 3
          have z4 := hp_cell (Z4) 4
          have z5 := hp_cell (Z4) 5
          have z6 := hp_cell (Z4) 6
          have z7 := hp_cell (Z4) 7
          simp only [List.getElem?_toArray, List.getElem?_cons_zero, List.getElem?_cons_succ] at z0 z1 z2 z3 z4 z5 z6 z7
          have V4 := FrV.zero ((((((((wb.setCell ⟨w.heap.size, 0, none⟩ (.int .i64 0)).setCell ⟨w.heap.size, 1, none⟩ (.int .i64 0)).setCell ⟨w.heap.size, 2, none⟩ (.int .u64 0)).setCell ⟨w.heap.size, 3, none⟩ (.int .i64 0)).setCell ⟨w.heap.size, 4, none⟩ (.int .i64 0)).setCell ⟨w.heap.size, 5, none⟩ (.int .i64 0)).setCell ⟨w.heap.size, 6, none⟩ (.int .i64 0)).setCell ⟨w.heap.size, 7, none⟩ (.slice none 0 0))
          replace Z4 := Lib.hid Z4
          replace TS := Lib.hid TS
          replace T4 := Lib.hid T4
          replace V4 := Lib.hid V4
          exact bodyPost_ret (v := .tuple #[.agg zFC, .int .i64 4]) (by simp [results, Try.results25, go_sem, z0, z1, z2, z3, z4, z5, z6, z7, zFC, frC]) rfl ⟨_, by rw [hRd.out]; rfl, by rw [hRd.out]; exact V4.out, T4.out⟩
        | true =>
          have hRd := Lib.hid (hRd3.out.trans (by rw [hgd, if_pos rfl]))
          clear hRd3
          replace hgd := Lib.hid hgd
          obtain ⟨nn, hnn⟩ : ∃ nn, numB ((l.drop 2).take 8) = nn := ⟨_, rfl⟩
          have hnb : numB (((l.take N).drop 2).take 8) = nn := by
            rw [← hnn, List.drop_take, List.take_take, show min 8 (N - 2) = 8 by omega]
          rw [hnn] at hRd
          have cN := Lib.hid (num_ok (.slice (some ⟨b, o, none⟩) N cb) N (l.take N) 2 8 2 8 (by decide) (by decide) (by omega) rfl rfl w10 (SBody.out.bw (B2.out.trans B10.out)))
          rw [hnb] at cN
          clear hnb hnn
          go_wp2_with fail
          refine Calls.mono cN.out ?_
          rintro e w11 ⟨rfl, rfl⟩
          clear cN
          have y2 := hp_cell F10.out 2
          have f2 := hp_frz F10.out 2
          simp only [List.getElem?_toArray, List.getElem?_cons_zero, List.getElem?_cons_succ] at y2
          have F11 := F10.out.st1 2 (.int .u64 (nn : Nat))
          have B11 := B10.out.stP (still_sc w10 g9 2 (.int .u64 (nn : Nat))) (by simp; omega)
          have Z11 := Z10.out.st (still_sc w10 g9 2 (.int .u64 (nn : Nat))) (by simp; omega)
          simp only [List.setIfInBounds_toArray, List.set_cons_zero, List.set_cons_succ] at F11
          replace F11 := Lib.hid F11
          replace B11 := Lib.hid B11
          replace Z11 := Lib.hid Z11
          go_upto_region 13 with (fail)
          clear y2 f2 F10 B10 Z10
          generalize w10.setCell ⟨g9, 2, none⟩ (.int .u64 (nn : Nat)) = w11 at *
          have y2 := hp_cell F11.out 6
          have f2 := hp_frz F11.out 6
          simp only [List.getElem?_toArray, List.getElem?_cons_zero, List.getElem?_cons_succ] at y2
          have F12 := F11.out.st1 6 (.int .i64 (-1))
          have B12 := B11.out.stP (still_sc w11 g9 6 (.int .i64 (-1))) (by simp; omega)
          have Z12 := Z11.out.st (still_sc w11 g9 6 (.int .i64 (-1))) (by simp; omega)
          simp only [List.setIfInBounds_toArray, List.set_cons_zero, List.set_cons_succ] at F12
          replace F12 := Lib.hid F12
          replace B12 := Lib.hid B12
          replace Z12 := Lib.hid Z12
          go_upto_region 14 with (fail)
          clear y2 f2 F11 B11 Z11
          generalize w11.setCell ⟨g9, 6, none⟩ (.int .i64 (-1)) = w12 at *
          have z13 := hx13.out w12 B12.out
          go_upto_if 106 with (fail)
          go_cut [] (fun wc => Hid (HpB wc g9 (.cells #[.int .i64 (b0 : Nat), .int .i64 (b1 : Nat), .int .u64 (nn : Nat), .int .i64 (b10 : Nat), .int .i64 (b11 : Nat), .int .i64 (b12 : Nat), .int .i64 (layF b13), .slice none 0 0] 35)) ∧ Hid (BW w2 wc) ∧ Hid (HpB wc w.heap.size (.cells #[.int .i64 0, .int .i64 0, .int .u64 0, .int .i64 0, .int .i64 0, .int .i64 0, .int .i64 0, .slice none 0 0] 35)))
          case first =>
            by_cases h255 : b13 = 255
            · have q : ((b13 : Int) != 255) = false := by rw [h255]; rfl
              have hla : layF b13 = -1 := if_pos h255
              replace hla := Lib.hid hla
              replace h255 := Lib.hid h255
              go_wp2_with fail
              go_meet
              rw [hla.out]
              exact ⟨F12, B12, Z12⟩
            · have q : ((b13 : Int) != 255) = true := by rw [bne_iff_ne]; omega
              have hla : layF b13 = (b13 : Nat) := if_neg h255
              replace hla := Lib.hid hla
              replace h255 := Lib.hid h255
              have y2 := hp_cell F12.out 6
              have f2 := hp_frz F12.out 6
              simp only [List.getElem?_toArray, List.getElem?_cons_zero, List.getElem?_cons_succ] at y2
              have F13 := F12.out.st1 6 (.int .i64 (b13 : Nat))
              have B13 := B12.out.stP (still_sc w12 g9 6 (.int .i64 (b13 : Nat))) (by simp; omega)
              have Z13 := Z12.out.st (still_sc w12 g9 6 (.int .i64 (b13 : Nat))) (by simp; omega)
              simp only [List.setIfInBounds_toArray, List.set_cons_zero, List.set_cons_succ] at F13
              replace F13 := Lib.hid F13
              replace B13 := Lib.hid B13
              replace Z13 := Lib.hid Z13
              go_wp2_with fail
              go_meet
              rw [hla.out]
              exact ⟨F13, B13, Z13⟩
          case rest =>
            obtain ⟨F13, B13, Z13⟩ := hcut
            clear F12 B12 Z12 z13
            generalize layF b13 = ly at *
            have hg2 : w2.heap.size ≤ wc.heap.size := B13.out.size
            go_upto_region 17 with (fail)
            go_loopg [11] m (fun m' i wx => ∃ (k : Nat) (so : Option Addr) (co : Nat), m' = m - k ∧ k ≤ m ∧ i = .int .i64 (15 + 4 * (k : Int)) ∧ co ≤ 9223372036854775807 ∧ Hid (HpB wx g9 (.cells #[.int .i64 (b0 : Nat), .int .i64 (b1 : Nat), .int .u64 (nn : Nat), .int .i64 (b10 : Nat), .int .i64 (b11 : Nat), .int .i64 (b12 : Nat), .int .i64 (ly), .slice so k co] 35)) ∧ Hid (NO wx w2.heap.size 73 .u32 (.slice so k co) k (nzl (srcF l k))) ∧ Hid (BW w2 wx) ∧ Hid (HpB wx w.heap.size (.cells #[.int .i64 0, .int .i64 0, .int .u64 0, .int .i64 0, .int .i64 0, .int .i64 0, .int .i64 0, .slice none 0 0] 35)))
            case atStart => exact ⟨0, none, 0, rfl, by omega, by simp, by omega, F13, NO.nil _ _ _ _, B13, Z13⟩
            case round =>
              clear F13 B13 Z13
              obtain ⟨k, so, co, rfl, hk, rfl, hco, F, O, Bx, Zx⟩ := hrel
              by_cases hkn : k < m
              · have d : decide (15 + 4 * (k : Int) < (N : Int)) = true := by simp; have := hNm.out; omega
                have hsn := srcF_snoc l k
                have hnb : numB (((l.take N).drop (15 + 4 * k)).take 4) = numB ((l.drop (15 + 4 * k)).take 4) := by
                  have := hNm.out
                  rw [List.drop_take, List.take_take, show min 4 (N - (15 + 4 * k)) = 4 by omega]
                have cN := Lib.hid (num_ok (.slice (some ⟨b, o, none⟩) N cb) N (l.take N) (15 + 4 * k) 4 (15 + 4 * (k : Int)) 4 (by decide) (by decide) (by have := hNm.out; omega) (by push_cast; rfl) rfl wr (SBody.out.bw (B2.out.trans Bx.out)))
                rw [hnb] at cN
                have hxb : numB ((l.drop (15 + 4 * k)).take 4) < 4294967296 := by
                  have := numB_lt ((l.drop (15 + 4 * k)).take 4) ((SBl.out.drop _).take _)
                  have h4 : ((l.drop (15 + 4 * k)).take 4).length = 4 := by
                    have := hNm.out; have := hnN.out; have := hll.out
                    rw [List.length_take, List.length_drop]; omega
                  rw [h4] at this
                  exact this
                generalize numB ((l.drop (15 + 4 * k)).take 4) = x at *
                clear hnb
                replace hsn := Lib.hid hsn
                go_wp2_with fail
                refine Calls.mono cN.out ?_
                rintro e w14 ⟨rfl, rfl⟩
                clear cN
                obtain ⟨wq, rfl⟩ : ∃ x, x = wr := ⟨_, rfl⟩
                dsimp only
                go_upto_region 20 with (fail)
                have BA : BW wq (wq.alloc (.cells #[.int .u32 (x : Nat)] 73)) := (BW.refl _).alloc
                have N1 := Lib.hid (NB.new1 wq 73 .u32 (x : Nat))
                have O1 := Lib.hid (O.out.bw BA)
                have F1 := Lib.hid (F.out.bw BA)
                have Z1 := Lib.hid (Zx.out.bw BA)
                have B1 := Lib.hid (Bx.out.trans BA)
                have hz1 := B1.out.size
                have y7 := hp_cell F.out 7
                simp only [List.getElem?_toArray, List.getElem?_cons_zero, List.getElem?_cons_succ] at y7
                have hown := Lib.hid (fun g hg => O1.out.2.ne F1.out (by decide) g hg)
                have hge := Lib.hid O1.out.ge'
                clear O F Zx Bx
                replace BA := Lib.hid BA
                go_wp2_with (at_builtin; go_must (refine wpList_apN slU32q rfl _ _ rfl w2.heap.size .u32 (.slice so k co) k (nzl (srcF l k)) rfl O1.out _ rfl 1 [(x : Int)] N1.out (by omega) hz1 ?_; intro s15 c15 w15 hc15 hm15 O15 T15 BB15 G15; unfold maxLen at hm15; replace O15 := Lib.hid O15; replace T15 := Lib.hid T15; clear G15 BB15; have F15 := Lib.hid (F1.out.st T15.out (fun hm => hown.out g9 (by simpa using hm) rfl)); have y15 := hp_cell F15.out 7; have f15 := hp_frz F15.out 7; simp only [List.getElem?_toArray, List.getElem?_cons_zero, List.getElem?_cons_succ] at y15))
                have Z15 := Lib.hid (Z1.out.st T15.out (fun hm => by have := hge.out _ (Option.mem_toList.1 hm); omega))
                have B15 := Lib.hid (BW.stP B1.out T15.out (fun j hj => hge.out j (Option.mem_toList.1 hj)))
                have TS := still_sc w15 g9 7 (.slice s15 (k + 1) c15)
                have F16 := F15.out.st1 7 (.slice s15 (k + 1) c15)
                simp only [List.setIfInBounds_toArray, List.set_cons_zero, List.set_cons_succ] at F16
                have O16 : NO (w15.setCell ⟨g9, 7, none⟩ (.slice s15 (k + 1) c15)) w2.heap.size 73 .u32 (.slice s15 (k + 1) c15) (k + 1) (nzl (srcF l (k + 1))) := by
                  have h := O15.out.still TS (fun g hg hm => O15.out.2.ne F15.out (by decide) g hg (by simpa using hm))
                  rw [hsn.out]
                  unfold nzl at h ⊢
                  rw [List.map_append]
                  exact h
                have Z16 := Z15.out.st TS (by simp; omega)
                have B16 := B15.out.stP TS (by simp; omega)
                clear y7 y15 f15 F15 O15 Z15 B15 T15 TS hown hge O1 F1 Z1 B1 N1 d
                replace F16 := Lib.hid F16
                replace O16 := Lib.hid O16
                replace Z16 := Lib.hid Z16
                replace B16 := Lib.hid B16
                go_wp2_with fail
                go_roundg (m - (k + 1))
                case measure => omega
                case rel => exact ⟨k + 1, s15, c15, rfl, by omega, congrArg _ (by push_cast; omega), hm15, F16, O16, B16, Z16⟩
              · obtain rfl : k = m := by omega
                have d : decide (15 + 4 * (k : Int) < (N : Int)) = false := by simp; have := hNm.out; omega
                go_upto_region 21 with (fail)
                have hzs := Zx.out.lt
                have z0 := hp_cell (Zx.out) 0
                have y0 := hp_frz (Zx.out) 0
                have z1 := hp_cell (Zx.out) 1
                have y1 := hp_frz (Zx.out) 1
                have z2 := hp_cell (Zx.out) 2
                have y2 := hp_frz (Zx.out) 2
                have z3 := hp_cell (Zx.out) 3
                have y3 := hp_frz (Zx.out) 3
                have z4 := hp_cell (Zx.out) 4
                have y4 := hp_frz (Zx.out) 4
                have z5 := hp_cell (Zx.out) 5
                have y5 := hp_frz (Zx.out) 5
                have z6 := hp_cell (Zx.out) 6
                have y6 := hp_frz (Zx.out) 6
                have z7 := hp_cell (Zx.out) 7
                have y7 := hp_frz (Zx.out) 7
                simp only [List.getElem?_toArray, List.getElem?_cons_zero, List.getElem?_cons_succ] at z0 z1 z2 z3 z4 z5 z6 z7
                have k'0 := hp_cell (F.out) 0
                have k'1 := hp_cell (F.out) 1
                have k'2 := hp_cell (F.out) 2
                have k'3 := hp_cell (F.out) 3
                have k'4 := hp_cell (F.out) 4
                have k'5 := hp_cell (F.out) 5
                have k'6 := hp_cell (F.out) 6
                have k'7 := hp_cell (F.out) 7
                simp only [List.getElem?_toArray, List.getElem?_cons_zero, List.getElem?_cons_succ] at k'0 k'1 k'2 k'3 k'4 k'5 k'6 k'7
                go_wp2_with fail
                clear z0 z1 z2 z3 z4 z5 z6 z7 y0 y1 y2 y3 y4 y5 y6 y7 k'0 k'1 k'2 k'3 k'4 k'5 k'6 k'7
                have TS := still_st8 wr w.heap.size (.int .i64 (b0 : Nat)) (.int .i64 (b1 : Nat)) (.int .u64 (nn : Nat)) (.int .i64 (b10 : Nat)) (.int .i64 (b11 : Nat)) (.int .i64 (b12 : Nat)) (.int .i64 ly) (.slice so k co)
                have Z4 := Zx.out.st8 rfl (.int .i64 (b0 : Nat)) (.int .i64 (b1 : Nat)) (.int .u64 (nn : Nat)) (.int .i64 (b10 : Nat)) (.int .i64 (b11 : Nat)) (.int .i64 (b12 : Nat)) (.int .i64 ly) (.slice so k co)
                have T4 := (B2.out.trans Bx.out).stP TS (by simp)
                have z0 := hp_cell (Z4) 0
                have z1 := hp_cell (Z4) 1
                have z2 := hp_cell (Z4) 2
                have z3 := hp_cell (Z4) 3
                have z4 := hp_cell (Z4) 4
                have z5 := hp_cell (Z4) 5
                have z6 := hp_cell (Z4) 6
                have z7 := hp_cell (Z4) 7
                simp only [List.getElem?_toArray, List.getElem?_cons_zero, List.getElem?_cons_succ] at z0 z1 z2 z3 z4 z5 z6 z7
                have V4 : FrV _ (frC (b0 : Nat) (b1 : Nat) nn (b10 : Nat) (b11 : Nat) (b12 : Nat) ly (.slice so k co)) ⟨(b0 : Nat), (b1 : Nat), nn, (b10 : Nat), (b11 : Nat), (b12 : Nat), ly, srcF l k⟩ := ⟨_, rfl, by rw [srcF_len]; exact (O.out.still TS (fun g hg => by simp; have := O.out.ge' g hg; omega)).nb⟩
                replace Z4 := Lib.hid Z4
                replace TS := Lib.hid TS
                replace T4 := Lib.hid T4
                replace V4 := Lib.hid V4
                exact bodyPost_ret (v := .tuple #[.agg (frC (b0 : Nat) (b1 : Nat) nn (b10 : Nat) (b11 : Nat) (b12 : Nat) ly (.slice so k co)), .int .i64 0]) (by simp [results, Try.results25, go_sem, z0, z1, z2, z3, z4, z5, z6, z7, frC]) rfl ⟨_, by rw [hRd.out]; rfl, by rw [hRd.out]; exact V4.out, T4.out⟩
end Go.Proofs.Ytcempndfbckcaaa
