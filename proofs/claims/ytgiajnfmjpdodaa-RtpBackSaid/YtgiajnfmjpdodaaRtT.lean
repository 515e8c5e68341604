/- The law RtpBack. No condition. -/
import Derived.Test.YtgiajnfmjpdodaaRtK
import Derived.Test.YtgiajnfmjpdodaaRtN
namespace Go.Proofs.Ytgiajnfmjpdodaa
open Go.RowKit

theorem back_zero (A : List Nat) (p j : Nat) (h1 : A.length ≤ j) (h2 : j + 1 < A.length + p) : (A ++ padN p).getD j 0 = 0 := by
  have hp : 0 < p := by omega
  have e : padN p = zeros (p - 1) ++ [p] := by unfold padN; rw [if_pos hp]
  rw [e, List.getD_eq_getElem?_getD, List.getElem?_append_right h1, List.getElem?_append_left (by rw [zeros_len]; omega)]
  rw [← List.getD_eq_getElem?_getD]
  exact zeros_get _ _
theorem back_last (A : List Nat) (p n : Nat) (hp : 0 < p) (hn : n = A.length + p) : (A ++ padN p).getD (n - 1) 0 = p := by
  have e : padN p = zeros (p - 1) ++ [p] := by unfold padN; rw [if_pos hp]
  rw [e, List.getD_eq_getElem?_getD, List.getElem?_append_right (by omega), List.getElem?_append_right (by rw [zeros_len]; omega)]
  rw [zeros_len, show n - 1 - A.length - (p - 1) = 0 by omega]; rfl
theorem SB.takeN {w : World} {a : Option Addr} {n cap : Nat} {l : List Nat} (h : SB w (.slice a n cap) n l) (k : Nat) (hk : k ≤ n) : SB w (.slice a k cap) k (l.take k) := by
  obtain ⟨_, _, he, h1, _⟩ := h.len
  cases he
  have := h.cut 0 k cap (by omega) hk (by omega) (Nat.le_refl _)
  rw [cutA_zero] at this
  exact this
theorem pl_le (d : RtpD) : d.payload.length ≤ (bytesN d).length := by
  unfold bytesN
  simp only [List.length_append]
  omega

set_option maxRecDepth 100000 in
set_option maxHeartbeats 8000000 in
theorem law_back (a : Option Addr) (len cap : Nat) (w : World) (h : Rd w (.loop (.label 4)) [.slice a len cap]) :
    Calls Try.prog 7 #[.slice a len cap] w fun e w' => e = .returned (.bool true) ∧ Below w.heap.size w w' := by
  obtain ⟨l, hv⟩ := SB_of_Rd h
  obtain ⟨_, _, he, hn, hm⟩ := hv.len
  simp only [Value.slice.injEq, true_and] at he
  obtain ⟨rfl, rfl⟩ := he
  unfold maxLen at hm
  clear h
  have hll := hv.1
  have hlb := hv.2.1
  have ha := Lib.hid (rtp_alive w)
  replace hv := Lib.hid hv
  go_enter Try.func7, Try.ntmps7
  go_wp2_with fail
  refine Calls.mono ha.out ?_
  rintro e w1 ⟨rfl, B1⟩
  replace B1 := Lib.hid B1
  clear ha
  by_cases hl : 3000 < len
  · have d : decide ((3000 : Int) < (len : Int)) = true := by simp; omega
    go_wp2_with fail
    go_ret
    exact ⟨rfl, B1.out⟩
  have d : decide ((3000 : Int) < (len : Int)) = false := by simp; omega
  go_upto_region 5 with (fail)
  clear d
  have cR := fun wz hv => Lib.hid (Read_any (.slice a len cap) len l (by omega) wz hv)
  generalize hR : readN l = R at *
  obtain ⟨er, hd, d⟩ := R
  have V1 := Lib.hid (hv.out.bw B1.out)
  have hlen : (len : Int) ≤ 3000 := by omega
  replace hR := Lib.hid hR
  replace hll := Lib.hid hll
  replace hlb := Lib.hid hlb
  go_wp2_with fail
  refine Calls.mono (cR w1 V1.out).out ?_
  rintro e w2 ⟨c1, rfl, O1, hb⟩
  obtain ⟨s1, p1, s2, p2, s3, p3, rfl, -, -, -⟩ := O1.open
  have B2 := B1.out.trans hb
  dsimp only at O1 ⊢
  by_cases he : er = 0
  case neg =>
    have q : ((er : Int) != 0) = true := by simp; omega
    simp only [rtpC]
    replace B2 := Lib.hid B2
    replace O1 := Lib.hid O1
    clear hb cR V1 B1
    go_wp2_with fail
    go_ret
    exact ⟨rfl, B2.out.alloc⟩
  subst he
  obtain ⟨hmay, hwf, hpl, hl12, hbn⟩ := write_read l hlb.out hd d hR.out
  have hBl : (bytesN d).length = len := by rw [hbn, List.length_append, padN_len, List.length_take, hll.out]; rw [hll.out] at hpl; omega
  have hW : writeN d = some (bytesN d) := by unfold writeN; rw [if_pos ⟨hmay, by rw [hBl]; rw [hll.out] at hl12; exact hl12⟩]
  have hple := pl_le d
  rw [hBl] at hple
  have cW := fun c wz h => Lib.hid (Write_any c d wz h hwf (by omega))
  have hBb := Lib.hid (bytesN_byt d hwf hmay)
  rw [hll.out] at hbn hpl hl12
  have h12 : 12 ≤ len := by
    have e : 12 ≤ (bytesN d).length := by unfold bytesN; rw [List.length_append, headN_len]; omega
    omega
  clear hwf hmay
  generalize bytesN d = BT at *
  obtain ⟨mk, ty, sq, st, so, ot, xb, pf, ex, pl, pd⟩ := d
  dsimp only at *
  replace hW := Lib.hid hW
  replace hbn := Lib.hid hbn
  replace hBl := Lib.hid hBl
  have P3 := PkV.newAt w2 (rtpC mk ty sq st so (.slice s1 ot.length p1) xb pf (.slice s2 ex.length p2) (.slice s3 pl.length p3) pd) w2.heap.size rfl
  have W3 : BW w2 (w2.alloc (.cells (rtpC mk ty sq st so (.slice s1 ot.length p1) xb pf (.slice s2 ex.length p2) (.slice s3 pl.length p3) pd) 28)) := (BW.refl _).alloc
  have O3 := O1.v.bw W3
  have B3 := B2.trans W3
  simp only [rtpC] at *
  replace P3 := Lib.hid P3
  replace O3 := Lib.hid O3
  replace B3 := Lib.hid B3
  clear hb O1 B2 W3 cR V1 B1
  go_upto_region 8 with (fail)
  generalize w2.alloc (.cells #[.bool mk, .int .u8 (ty : Nat), .int .u16 (sq : Nat), .int .u32 (st : Nat), .int .u32 (so : Nat), .slice s1 ot.length p1, .bool xb, .int .u16 (pf : Nat), .slice s2 ex.length p2, .slice s3 pl.length p3, .int .u8 (pd : Nat)] 28) = w3 at *
  generalize w2.heap.size = g1 at *
  have z0 := hp_cell (P3.out) 0
  have z1 := hp_cell (P3.out) 1
  have z2 := hp_cell (P3.out) 2
  have z3 := hp_cell (P3.out) 3
  have z4 := hp_cell (P3.out) 4
  have z5 := hp_cell (P3.out) 5
  have z6 := hp_cell (P3.out) 6
  have z7 := hp_cell (P3.out) 7
  have z8 := hp_cell (P3.out) 8
  have z9 := hp_cell (P3.out) 9
  have z10 := hp_cell (P3.out) 10
  simp only [List.getElem?_toArray, List.getElem?_cons_zero, List.getElem?_cons_succ] at z0 z1 z2 z3 z4 z5 z6 z7 z8 z9 z10
  go_wp2_with fail
  refine Calls.mono (cW _ w3 O3.out).out ?_
  rintro e w4 ⟨hpost, hb⟩
  clear cW
  rcases hpost with ⟨b, v, hw, rfl, O⟩ | ⟨hw, rfl⟩
  case inr => exact absurd (hW.out.symm.trans hw) (by intro h; cases h)
  obtain rfl : BT = b := Option.some.inj (hW.out.symm.trans hw)
  rw [hBl.out] at O
  obtain ⟨b1, o1, c1, rfl, _, _, hc1, hm1, hcell, _⟩ := O.form (by omega)
  unfold maxLen at hm1
  have P4 := P3.out.bw hb
  have B4 := Lib.hid (B3.out.trans hb)
  have V4 := Lib.hid (hv.out.bw B4.out)
  have O4 := O.sb
  clear z0 z1 z2 z3 z4 z5 z6 z7 z8 z9 z10
  clear hb P3 B3 hw hW O O3
  have z10 := hp_cell P4 10
  simp only [List.getElem?_toArray, List.getElem?_cons_zero, List.getElem?_cons_succ] at z10
  obtain ⟨N, hN⟩ : ∃ N, N = len - pd := ⟨_, rfl⟩
  have qN : (len : Int) - (pd : Int) = (N : Int) := by omega
  have hNl : N ≤ len := by omega
  have hNp : N + pd = len := by omega
  have hpd : (pd : Int) ≤ 3000 := by omega
  rw [← hN] at hbn
  replace P4 := Lib.hid P4
  replace O4 := Lib.hid O4
  replace hN := Lib.hid hN
  dsimp only
  go_upto_region 10 with (fail)
  have hBT1 : BT.take N = l.take N := by
    rw [hbn.out]; exact takeAt (by rw [List.length_take, hll.out]; omega)
  have hT1 : (l.take N).length = N := by rw [List.length_take, hll.out]; omega
  have k1 := fun y : LaterS [] w4 => conv_sb ((O4.out.takeN N hNl).bw y.bw)
  have k2 := fun y : LaterS [] w4 => conv_sb ((V4.out.takeN N hNl).bw y.bw)
  rw [hBT1] at k1
  generalize bstr (l.take N) = sN at *
  have hz : ∀ j, N ≤ j → j + 1 < len → BT.getD j 0 = 0 := fun j h1 h2 => by rw [hbn.out]; exact back_zero _ _ _ (by rw [hT1]; exact h1) (by rw [hT1]; omega)
  have hlast : 0 < pd → BT.getD (len - 1) 0 = pd := fun h => by rw [hbn.out]; exact back_last _ _ _ h (by rw [hT1]; omega)
  replace hz := Lib.hid hz
  replace hlast := Lib.hid hlast
  replace hcell := Lib.hid hcell
  replace hT1 := Lib.hid hT1
  replace hBT1 := Lib.hid hBT1
  have hN0 : (0 : Int) ≤ (N : Int) := by omega
  have hNc : (N : Int) ≤ (c1 : Int) := by omega
  have hNc2 : (N : Int) ≤ (cap : Int) := by omega
  refine wp_region_gg [] [] [] (by kernel_rfl) ?_
  refine hoist [] [] (a1 := ?_) 0 rfl (by kernel_rfl) (.inl ⟨rfl, rfl⟩) rfl rfl rfl (fun x K hK => ?_) ?_
  rotate_left
  · go_big_quiet_op
    exact hK
  refine hoist [] [] (a1 := ?_) 1 rfl (by kernel_rfl) (.inl ⟨rfl, rfl⟩) rfl rfl rfl (fun x K hK => ?_) ?_
  rotate_left
  · go_big_quiet_op
    exact hK
  refine hoist [] [] (a1 := ?_) 2 rfl (by kernel_rfl) (.inl ⟨rfl, rfl⟩) rfl rfl rfl (fun x K hK => ?_) ?_
  rotate_left
  · go_big_quiet_op
    exact hK
  refine hoist [] [] (a1 := ?_) 3 rfl (by kernel_rfl) (.inl ⟨rfl, rfl⟩) rfl rfl rfl (fun x K hK => ?_) ?_
  rotate_left
  · go_big_quiet_op
    exact hK
  refine hoist [] [] (a1 := ?_) 4 rfl (by kernel_rfl) (.inl ⟨rfl, rfl⟩) rfl rfl rfl (fun x K hK => ?_) ?_
  rotate_left
  · go_big_quiet_op
    exact hK
  refine hoist [] [] (a1 := ?_) 5 rfl (by kernel_rfl) (.inl ⟨rfl, rfl⟩) rfl rfl rfl (fun x K hK => ?_) ?_
  rotate_left
  · go_big_quiet_op
    exact hK
  refine hoist [] [] (a1 := ?_) 6 rfl (by kernel_rfl) (.inl ⟨rfl, rfl⟩) rfl rfl rfl (fun x K hK => ?_) ?_
  rotate_left
  · go_big_quiet_op
    exact hK
  refine hoist [] [] (a1 := ?_) 7 rfl (by kernel_rfl) (.inl ⟨rfl, rfl⟩) rfl rfl rfl (fun x K hK => ?_) ?_
  rotate_left
  · go_big_quiet_op
    exact hK
  refine hoist [] [] (a1 := ?_) 8 rfl (by kernel_rfl) (.inl ⟨rfl, rfl⟩) rfl rfl rfl (fun x K hK => ?_) ?_
  rotate_left
  · go_big_quiet_op
    exact hK
  refine hoist [] [] (a1 := ?_) 9 rfl (by kernel_rfl) (.inl ⟨rfl, rfl⟩) rfl rfl rfl (fun x K hK => ?_) ?_
  rotate_left
  · go_big_quiet_op
    exact hK
  refine hoist [] [] (a1 := ?_) 10 rfl (by kernel_rfl) (.inl ⟨rfl, rfl⟩) rfl rfl rfl (fun x K hK => ?_) ?_
  rotate_left
  · go_big_quiet_op
    exact hK
  refine hoist [] [] (a1 := ?_) 11 rfl (by kernel_rfl) (.inl ⟨rfl, rfl⟩) rfl rfl rfl (fun x K hK => ?_) ?_
  rotate_left
  · go_big_quiet_op
    exact hK
  refine hoist [] [] (a1 := ?_) 12 rfl (by kernel_rfl) (.inl ⟨rfl, rfl⟩) rfl rfl rfl (fun x K hK => ?_) ?_
  rotate_left
  · go_big_quiet_op
    exact hK
  refine hoist [] [] (a1 := ?_) 13 rfl (by kernel_rfl) (.inl ⟨rfl, rfl⟩) rfl rfl rfl (fun x K hK => ?_) ?_
  rotate_left
  · go_big_quiet_op
    exact hK
  refine hoist [] [] (a1 := ?_) 14 rfl (by kernel_rfl) (.inl ⟨rfl, rfl⟩) rfl rfl rfl (fun x K hK => ?_) ?_
  rotate_left
  · go_big_quiet_op
    exact hK
  refine hoist [] [] (a1 := ?_) 15 rfl (by kernel_rfl) (.inl ⟨rfl, rfl⟩) rfl rfl rfl (fun x K hK => ?_) ?_
  rotate_left
  · go_big_quiet_op
    exact hK
  refine hoist [] [] (a1 := ?_) 16 rfl (by kernel_rfl) (.inl ⟨rfl, rfl⟩) rfl rfl rfl (fun x K hK => ?_) ?_
  rotate_left
  · go_big_quiet_op
    exact hK
  refine hoist [] [] (a1 := ?_) 17 rfl (by kernel_rfl) (.inl ⟨rfl, rfl⟩) rfl rfl rfl (fun x K hK => ?_) ?_
  rotate_left
  · go_big_quiet_op
    exact hK
  refine hoist [] [] (a1 := ?_) 18 rfl (by kernel_rfl) (.inl ⟨rfl, rfl⟩) rfl rfl rfl (fun x K hK => ?_) ?_
  rotate_left
  · go_big_quiet_op
    exact hK
  refine hoist [] [] (a1 := ?_) 19 rfl (by kernel_rfl) (.inl ⟨rfl, rfl⟩) rfl rfl rfl (fun x K hK => ?_) ?_
  rotate_left
  · go_big_quiet_op
    exact hK
  refine done (by kernel_rfl) (fun xr => ?_)
  have B5 := Lib.hid (B4.out.trans xr.bw)
  have W5 := Lib.hid xr.bw
  have z := xr.bw.cell z10
  clear k1 k2 z10 V4 B4
  generalize xr.now = w5 at *
  go_upto_region 13 with (fail)
  have C5 : Hid (∀ j, j < len → w5.cell? ⟨b1, o1 + j, none⟩ = some (.int .u8 (BT.getD j 0 : Nat))) := fun j hj => W5.out.cell (hcell.out j hj)
  clear W5 hcell
  replace z := Lib.hid z
  go_loopg [8] (len - N) (fun m' i wx => ∃ j : Nat, m' = len - j ∧ N ≤ j ∧ j ≤ len ∧ i = .int .i64 (j : Nat) ∧ Hid (BW w5 wx))
  case atStart => exact ⟨N, rfl, by omega, by omega, rfl, BW.refl _⟩
  case round =>
    obtain ⟨j, rfl, hNj, hj, rfl, C⟩ := hrel
    by_cases hjl : j + 1 < len
    · have ej := C.out.cell (C5.out j (by omega))
      rw [hz.out j hNj hjl] at ej
      have d : decide ((j : Int) < (len : Int) - 1) = true := by simp; omega
      go_wp2_with fail
      go_roundg (len - (j + 1))
      case measure => omega
      case rel => exact ⟨j + 1, rfl, by omega, by omega, by push_cast; rfl, C⟩
    · have d : decide ((j : Int) < (len : Int) - 1) = false := by simp; omega
      obtain ⟨wk, rfl⟩ : ∃ x, x = wr := ⟨_, rfl⟩
      go_upto_region 17 with (fail)
      clear d
      have zk := C.out.cell z.out
      have l10 := fun x : LaterS [] wk => x.cell zk (by simp)
      by_cases hp0 : pd = 0
      · have q : ((pd : Int) == 0) = true := by simp; omega
        refine wp_region_gg [] [] [] (by kernel_rfl) ?_
        refine hoist [] [] (a1 := ?_) 0 rfl (by kernel_rfl) (.inl ⟨rfl, rfl⟩) rfl rfl rfl (fun x K hK => ?_) ?_
        rotate_left
        · go_big_quiet_op
          exact hK
        refine hoist [] [] (a1 := ?_) 1 rfl (by kernel_rfl) (.inl ⟨rfl, rfl⟩) rfl rfl rfl (fun x K hK => ?_) ?_
        rotate_left
        · go_big_quiet_op
          exact hK
        refine hoist [] [] (a1 := ?_) 2 rfl (by kernel_rfl) (.inl ⟨rfl, rfl⟩) rfl rfl rfl (fun x K hK => ?_) ?_
        rotate_left
        · go_big_quiet_op
          exact hK
        refine hoist [] [] (a1 := ?_) 3 rfl (by kernel_rfl) (.inl ⟨rfl, rfl⟩) rfl rfl rfl (fun x K hK => ?_) ?_
        rotate_left
        · go_big_quiet_op
          exact hK
        refine hoist_skip [] [] 4 rfl (by kernel_rfl) (.inl ⟨rfl, rfl⟩) rfl (a1 := ?_) ?_ ?_
        rotate_left
        · simp only [Act.put, List.setIfInBounds_toArray, List.set_cons_succ, List.set_cons_zero]; rfl
        refine hoist_skip [] [] 5 rfl (by kernel_rfl) (.inl ⟨rfl, rfl⟩) rfl (a1 := ?_) ?_ ?_
        rotate_left
        · simp only [Act.put, List.setIfInBounds_toArray, List.set_cons_succ, List.set_cons_zero]; rfl
        refine hoist_skip [] [] 6 rfl (by kernel_rfl) (.inl ⟨rfl, rfl⟩) rfl (a1 := ?_) ?_ ?_
        rotate_left
        · simp only [Act.put, List.setIfInBounds_toArray, List.set_cons_succ, List.set_cons_zero]; rfl
        refine hoist_skip [] [] 7 rfl (by kernel_rfl) (.inl ⟨rfl, rfl⟩) rfl (a1 := ?_) ?_ ?_
        rotate_left
        · simp only [Act.put, List.setIfInBounds_toArray, List.set_cons_succ, List.set_cons_zero]; rfl
        refine hoist_skip [] [] 8 rfl (by kernel_rfl) (.inl ⟨rfl, rfl⟩) rfl (a1 := ?_) ?_ ?_
        rotate_left
        · simp only [Act.put, List.setIfInBounds_toArray, List.set_cons_succ, List.set_cons_zero]; rfl
        refine hoist_skip [] [] 9 rfl (by kernel_rfl) (.inl ⟨rfl, rfl⟩) rfl (a1 := ?_) ?_ ?_
        rotate_left
        · simp only [Act.put, List.setIfInBounds_toArray, List.set_cons_succ, List.set_cons_zero]; rfl
        refine hoist_skip [] [] 10 rfl (by kernel_rfl) (.inl ⟨rfl, rfl⟩) rfl (a1 := ?_) ?_ ?_
        rotate_left
        · simp only [Act.put, List.setIfInBounds_toArray, List.set_cons_succ, List.set_cons_zero]; rfl
        refine hoist_skip [] [] 11 rfl (by kernel_rfl) (.inl ⟨rfl, rfl⟩) rfl (a1 := ?_) ?_ ?_
        rotate_left
        · simp only [Act.put, List.setIfInBounds_toArray, List.set_cons_succ, List.set_cons_zero]; rfl
        refine hoist_skip [] [] 12 rfl (by kernel_rfl) (.inl ⟨rfl, rfl⟩) rfl (a1 := ?_) ?_ ?_
        rotate_left
        · simp only [Act.put, List.setIfInBounds_toArray, List.set_cons_succ, List.set_cons_zero]; rfl
        refine hoist [] [] (a1 := ?_) 13 rfl (by kernel_rfl) (.inl ⟨rfl, rfl⟩) rfl rfl rfl (fun x K hK => ?_) ?_
        rotate_left
        · go_big_quiet_op
          exact hK
        refine hoist [] [] (a1 := ?_) 14 rfl (by kernel_rfl) (.inl ⟨rfl, rfl⟩) rfl rfl rfl (fun x K hK => ?_) ?_
        rotate_left
        · go_big_quiet_op
          exact hK
        refine done (by kernel_rfl) (fun xr => ?_)
        have B6 := Lib.hid ((B5.out.trans C.out).trans xr.bw)
        go_wp2_with fail
        go_ret
        exact ⟨rfl, B6.out⟩
      · have q : ((pd : Int) == 0) = false := by simp; omega
        have el := C.out.cell (C5.out (len - 1) (by omega))
        rw [hlast.out (by omega)] at el
        have ll := fun x : LaterS [] wk => x.cell el (by simp)
        have tn : ((len : Int) - 1).toNat = len - 1 := by omega
        have q2 : IntKind.i64.wrap ((len : Int) - 1) = (len : Int) - 1 := IntWalk.i64_in _ (by omega)
        refine wp_region_gg [] [] [] (by kernel_rfl) ?_
        refine hoist [] [] (a1 := ?_) 0 rfl (by kernel_rfl) (.inl ⟨rfl, rfl⟩) rfl rfl rfl (fun x K hK => ?_) ?_
        rotate_left
        · go_big_quiet_op
          exact hK
        refine hoist [] [] (a1 := ?_) 1 rfl (by kernel_rfl) (.inl ⟨rfl, rfl⟩) rfl rfl rfl (fun x K hK => ?_) ?_
        rotate_left
        · go_big_quiet_op
          exact hK
        refine hoist [] [] (a1 := ?_) 2 rfl (by kernel_rfl) (.inl ⟨rfl, rfl⟩) rfl rfl rfl (fun x K hK => ?_) ?_
        rotate_left
        · go_big_quiet_op
          exact hK
        refine hoist [] [] (a1 := ?_) 3 rfl (by kernel_rfl) (.inl ⟨rfl, rfl⟩) rfl rfl rfl (fun x K hK => ?_) ?_
        rotate_left
        · go_big_quiet_op
          exact hK
        refine hoist [] [] (a1 := ?_) 4 rfl (by kernel_rfl) (.inl ⟨rfl, rfl⟩) rfl rfl rfl (fun x K hK => ?_) ?_
        rotate_left
        · go_big_quiet_op
          exact hK
        refine hoist [] [] (a1 := ?_) 5 rfl (by kernel_rfl) (.inl ⟨rfl, rfl⟩) rfl rfl rfl (fun x K hK => ?_) ?_
        rotate_left
        · go_big_quiet_op
          exact hK
        refine hoist [] [] (a1 := ?_) 6 rfl (by kernel_rfl) (.inl ⟨rfl, rfl⟩) rfl rfl rfl (fun x K hK => ?_) ?_
        rotate_left
        · go_big_quiet_op
          exact hK
        refine hoist [] [] (a1 := ?_) 7 rfl (by kernel_rfl) (.inl ⟨rfl, rfl⟩) rfl rfl rfl (fun x K hK => ?_) ?_
        rotate_left
        · go_big_quiet_op
          exact hK
        refine hoist [] [] (a1 := ?_) 8 rfl (by kernel_rfl) (.inl ⟨rfl, rfl⟩) rfl rfl rfl (fun x K hK => ?_) ?_
        rotate_left
        · go_big_quiet_op
          exact hK
        refine hoist [] [] (a1 := ?_) 9 rfl (by kernel_rfl) (.inl ⟨rfl, rfl⟩) rfl rfl rfl (fun x K hK => ?_) ?_
        rotate_left
        · go_big_quiet_op
          exact hK
        refine hoist [] [] (a1 := ?_) 10 rfl (by kernel_rfl) (.inl ⟨rfl, rfl⟩) rfl rfl rfl (fun x K hK => ?_) ?_
        rotate_left
        · go_big_quiet_op
          exact hK
        refine hoist [] [] (a1 := ?_) 11 rfl (by kernel_rfl) (.inl ⟨rfl, rfl⟩) rfl rfl rfl (fun x K hK => ?_) ?_
        rotate_left
        · go_big_quiet_op
          exact hK
        refine hoist [] [] (a1 := ?_) 12 rfl (by kernel_rfl) (.inl ⟨rfl, rfl⟩) rfl rfl rfl (fun x K hK => ?_) ?_
        rotate_left
        · go_big_quiet_op
          exact hK
        refine hoist [] [] (a1 := ?_) 13 rfl (by kernel_rfl) (.inl ⟨rfl, rfl⟩) rfl rfl rfl (fun x K hK => ?_) ?_
        rotate_left
        · go_big_quiet_op
          exact hK
        refine hoist [] [] (a1 := ?_) 14 rfl (by kernel_rfl) (.inl ⟨rfl, rfl⟩) rfl rfl rfl (fun x K hK => ?_) ?_
        rotate_left
        · go_big_quiet_op
          exact hK
        refine done (by kernel_rfl) (fun xr => ?_)
        have B6 := Lib.hid ((B5.out.trans C.out).trans xr.bw)
        go_wp2_with fail
        go_ret
        exact ⟨rfl, B6.out⟩
end Go.Proofs.Ytgiajnfmjpdodaa
