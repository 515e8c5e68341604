/- The law FramesTurned. No condition. -/
import Derived.Test.YtcempndfbckcaaaFrT
namespace Go.Proofs.Ytcempndfbckcaaa
open Go.RowKit

theorem tmod_nat (a b : Nat) : ((a : Int)).tmod (b : Int) = ((a % b : Nat) : Int) := by
  rw [Int.tmod_eq_emod_of_nonneg (Int.natCast_nonneg _)]; exact (Int.natCast_emod a b).symm
set_option maxRecDepth 100000 in
set_option maxHeartbeats 8000000 in
theorem law_frturned (cs rs : Array Value) (a : Option Addr) (len cap : Nat) (at_ fl : Int) (w : World) (h : Rd w frTy cs.toList) (hr : Rd w repTy rs.toList) (hk : Rd w (.loop (.label 4)) [.slice a len cap]) (hat : (Lit.int .u8 at_).wf = true) (hfl : (Lit.int .u8 fl).wf = true) :
    Calls Try.prog 8 #[.agg cs, .agg rs, .slice a len cap, .int .u8 at_, .int .u8 fl] w fun e w' => e = .returned (.bool true) ∧ Below w.heap.size w w' := by
  obtain ⟨d, V, wf⟩ := FrV_of_Rd h
  obtain ⟨rn, rc, rv, rfl, hrn, hrc, hrv⟩ := rep_of_Rd hr
  obtain ⟨key, hK, hkc, hkm⟩ := key_rd hk
  obtain ⟨an, rfl⟩ := Int.eq_ofNat_of_zero_le (bounds_u8 hat).1
  obtain ⟨fn, rfl⟩ := Int.eq_ofNat_of_zero_le (bounds_u8 hfl).1
  have han := (bounds_u8 hat).2
  have hfn := (bounds_u8 hfl).2
  clear h hr hk hat hfl
  obtain ⟨ss, cp, rfl, -, hsc, hsm⟩ := V.open
  have ha := fun wz => Lib.hid (fr_alive wz)
  have cW := fun wz (hb : BW w wz) hnk => Lib.hid (frWrite_any _ d a len cap key wz (V.bw hb) wf (hK.bw hb) hnk)
  unfold FrWPost at cW
  have hXl := frN_len key d
  generalize frN key d = X at *
  have hKK := Lib.hid hK
  clear V hK wf
  generalize mayF d = M at *
  obtain ⟨k, s, nc, r, t, o, l, L⟩ := d
  dsimp only at *
  simp only [frC] at *
  generalize hLn : L.length = n at *
  have B1 : Hid (BW w ((w.alloc (.cells #[.int .i64 k, .int .i64 s, .int .u64 (nc : Nat), .int .i64 r, .int .i64 t, .int .i64 o, .int .i64 l, .slice ss n cp] 35)).alloc (.cells #[.int .u64 (rn : Nat), .int .i64 rc, .int .i64 rv] 52))) := ((BW.refl w).alloc).alloc
  have P1 := Lib.hid ((HpB.new w (.cells #[.int .i64 k, .int .i64 s, .int .u64 (nc : Nat), .int .i64 r, .int .i64 t, .int .i64 o, .int .i64 l, .slice ss n cp] 35)).bw ((BW.refl _).alloc (o := .cells #[.int .u64 (rn : Nat), .int .i64 rc, .int .i64 rv] 52)))
  have Q1 : Hid (HpB ((w.alloc (.cells #[.int .i64 k, .int .i64 s, .int .u64 (nc : Nat), .int .i64 r, .int .i64 t, .int .i64 o, .int .i64 l, .slice ss n cp] 35)).alloc (.cells #[.int .u64 (rn : Nat), .int .i64 rc, .int .i64 rv] 52)) (w.heap.size + 1) (.cells #[.int .u64 (rn : Nat), .int .i64 rc, .int .i64 rv] 52)) := hp_new _ _ _ (by simp)
  replace hXl := Lib.hid hXl
  replace hLn := Lib.hid hLn
  go_enter Try.func8, Try.ntmps8
  go_upto_region 1 with (fail)
  generalize (w.alloc (.cells #[.int .i64 k, .int .i64 s, .int .u64 (nc : Nat), .int .i64 r, .int .i64 t, .int .i64 o, .int .i64 l, .slice ss n cp] 35)).alloc (.cells #[.int .u64 (rn : Nat), .int .i64 rc, .int .i64 rv] 52) = w1 at *
  have ha1 := ha w1
  clear ha
  go_wp2_with fail
  refine Calls.mono ha1.out ?_
  rintro e w2 ⟨rfl, hb⟩
  have B2 := Lib.hid (B1.out.trans hb)
  have P2 := Lib.hid (P1.out.bw hb)
  have Q2 := Lib.hid (Q1.out.bw hb)
  clear ha1 hb B1 P1 Q1
  have z0 := hp_cell (P2.out) 0
  have z1 := hp_cell (P2.out) 1
  have z2 := hp_cell (P2.out) 2
  have z3 := hp_cell (P2.out) 3
  have z4 := hp_cell (P2.out) 4
  have z5 := hp_cell (P2.out) 5
  have z6 := hp_cell (P2.out) 6
  have z7 := hp_cell (P2.out) 7
  simp only [List.getElem?_toArray, List.getElem?_cons_zero, List.getElem?_cons_succ] at z0 z1 z2 z3 z4 z5 z6 z7
  by_cases h1 : 100 < n
  · have d1 : decide ((100 : Int) < (n : Int)) = true := by simp; omega
    go_wp2_with fail
    go_ret
    exact ⟨rfl, B2.out⟩
  have d1 : decide ((100 : Int) < (n : Int)) = false := by simp; omega
  by_cases h2 : 200 < len
  · have d2 : decide ((200 : Int) < (len : Int)) = true := by simp; omega
    go_wp2_with fail
    go_ret
    exact ⟨rfl, B2.out⟩
  have d2 : decide ((200 : Int) < (len : Int)) = false := by simp; omega
  by_cases h3 : fn = 0
  · have d3 : ((fn : Int) == 0) = true := by rw [h3]; rfl
    replace h3 := Lib.hid h3
    go_wp2_with fail
    go_ret
    exact ⟨rfl, B2.out⟩
  have d3 : ((fn : Int) == 0) = false := by rw [beq_eq_false_iff_ne]; omega
  replace h3 := Lib.hid h3
  have cW2 := cW w2 B2.out (by omega)
  clear cW
  go_wp2_with fail
  refine Calls.mono cW2.out ?_
  rintro e w3 ⟨hr, hb⟩
  have B3 := Lib.hid hb
  clear z0 z1 z2 z3 z4 z5 z6 z7
  clear cW2 hb P2
  rcases hr with ⟨rfl, v, rfl, O3⟩ | ⟨rfl, rfl⟩
  · obtain ⟨s3, c3, rfl, hc3, hm3⟩ := O3.len
    unfold maxLen at hm3
    generalize hXn : X.length = nX at *
    have hXn2 : nX ≤ 500 := by have := hXl.out; have := hLn.out; omega
    have hXn3 : 25 ≤ nX := by have := hXl.out; omega
    obtain ⟨g3, o3, c3', he, hg3, hlt3, _, _, hcell, hfz⟩ := O3.form (by omega)
    cases he
    obtain ⟨kx, hkx⟩ : ∃ kx, an % nX = kx := ⟨_, rfl⟩
    have hkl : kx < nX := by rw [← hkx]; exact Nat.mod_lt _ (by omega)
    have qk : ((an : Int)).tmod (nX : Int) = (kx : Int) := by rw [tmod_nat, hkx]
    have z := hcell kx hkl
    have hx8 := ByL.get O3.sb.2.1 kx
    generalize hxv : X.getD kx 0 = xv at *
    have qx := u8_xor_nat xv fn hx8 (by omega)
    have hx : xv ^^^ fn < 256 := Nat.xor_lt_two_pow (n := 8) hx8 (by omega)
    have O4' := Lib.hid (O3.set kx hkl (xv ^^^ fn) hx)
    generalize hxf : xv ^^^ fn = xf at *
    clear hcell
    replace O3 := Lib.hid O3
    replace hXn := Lib.hid hXn
    replace hkx := Lib.hid hkx
    replace hxv := Lib.hid hxv
    replace hxf := Lib.hid hxf
    replace hfz := Lib.hid hfz
    dsimp only
    go_upto_region 7 with (fail)
    have m0 : ∀ y : LaterS [] w3, _ := fun y => y.bw.cell z
    refine wp_region_gg [] [] [17] (by kernel_rfl) ?_
    refine hoist [] [] (a1 := ?_) 0 rfl (by kernel_rfl) (.inl ⟨rfl, rfl⟩) rfl rfl rfl (fun x K hK => ?_) ?_
    rotate_left
    · go_big_quiet_op
      exact hK
    refine hoist [] [] (a1 := ?_) 1 rfl (by kernel_rfl) (.inl ⟨rfl, rfl⟩) rfl rfl rfl (fun x K hK => ?_) ?_
    rotate_left
    · go_big_quiet_op
      exact hK
    refine hoist [] [] (a1 := ?_) 2 rfl (by kernel_rfl) (.inl ⟨rfl, rfl⟩) rfl rfl rfl (fun x K hK => ?_) ?_
    rotate_left
    · go_big_quiet_op
      exact hK
    refine hoist [] [] (a1 := ?_) 3 rfl (by kernel_rfl) (.inl ⟨rfl, rfl⟩) rfl rfl rfl (fun x K hK => ?_) ?_
    rotate_left
    · go_big_quiet_op
      exact hK
    refine hoist [] [] (a1 := ?_) 4 rfl (by kernel_rfl) (.inl ⟨rfl, rfl⟩) rfl rfl rfl (fun x K hK => ?_) ?_
    rotate_left
    · go_big_quiet_op
      exact hK
    refine hoist [] [] (a1 := ?_) 5 rfl (by kernel_rfl) (.inl ⟨rfl, rfl⟩) rfl rfl rfl (fun x K hK => ?_) ?_
    rotate_left
    · go_big_quiet_op
      exact hK
    refine hoist [] [] (a1 := ?_) 6 rfl (by kernel_rfl) (.inl ⟨rfl, rfl⟩) rfl rfl rfl (fun x K hK => ?_) ?_
    rotate_left
    · go_big_quiet_op
      exact hK
    refine hoist [] [] (a1 := ?_) 7 rfl (by kernel_rfl) (.inl ⟨rfl, rfl⟩) rfl rfl rfl (fun x K hK => ?_) ?_
    rotate_left
    · go_big_quiet_op
      exact hK
    refine hoist [] [] (a1 := ?_) 8 rfl (by kernel_rfl) (.inl ⟨rfl, rfl⟩) rfl rfl rfl (fun x K hK => ?_) ?_
    rotate_left
    · go_big_quiet_op
      exact hK
    refine hoist [] [] (a1 := ?_) 9 rfl (by kernel_rfl) (.inl ⟨rfl, rfl⟩) rfl rfl rfl (fun x K hK => ?_) ?_
    rotate_left
    · go_big_quiet_op
      exact hK
    refine hoist [] [] (a1 := ?_) 10 rfl (by kernel_rfl) (.inl ⟨rfl, rfl⟩) rfl rfl rfl (fun x K hK => ?_) ?_
    rotate_left
    · go_big_quiet_op
      exact hK
    refine hoist [] [] (a1 := ?_) 11 rfl (by kernel_rfl) (.inl ⟨rfl, rfl⟩) rfl rfl rfl (fun x K hK => ?_) ?_
    rotate_left
    · go_big_quiet_op
      exact hK
    refine hoist [] [] (a1 := ?_) 12 rfl (by kernel_rfl) (.inl ⟨rfl, rfl⟩) rfl rfl rfl (fun x K hK => ?_) ?_
    rotate_left
    · go_big_quiet_op
      exact hK
    refine hoist [] [] (a1 := ?_) 13 rfl (by kernel_rfl) (.inl ⟨rfl, rfl⟩) rfl rfl rfl (fun x K hK => ?_) ?_
    rotate_left
    · go_big_quiet_op
      exact hK
    refine hoist [] [] (a1 := ?_) 14 rfl (by kernel_rfl) (.inl ⟨rfl, rfl⟩) rfl rfl rfl (fun x K hK => ?_) ?_
    rotate_left
    · go_big_quiet_op
      exact hK
    refine hoist [] [] (a1 := ?_) 15 rfl (by kernel_rfl) (.inl ⟨rfl, rfl⟩) rfl rfl rfl (fun x K hK => ?_) ?_
    rotate_left
    · go_big_quiet_op
      exact hK
    refine hoist [] [] (a1 := ?_) 16 rfl (by kernel_rfl) (.inl ⟨rfl, rfl⟩) rfl rfl rfl (fun x K hK => ?_) ?_
    rotate_left
    · go_big_quiet_op
      exact hK
    refine tail 17 rfl (by kernel_rfl) rfl (fun xr => ?_)
    simp only [List.drop_succ_cons, List.drop_zero]
    have O4 := O3.out.bw xr.bw
    have B4 := B3.out.trans xr.bw
    clear m0 z qx O4'
    generalize xr.now = w4 at *
    obtain ⟨g4, o4, c4', he, _, _, _, _, hcell, hfz4⟩ := O4.form (by omega)
    cases he
    have z4 := hcell kx hkl
    have f4 := hfz4 (o3 + kx)
    rw [hxv.out] at z4
    have O5 := Lib.hid (O4.set kx hkl xf hx)
    have B5 := Lib.hid (B4.stP (still_sc w4 g3 (o3 + kx) (.int .u8 (xf : Nat))) (by simp; omega))
    clear hcell hfz4 O4 B4 O3 B3 hfz
    go_upto_region 8 with (fail)
    clear z4 f4
    generalize w4.setCell ⟨g3, o3 + kx, none⟩ (.int .u8 (xf : Nat)) = w5 at *
    generalize X.set kx xf = X2 at *
    have hX2l := Lib.hid O5.out.1
    have cR := Lib.hid (frRead_any (some ⟨g3, o3, none⟩) nX c3 X2 a len cap key w5 O5.out.sb (hKK.out.bw (B2.out.trans B5.out)) (by omega) (by omega))
    unfold FrRdPost at cR
    have hgood := Lib.hid (fun h => rd_good (key := key) (l := X2) h)
    have cT := fun wz (hb : BW w5 wz) => Lib.hid (tgd_any (some ⟨g3, o3, none⟩) nX c3 X2 a len cap key wz (O5.out.sb.bw hb) (hKK.out.bw ((B2.out.trans B5.out).trans hb)) (by omega) (by omega) (by omega))
    rw [hX2l.out] at hgood
    generalize rdF key X2 = RX at *
    obtain ⟨er, d2⟩ := RX
    go_wp2_with fail
    refine Calls.mono cR.out ?_
    rintro e w6 ⟨c, rfl, V6, hb⟩
    obtain ⟨s6, c6, rfl, -, -, -⟩ := V6.open
    have hb6 := Lib.hid hb
    clear V6 cR hb
    simp only [frC]
    obtain ⟨dk, ds, dn, dr, dt, d_o, dl, dL⟩ := d2
    dsimp only at hgood ⊢
    generalize dL.length = dLn
    have BF : Hid (BW w6 (w6.alloc (.cells #[.int .i64 dk, .int .i64 ds, .int .u64 (dn : Nat), .int .i64 dr, .int .i64 dt, .int .i64 d_o, .int .i64 dl, .slice s6 dLn c6] 35))) := (BW.refl _).alloc
    go_upto_region 9 with (fail)
    have cT2 := cT _ (hb6.out.trans BF.out)
    have B7 := Lib.hid (B5.out.trans (hb6.out.trans BF.out))
    clear cT hb6 BF
    generalize w6.alloc (.cells #[.int .i64 dk, .int .i64 ds, .int .u64 (dn : Nat), .int .i64 dr, .int .i64 dt, .int .i64 d_o, .int .i64 dl, .slice s6 dLn c6] 35) = w7 at *
    by_cases he0 : er = 0
    · have q9 : ((er : Int) == 0) = true := by rw [he0]; rfl
      rw [hgood.out he0] at cT2
      replace he0 := Lib.hid he0
      go_wp2_with fail
      refine Calls.mono cT2.out ?_
      rintro e wc ⟨rfl, hb⟩
      have Bc := Lib.hid (B7.out.trans hb)
      clear cT2 hb B7
      dsimp only
      go_upto_region 11 with (fail)
      clear q9 qk
      have QC := Lib.hid (Q2.out.bw Bc.out)
      have BC := Lib.hid (B2.out.trans Bc.out)
      have cU := Lib.hid (repWrite_any rn rc rv a len cap key wc hrn hrc hrv (hKK.out.bw BC.out) (by omega))
      unfold RepWPost at cU
      have z0 := hp_cell (QC.out) 0
      have z1 := hp_cell (QC.out) 1
      have z2 := hp_cell (QC.out) 2
      simp only [List.getElem?_toArray, List.getElem?_cons_zero, List.getElem?_cons_succ] at z0 z1 z2
      go_wp2_with fail
      refine Calls.mono cU.out ?_
      rintro e w8 ⟨hr, hb⟩
      have B8 := Lib.hid (BC.out.trans hb)
      have hb8 := Lib.hid hb
      clear z0 z1 z2
      clear cU hb QC
      rcases hr with ⟨cn, vn, rfl, rfl, h255, h231, u, rfl, O8⟩ | ⟨hno, rfl⟩
      case inr =>
        dsimp only
        go_wp2_with fail
        go_ret
        exact ⟨rfl, B8.out⟩
      generalize repN key rn cn vn = Y at *
      obtain ⟨s8, c8, rfl, hc8, hm8⟩ := O8.len
      unfold maxLen at hm8
      obtain ⟨g8, o8, c8', he, hg8, hlt8, _, _, hcell, hfz⟩ := O8.form (by omega)
      cases he
      obtain ⟨ky, hky⟩ : ∃ ky, an % 24 = ky := ⟨_, rfl⟩
      have hkl8 : ky < 24 := by rw [← hky]; exact Nat.mod_lt _ (by decide)
      have qk8 : ((an : Int)).tmod 24 = (ky : Int) := by rw [show (24 : Int) = ((24 : Nat) : Int) from rfl, tmod_nat, hky]
      have z8 := hcell ky hkl8
      have hy8 := ByL.get O8.sb.2.1 ky
      generalize hyv : Y.getD ky 0 = yv at *
      have qy := u8_xor_nat yv fn hy8 (by omega)
      have hy : yv ^^^ fn < 256 := Nat.xor_lt_two_pow (n := 8) hy8 (by omega)
      generalize hyf : yv ^^^ fn = yf at *
      clear hcell hfz
      replace O8 := Lib.hid O8
      replace hky := Lib.hid hky
      replace hyv := Lib.hid hyv
      replace hyf := Lib.hid hyf
      dsimp only
      go_upto_region 14 with (fail)
      have m8 : ∀ y : LaterS [] w8, _ := fun y => y.bw.cell z8
      refine wp_region_gg [] [] [17] (by kernel_rfl) ?_
      refine hoist [] [] (a1 := ?_) 0 rfl (by kernel_rfl) (.inl ⟨rfl, rfl⟩) rfl rfl rfl (fun x K hK => ?_) ?_
      rotate_left
      · go_big_quiet_op
        exact hK
      refine hoist [] [] (a1 := ?_) 1 rfl (by kernel_rfl) (.inl ⟨rfl, rfl⟩) rfl rfl rfl (fun x K hK => ?_) ?_
      rotate_left
      · go_big_quiet_op
        exact hK
      refine hoist [] [] (a1 := ?_) 2 rfl (by kernel_rfl) (.inl ⟨rfl, rfl⟩) rfl rfl rfl (fun x K hK => ?_) ?_
      rotate_left
      · go_big_quiet_op
        exact hK
      refine hoist [] [] (a1 := ?_) 3 rfl (by kernel_rfl) (.inl ⟨rfl, rfl⟩) rfl rfl rfl (fun x K hK => ?_) ?_
      rotate_left
      · go_big_quiet_op
        exact hK
      refine hoist [] [] (a1 := ?_) 4 rfl (by kernel_rfl) (.inl ⟨rfl, rfl⟩) rfl rfl rfl (fun x K hK => ?_) ?_
      rotate_left
      · go_big_quiet_op
        exact hK
      refine hoist [] [] (a1 := ?_) 5 rfl (by kernel_rfl) (.inl ⟨rfl, rfl⟩) rfl rfl rfl (fun x K hK => ?_) ?_
      rotate_left
      · go_big_quiet_op
        exact hK
      refine hoist [] [] (a1 := ?_) 6 rfl (by kernel_rfl) (.inl ⟨rfl, rfl⟩) rfl rfl rfl (fun x K hK => ?_) ?_
      rotate_left
      · go_big_quiet_op
        exact hK
      refine hoist [] [] (a1 := ?_) 7 rfl (by kernel_rfl) (.inl ⟨rfl, rfl⟩) rfl rfl rfl (fun x K hK => ?_) ?_
      rotate_left
      · go_big_quiet_op
        exact hK
      refine hoist [] [] (a1 := ?_) 8 rfl (by kernel_rfl) (.inl ⟨rfl, rfl⟩) rfl rfl rfl (fun x K hK => ?_) ?_
      rotate_left
      · go_big_quiet_op
        exact hK
      refine hoist [] [] (a1 := ?_) 9 rfl (by kernel_rfl) (.inl ⟨rfl, rfl⟩) rfl rfl rfl (fun x K hK => ?_) ?_
      rotate_left
      · go_big_quiet_op
        exact hK
      refine hoist [] [] (a1 := ?_) 10 rfl (by kernel_rfl) (.inl ⟨rfl, rfl⟩) rfl rfl rfl (fun x K hK => ?_) ?_
      rotate_left
      · go_big_quiet_op
        exact hK
      refine hoist [] [] (a1 := ?_) 11 rfl (by kernel_rfl) (.inl ⟨rfl, rfl⟩) rfl rfl rfl (fun x K hK => ?_) ?_
      rotate_left
      · go_big_quiet_op
        exact hK
      refine hoist [] [] (a1 := ?_) 12 rfl (by kernel_rfl) (.inl ⟨rfl, rfl⟩) rfl rfl rfl (fun x K hK => ?_) ?_
      rotate_left
      · go_big_quiet_op
        exact hK
      refine hoist [] [] (a1 := ?_) 13 rfl (by kernel_rfl) (.inl ⟨rfl, rfl⟩) rfl rfl rfl (fun x K hK => ?_) ?_
      rotate_left
      · go_big_quiet_op
        exact hK
      refine hoist [] [] (a1 := ?_) 14 rfl (by kernel_rfl) (.inl ⟨rfl, rfl⟩) rfl rfl rfl (fun x K hK => ?_) ?_
      rotate_left
      · go_big_quiet_op
        exact hK
      refine hoist [] [] (a1 := ?_) 15 rfl (by kernel_rfl) (.inl ⟨rfl, rfl⟩) rfl rfl rfl (fun x K hK => ?_) ?_
      rotate_left
      · go_big_quiet_op
        exact hK
      refine hoist [] [] (a1 := ?_) 16 rfl (by kernel_rfl) (.inl ⟨rfl, rfl⟩) rfl rfl rfl (fun x K hK => ?_) ?_
      rotate_left
      · go_big_quiet_op
        exact hK
      refine tail 17 rfl (by kernel_rfl) rfl (fun xr => ?_)
      simp only [List.drop_succ_cons, List.drop_zero]
      have O9 := O8.out.bw xr.bw
      have B9 := B8.out.trans xr.bw
      clear m8 z8 qy
      generalize xr.now = w9 at *
      obtain ⟨g9, o9, c9', he, _, _, _, _, hcell, hfz⟩ := O9.form (by omega)
      cases he
      have z9 := hcell ky hkl8
      have f9 := hfz (o8 + ky)
      rw [hyv.out] at z9
      have OA := Lib.hid (O9.set ky hkl8 yf hy)
      have BA := Lib.hid (B9.stP (still_sc w9 g8 (o8 + ky) (.int .u8 (yf : Nat))) (by have := B2.out.size; have := Bc.out.size; simp; omega))
      clear hcell hfz O9 B9 O8 B8
      go_upto_region 15 with (fail)
      clear z9 f9
      generalize w9.setCell ⟨g8, o8 + ky, none⟩ (.int .u8 (yf : Nat)) = wa at *
      generalize Y.set ky yf = Y2 at *
      have hY2l := Lib.hid OA.out.1
      have cX := Lib.hid (repRead_any (some ⟨g8, o8, none⟩) 24 c8 Y2 a len cap key wa OA.out.sb (hKK.out.bw BA.out) (by decide) (by omega))
      unfold RepRdPost at cX
      have hgood := Lib.hid (fun h => rep_good (key := key) (l := Y2) h)
      have cT := fun wz (hb : BW wa wz) => Lib.hid (tgd_any (some ⟨g8, o8, none⟩) 24 c8 Y2 a len cap key wz (OA.out.sb.bw hb) (hKK.out.bw (BA.out.trans hb)) (by decide) (by decide) (by omega))
      generalize repRd key Y2 = RY at *
      obtain ⟨ery, y1, y2, y3⟩ := RY
      dsimp only at cX
      go_wp2_with fail
      refine Calls.mono cX.out ?_
      rintro e wb ⟨rfl, hb⟩
      have BF : Hid (BW wb (wb.alloc (.cells #[.int .u64 (y1 : Nat), .int .i64 (y2 : Nat), .int .i64 (y3 : Nat)] 52))) := (BW.refl _).alloc
      go_upto_region 16 with (fail)
      have cT2 := cT _ (hb.trans BF.out)
      have BB := Lib.hid (BA.out.trans (hb.trans BF.out))
      clear cX cT hb BF
      generalize wb.alloc (.cells #[.int .u64 (y1 : Nat), .int .i64 (y2 : Nat), .int .i64 (y3 : Nat)] 52) = wd at *
      by_cases he0 : ery = 0
      · have q9 : ((ery : Int) != 0) = false := by rw [he0]; rfl
        have hg := (hgood.out he0).2
        rw [show Y2.take (24 - 10) = Y2.take 14 from rfl, show Y2.drop (24 - 10) = Y2.drop 14 from rfl, hg] at cT2
        replace hg := Lib.hid hg
        replace he0 := Lib.hid he0
        go_wp2_with fail
        refine Calls.mono cT2.out ?_
        rintro e we ⟨rfl, hb⟩
        have BE := Lib.hid (BB.out.trans hb)
        clear cT2 hb
        dsimp only
        go_wp2_with fail
        go_ret
        exact ⟨rfl, BE.out⟩
      · have q9 : ((ery : Int) != 0) = true := by rw [bne_iff_ne]; omega
        replace he0 := Lib.hid he0
        go_wp2_with fail
        go_ret
        exact ⟨rfl, BB.out⟩
    · have q9 : ((er : Int) == 0) = false := by rw [beq_eq_false_iff_ne]; omega
      replace he0 := Lib.hid he0
      obtain ⟨wc, rfl⟩ : ∃ x, x = w7 := ⟨_, rfl⟩
      have Bc := B7
      clear B7 cT2
      go_upto_region 11 with (fail)
      clear q9 qk
      have QC := Lib.hid (Q2.out.bw Bc.out)
      have BC := Lib.hid (B2.out.trans Bc.out)
      have cU := Lib.hid (repWrite_any rn rc rv a len cap key wc hrn hrc hrv (hKK.out.bw BC.out) (by omega))
      unfold RepWPost at cU
      have z0 := hp_cell (QC.out) 0
      have z1 := hp_cell (QC.out) 1
      have z2 := hp_cell (QC.out) 2
      simp only [List.getElem?_toArray, List.getElem?_cons_zero, List.getElem?_cons_succ] at z0 z1 z2
      go_wp2_with fail
      refine Calls.mono cU.out ?_
      rintro e w8 ⟨hr, hb⟩
      have B8 := Lib.hid (BC.out.trans hb)
      have hb8 := Lib.hid hb
      clear z0 z1 z2
      clear cU hb QC
      rcases hr with ⟨cn, vn, rfl, rfl, h255, h231, u, rfl, O8⟩ | ⟨hno, rfl⟩
      case inr =>
        dsimp only
        go_wp2_with fail
        go_ret
        exact ⟨rfl, B8.out⟩
      generalize repN key rn cn vn = Y at *
      obtain ⟨s8, c8, rfl, hc8, hm8⟩ := O8.len
      unfold maxLen at hm8
      obtain ⟨g8, o8, c8', he, hg8, hlt8, _, _, hcell, hfz⟩ := O8.form (by omega)
      cases he
      obtain ⟨ky, hky⟩ : ∃ ky, an % 24 = ky := ⟨_, rfl⟩
      have hkl8 : ky < 24 := by rw [← hky]; exact Nat.mod_lt _ (by decide)
      have qk8 : ((an : Int)).tmod 24 = (ky : Int) := by rw [show (24 : Int) = ((24 : Nat) : Int) from rfl, tmod_nat, hky]
      have z8 := hcell ky hkl8
      have hy8 := ByL.get O8.sb.2.1 ky
      generalize hyv : Y.getD ky 0 = yv at *
      have qy := u8_xor_nat yv fn hy8 (by omega)
      have hy : yv ^^^ fn < 256 := Nat.xor_lt_two_pow (n := 8) hy8 (by omega)
      generalize hyf : yv ^^^ fn = yf at *
      clear hcell hfz
      replace O8 := Lib.hid O8
      replace hky := Lib.hid hky
      replace hyv := Lib.hid hyv
      replace hyf := Lib.hid hyf
      dsimp only
      go_upto_region 14 with (fail)
      have m8 : ∀ y : LaterS [] w8, _ := fun y => y.bw.cell z8
      refine wp_region_gg [] [] [17] (by kernel_rfl) ?_
      refine hoist [] [] (a1 := ?_) 0 rfl (by kernel_rfl) (.inl ⟨rfl, rfl⟩) rfl rfl rfl (fun x K hK => ?_) ?_
      rotate_left
      · go_big_quiet_op
        exact hK
      refine hoist [] [] (a1 := ?_) 1 rfl (by kernel_rfl) (.inl ⟨rfl, rfl⟩) rfl rfl rfl (fun x K hK => ?_) ?_
      rotate_left
      · go_big_quiet_op
        exact hK
      refine hoist [] [] (a1 := ?_) 2 rfl (by kernel_rfl) (.inl ⟨rfl, rfl⟩) rfl rfl rfl (fun x K hK => ?_) ?_
      rotate_left
      · go_big_quiet_op
        exact hK
      refine hoist [] [] (a1 := ?_) 3 rfl (by kernel_rfl) (.inl ⟨rfl, rfl⟩) rfl rfl rfl (fun x K hK => ?_) ?_
      rotate_left
      · go_big_quiet_op
        exact hK
      refine hoist [] [] (a1 := ?_) 4 rfl (by kernel_rfl) (.inl ⟨rfl, rfl⟩) rfl rfl rfl (fun x K hK => ?_) ?_
      rotate_left
      · go_big_quiet_op
        exact hK
      refine hoist [] [] (a1 := ?_) 5 rfl (by kernel_rfl) (.inl ⟨rfl, rfl⟩) rfl rfl rfl (fun x K hK => ?_) ?_
      rotate_left
      · go_big_quiet_op
        exact hK
      refine hoist [] [] (a1 := ?_) 6 rfl (by kernel_rfl) (.inl ⟨rfl, rfl⟩) rfl rfl rfl (fun x K hK => ?_) ?_
      rotate_left
      · go_big_quiet_op
        exact hK
      refine hoist [] [] (a1 := ?_) 7 rfl (by kernel_rfl) (.inl ⟨rfl, rfl⟩) rfl rfl rfl (fun x K hK => ?_) ?_
      rotate_left
      · go_big_quiet_op
        exact hK
      refine hoist [] [] (a1 := ?_) 8 rfl (by kernel_rfl) (.inl ⟨rfl, rfl⟩) rfl rfl rfl (fun x K hK => ?_) ?_
      rotate_left
      · go_big_quiet_op
        exact hK
      refine hoist [] [] (a1 := ?_) 9 rfl (by kernel_rfl) (.inl ⟨rfl, rfl⟩) rfl rfl rfl (fun x K hK => ?_) ?_
      rotate_left
      · go_big_quiet_op
        exact hK
      refine hoist [] [] (a1 := ?_) 10 rfl (by kernel_rfl) (.inl ⟨rfl, rfl⟩) rfl rfl rfl (fun x K hK => ?_) ?_
      rotate_left
      · go_big_quiet_op
        exact hK
      refine hoist [] [] (a1 := ?_) 11 rfl (by kernel_rfl) (.inl ⟨rfl, rfl⟩) rfl rfl rfl (fun x K hK => ?_) ?_
      rotate_left
      · go_big_quiet_op
        exact hK
      refine hoist [] [] (a1 := ?_) 12 rfl (by kernel_rfl) (.inl ⟨rfl, rfl⟩) rfl rfl rfl (fun x K hK => ?_) ?_
      rotate_left
      · go_big_quiet_op
        exact hK
      refine hoist [] [] (a1 := ?_) 13 rfl (by kernel_rfl) (.inl ⟨rfl, rfl⟩) rfl rfl rfl (fun x K hK => ?_) ?_
      rotate_left
      · go_big_quiet_op
        exact hK
      refine hoist [] [] (a1 := ?_) 14 rfl (by kernel_rfl) (.inl ⟨rfl, rfl⟩) rfl rfl rfl (fun x K hK => ?_) ?_
      rotate_left
      · go_big_quiet_op
        exact hK
      refine hoist [] [] (a1 := ?_) 15 rfl (by kernel_rfl) (.inl ⟨rfl, rfl⟩) rfl rfl rfl (fun x K hK => ?_) ?_
      rotate_left
      · go_big_quiet_op
        exact hK
      refine hoist [] [] (a1 := ?_) 16 rfl (by kernel_rfl) (.inl ⟨rfl, rfl⟩) rfl rfl rfl (fun x K hK => ?_) ?_
      rotate_left
      · go_big_quiet_op
        exact hK
      refine tail 17 rfl (by kernel_rfl) rfl (fun xr => ?_)
      simp only [List.drop_succ_cons, List.drop_zero]
      have O9 := O8.out.bw xr.bw
      have B9 := B8.out.trans xr.bw
      clear m8 z8 qy
      generalize xr.now = w9 at *
      obtain ⟨g9, o9, c9', he, _, _, _, _, hcell, hfz⟩ := O9.form (by omega)
      cases he
      have z9 := hcell ky hkl8
      have f9 := hfz (o8 + ky)
      rw [hyv.out] at z9
      have OA := Lib.hid (O9.set ky hkl8 yf hy)
      have BA := Lib.hid (B9.stP (still_sc w9 g8 (o8 + ky) (.int .u8 (yf : Nat))) (by have := B2.out.size; have := Bc.out.size; simp; omega))
      clear hcell hfz O9 B9 O8 B8
      go_upto_region 15 with (fail)
      clear z9 f9
      generalize w9.setCell ⟨g8, o8 + ky, none⟩ (.int .u8 (yf : Nat)) = wa at *
      generalize Y.set ky yf = Y2 at *
      have hY2l := Lib.hid OA.out.1
      have cX := Lib.hid (repRead_any (some ⟨g8, o8, none⟩) 24 c8 Y2 a len cap key wa OA.out.sb (hKK.out.bw BA.out) (by decide) (by omega))
      unfold RepRdPost at cX
      have hgood := Lib.hid (fun h => rep_good (key := key) (l := Y2) h)
      have cT := fun wz (hb : BW wa wz) => Lib.hid (tgd_any (some ⟨g8, o8, none⟩) 24 c8 Y2 a len cap key wz (OA.out.sb.bw hb) (hKK.out.bw (BA.out.trans hb)) (by decide) (by decide) (by omega))
      generalize repRd key Y2 = RY at *
      obtain ⟨ery, y1, y2, y3⟩ := RY
      dsimp only at cX
      go_wp2_with fail
      refine Calls.mono cX.out ?_
      rintro e wb ⟨rfl, hb⟩
      have BF : Hid (BW wb (wb.alloc (.cells #[.int .u64 (y1 : Nat), .int .i64 (y2 : Nat), .int .i64 (y3 : Nat)] 52))) := (BW.refl _).alloc
      go_upto_region 16 with (fail)
      have cT2 := cT _ (hb.trans BF.out)
      have BB := Lib.hid (BA.out.trans (hb.trans BF.out))
      clear cX cT hb BF
      generalize wb.alloc (.cells #[.int .u64 (y1 : Nat), .int .i64 (y2 : Nat), .int .i64 (y3 : Nat)] 52) = wd at *
      by_cases he0 : ery = 0
      · have q9 : ((ery : Int) != 0) = false := by rw [he0]; rfl
        have hg := (hgood.out he0).2
        rw [show Y2.take (24 - 10) = Y2.take 14 from rfl, show Y2.drop (24 - 10) = Y2.drop 14 from rfl, hg] at cT2
        replace hg := Lib.hid hg
        replace he0 := Lib.hid he0
        go_wp2_with fail
        refine Calls.mono cT2.out ?_
        rintro e we ⟨rfl, hb⟩
        have BE := Lib.hid (BB.out.trans hb)
        clear cT2 hb
        dsimp only
        go_wp2_with fail
        go_ret
        exact ⟨rfl, BE.out⟩
      · have q9 : ((ery : Int) != 0) = true := by rw [bne_iff_ne]; omega
        replace he0 := Lib.hid he0
        go_wp2_with fail
        go_ret
        exact ⟨rfl, BB.out⟩
  · obtain ⟨wc, rfl⟩ : ∃ x, x = w3 := ⟨_, rfl⟩
    have Bc := B3
    clear B3
    dsimp only
    go_upto_region 11 with (fail)
    have QC := Lib.hid (Q2.out.bw Bc.out)
    have BC := Lib.hid (B2.out.trans Bc.out)
    have cU := Lib.hid (repWrite_any rn rc rv a len cap key wc hrn hrc hrv (hKK.out.bw BC.out) (by omega))
    unfold RepWPost at cU
    have z0 := hp_cell (QC.out) 0
    have z1 := hp_cell (QC.out) 1
    have z2 := hp_cell (QC.out) 2
    simp only [List.getElem?_toArray, List.getElem?_cons_zero, List.getElem?_cons_succ] at z0 z1 z2
    go_wp2_with fail
    refine Calls.mono cU.out ?_
    rintro e w8 ⟨hr, hb⟩
    have B8 := Lib.hid (BC.out.trans hb)
    have hb8 := Lib.hid hb
    clear z0 z1 z2
    clear cU hb QC
    rcases hr with ⟨cn, vn, rfl, rfl, h255, h231, u, rfl, O8⟩ | ⟨hno, rfl⟩
    case inr =>
      dsimp only
      go_wp2_with fail
      go_ret
      exact ⟨rfl, B8.out⟩
    generalize repN key rn cn vn = Y at *
    obtain ⟨s8, c8, rfl, hc8, hm8⟩ := O8.len
    unfold maxLen at hm8
    obtain ⟨g8, o8, c8', he, hg8, hlt8, _, _, hcell, hfz⟩ := O8.form (by omega)
    cases he
    obtain ⟨ky, hky⟩ : ∃ ky, an % 24 = ky := ⟨_, rfl⟩
    have hkl8 : ky < 24 := by rw [← hky]; exact Nat.mod_lt _ (by decide)
    have qk8 : ((an : Int)).tmod 24 = (ky : Int) := by rw [show (24 : Int) = ((24 : Nat) : Int) from rfl, tmod_nat, hky]
    have z8 := hcell ky hkl8
    have hy8 := ByL.get O8.sb.2.1 ky
    generalize hyv : Y.getD ky 0 = yv at *
    have qy := u8_xor_nat yv fn hy8 (by omega)
    have hy : yv ^^^ fn < 256 := Nat.xor_lt_two_pow (n := 8) hy8 (by omega)
    generalize hyf : yv ^^^ fn = yf at *
    clear hcell hfz
    replace O8 := Lib.hid O8
    replace hky := Lib.hid hky
    replace hyv := Lib.hid hyv
    replace hyf := Lib.hid hyf
    dsimp only
    go_upto_region 14 with (fail)
    have m8 : ∀ y : LaterS [] w8, _ := fun y => y.bw.cell z8
    refine wp_region_gg [] [] [17] (by kernel_rfl) ?_
    refine hoist [] [] (a1 := ?_) 0 rfl (by kernel_rfl) (.inl ⟨rfl, rfl⟩) rfl rfl rfl (fun x K hK => ?_) ?_
    rotate_left
    · go_big_quiet_op
      exact hK
    refine hoist [] [] (a1 := ?_) 1 rfl (by kernel_rfl) (.inl ⟨rfl, rfl⟩) rfl rfl rfl (fun x K hK => ?_) ?_
    rotate_left
    · go_big_quiet_op
      exact hK
    refine hoist [] [] (a1 := ?_) 2 rfl (by kernel_rfl) (.inl ⟨rfl, rfl⟩) rfl rfl rfl (fun x K hK => ?_) ?_
    rotate_left
    · go_big_quiet_op
      exact hK
    refine hoist [] [] (a1 := ?_) 3 rfl (by kernel_rfl) (.inl ⟨rfl, rfl⟩) rfl rfl rfl (fun x K hK => ?_) ?_
    rotate_left
    · go_big_quiet_op
      exact hK
    refine hoist [] [] (a1 := ?_) 4 rfl (by kernel_rfl) (.inl ⟨rfl, rfl⟩) rfl rfl rfl (fun x K hK => ?_) ?_
    rotate_left
    · go_big_quiet_op
      exact hK
    refine hoist [] [] (a1 := ?_) 5 rfl (by kernel_rfl) (.inl ⟨rfl, rfl⟩) rfl rfl rfl (fun x K hK => ?_) ?_
    rotate_left
    · go_big_quiet_op
      exact hK
    refine hoist [] [] (a1 := ?_) 6 rfl (by kernel_rfl) (.inl ⟨rfl, rfl⟩) rfl rfl rfl (fun x K hK => ?_) ?_
    rotate_left
    · go_big_quiet_op
      exact hK
    refine hoist [] [] (a1 := ?_) 7 rfl (by kernel_rfl) (.inl ⟨rfl, rfl⟩) rfl rfl rfl (fun x K hK => ?_) ?_
    rotate_left
    · go_big_quiet_op
      exact hK
    refine hoist [] [] (a1 := ?_) 8 rfl (by kernel_rfl) (.inl ⟨rfl, rfl⟩) rfl rfl rfl (fun x K hK => ?_) ?_
    rotate_left
    · go_big_quiet_op
      exact hK
    refine hoist [] [] (a1 := ?_) 9 rfl (by kernel_rfl) (.inl ⟨rfl, rfl⟩) rfl rfl rfl (fun x K hK => ?_) ?_
    rotate_left
    · go_big_quiet_op
      exact hK
    refine hoist [] [] (a1 := ?_) 10 rfl (by kernel_rfl) (.inl ⟨rfl, rfl⟩) rfl rfl rfl (fun x K hK => ?_) ?_
    rotate_left
    · go_big_quiet_op
      exact hK
    refine hoist [] [] (a1 := ?_) 11 rfl (by kernel_rfl) (.inl ⟨rfl, rfl⟩) rfl rfl rfl (fun x K hK => ?_) ?_
    rotate_left
    · go_big_quiet_op
      exact hK
    refine hoist [] [] (a1 := ?_) 12 rfl (by kernel_rfl) (.inl ⟨rfl, rfl⟩) rfl rfl rfl (fun x K hK => ?_) ?_
    rotate_left
    · go_big_quiet_op
      exact hK
    refine hoist [] [] (a1 := ?_) 13 rfl (by kernel_rfl) (.inl ⟨rfl, rfl⟩) rfl rfl rfl (fun x K hK => ?_) ?_
    rotate_left
    · go_big_quiet_op
      exact hK
    refine hoist [] [] (a1 := ?_) 14 rfl (by kernel_rfl) (.inl ⟨rfl, rfl⟩) rfl rfl rfl (fun x K hK => ?_) ?_
    rotate_left
    · go_big_quiet_op
      exact hK
    refine hoist [] [] (a1 := ?_) 15 rfl (by kernel_rfl) (.inl ⟨rfl, rfl⟩) rfl rfl rfl (fun x K hK => ?_) ?_
    rotate_left
    · go_big_quiet_op
      exact hK
    refine hoist [] [] (a1 := ?_) 16 rfl (by kernel_rfl) (.inl ⟨rfl, rfl⟩) rfl rfl rfl (fun x K hK => ?_) ?_
    rotate_left
    · go_big_quiet_op
      exact hK
    refine tail 17 rfl (by kernel_rfl) rfl (fun xr => ?_)
    simp only [List.drop_succ_cons, List.drop_zero]
    have O9 := O8.out.bw xr.bw
    have B9 := B8.out.trans xr.bw
    clear m8 z8 qy
    generalize xr.now = w9 at *
    obtain ⟨g9, o9, c9', he, _, _, _, _, hcell, hfz⟩ := O9.form (by omega)
    cases he
    have z9 := hcell ky hkl8
    have f9 := hfz (o8 + ky)
    rw [hyv.out] at z9
    have OA := Lib.hid (O9.set ky hkl8 yf hy)
    have BA := Lib.hid (B9.stP (still_sc w9 g8 (o8 + ky) (.int .u8 (yf : Nat))) (by have := B2.out.size; have := Bc.out.size; simp; omega))
    clear hcell hfz O9 B9 O8 B8
    go_upto_region 15 with (fail)
    clear z9 f9
    generalize w9.setCell ⟨g8, o8 + ky, none⟩ (.int .u8 (yf : Nat)) = wa at *
    generalize Y.set ky yf = Y2 at *
    have hY2l := Lib.hid OA.out.1
    have cX := Lib.hid (repRead_any (some ⟨g8, o8, none⟩) 24 c8 Y2 a len cap key wa OA.out.sb (hKK.out.bw BA.out) (by decide) (by omega))
    unfold RepRdPost at cX
    have hgood := Lib.hid (fun h => rep_good (key := key) (l := Y2) h)
    have cT := fun wz (hb : BW wa wz) => Lib.hid (tgd_any (some ⟨g8, o8, none⟩) 24 c8 Y2 a len cap key wz (OA.out.sb.bw hb) (hKK.out.bw (BA.out.trans hb)) (by decide) (by decide) (by omega))
    generalize repRd key Y2 = RY at *
    obtain ⟨ery, y1, y2, y3⟩ := RY
    dsimp only at cX
    go_wp2_with fail
    refine Calls.mono cX.out ?_
    rintro e wb ⟨rfl, hb⟩
    have BF : Hid (BW wb (wb.alloc (.cells #[.int .u64 (y1 : Nat), .int .i64 (y2 : Nat), .int .i64 (y3 : Nat)] 52))) := (BW.refl _).alloc
    go_upto_region 16 with (fail)
    have cT2 := cT _ (hb.trans BF.out)
    have BB := Lib.hid (BA.out.trans (hb.trans BF.out))
    clear cX cT hb BF
    generalize wb.alloc (.cells #[.int .u64 (y1 : Nat), .int .i64 (y2 : Nat), .int .i64 (y3 : Nat)] 52) = wd at *
    by_cases he0 : ery = 0
    · have q9 : ((ery : Int) != 0) = false := by rw [he0]; rfl
      have hg := (hgood.out he0).2
      rw [show Y2.take (24 - 10) = Y2.take 14 from rfl, show Y2.drop (24 - 10) = Y2.drop 14 from rfl, hg] at cT2
      replace hg := Lib.hid hg
      replace he0 := Lib.hid he0
      go_wp2_with fail
      refine Calls.mono cT2.out ?_
      rintro e we ⟨rfl, hb⟩
      have BE := Lib.hid (BB.out.trans hb)
      clear cT2 hb
      dsimp only
      go_wp2_with fail
      go_ret
      exact ⟨rfl, BE.out⟩
    · have q9 : ((ery : Int) != 0) = true := by rw [bne_iff_ne]; omega
      replace he0 := Lib.hid he0
      go_wp2_with fail
      go_ret
      exact ⟨rfl, BB.out⟩
end Go.Proofs.Ytcempndfbckcaaa
