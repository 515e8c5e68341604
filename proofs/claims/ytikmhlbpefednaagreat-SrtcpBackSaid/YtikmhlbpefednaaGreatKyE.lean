/- The reference's Keys. No condition. -/
import Derived.Test.YtikmhlbpefednaaGreatGKy
namespace Go.Proofs.YtikmhlbpefednaaGreat
open Go.RowKit
set_option maxRecDepth 100000 in
set_option maxHeartbeats 8000000 in
theorem rkeys_ok (key salt : List Nat) (f : Nat) (hf : f ≤ 200) (hk : key.length = 16) (hkb : ByL key) (hs : salt.length = 14) (hsb : ByL salt) (w : World) :
  Calls Tryz.prog 28 #[.agg (ivA .u8 (key ++ salt)), .int .u8 (f : Nat)] w fun e w' => e = .returned (.agg (ivA .u8 (keysN key salt f))) ∧ Below w.heap.size w w' := by
 have ca := fun wz => Lib.hid (rderive_ok key salt f 16 (by decide) (by decide) (by omega) hk hkb hs hsb wz)
 have cb := fun wz => Lib.hid (rderive_ok key salt (f + 1) 20 (by decide) (by decide) (by omega) hk hkb hs hsb wz)
 have cc := fun wz => Lib.hid (rderive_ok key salt (f + 2) 14 (by decide) (by decide) (by omega) hk hkb hs hsb wz)
 rw [show (16 : Int).toNat = 16 from rfl] at ca
 rw [show (20 : Int).toNat = 20 from rfl, show ((f + 1 : Nat) : Int) = (f : Int) + 1 from rfl] at cb
 rw [show (14 : Int).toNat = 14 from rfl, show ((f + 2 : Nat) : Int) = (f : Int) + 2 from rfl] at cc
 have hl := Lib.hid (keysN_len key salt f)
 have da := Lib.hid (drv_len key salt f 16)
 have db := Lib.hid (drv_len key salt (f + 1) 20)
 have dc := Lib.hid (drv_len key salt (f + 2) 14)
 have hall : Hid (k3 (drv key salt f 16) (drv key salt (f + 1) 20) (drv key salt (f + 2) 14) 20 20 20 = keysN key salt f) := k3_all _ _ _ da.out db.out dc.out
 have hKl : Hid ((key ++ salt).length = 30) := by simp [Hid, hk, hs]
 generalize keysN key salt f = R at *
 generalize drv key salt f 16 = a at *
 generalize drv key salt (f + 1) 20 = b at *
 generalize drv key salt (f + 2) 14 = c at *
 generalize key ++ salt = K at *
 have u1 : (f : Int) + 1 ≤ 255 := by omega
 have u2 : (f : Int) + 2 ≤ 255 := by omega
 replace hk := Lib.hid hk
 replace hkb := Lib.hid hkb
 replace hs := Lib.hid hs
 replace hsb := Lib.hid hsb
 have B := Lib.hid (BW.refl w)
 go_enter Tryz.func28, Tryz.ntmps28
 go_upto_region 2 with (refine alA ar50 rfl rfl ?_)
 have M0 := Lib.hid ((AvB.new w 25 K).bw (show BW (w.alloc (.cells (ivA .u8 K) 25)) ((w.alloc (.cells (ivA .u8 K) 25)).alloc (.cells (ivA .u8 (zeros 50)) 49)) from (by repeat (first | exact BW.refl _ | apply BW.alloc | apply BW.drewN | apply BW.drew))))
 have R0 := Lib.hid ((AvB.new (w.alloc (.cells (ivA .u8 K) 25)) 49 (zeros 50)).bw (show BW ((w.alloc (.cells (ivA .u8 K) 25)).alloc (.cells (ivA .u8 (zeros 50)) 49)) ((w.alloc (.cells (ivA .u8 K) 25)).alloc (.cells (ivA .u8 (zeros 50)) 49)) from (by repeat (first | exact BW.refl _ | apply BW.alloc | apply BW.drewN | apply BW.drew))))
 simp only [World.size_alloc] at R0
 generalize hnm : ((w.alloc (.cells (ivA .u8 K) 25)).alloc (.cells (ivA .u8 (zeros 50)) 49)) = w1 at *
 have hb : BW w w1 := (by subst hnm; exact (by repeat (first | exact BW.refl _ | apply BW.alloc | apply BW.drewN | apply BW.drew)))
 replace B := Lib.hid (B.out.trans hb)
 clear hb
 clear hnm
 try simp only [World.size_alloc]
 have hp := R0.out.lt
 have C0 := Lib.hid ((AvB.new w1 49 (zeros 50)).bw (show BW (w1.alloc (.cells (ivA .u8 (zeros 50)) 49)) (w1.alloc (.cells (ivA .u8 (zeros 50)) 49)) from (by repeat (first | exact BW.refl _ | apply BW.alloc | apply BW.drewN | apply BW.drew))))
 generalize hnm : (w1.alloc (.cells (ivA .u8 (zeros 50)) 49)) = w2 at *
 have hb : BW w1 w2 := (by subst hnm; exact (by repeat (first | exact BW.refl _ | apply BW.alloc | apply BW.drewN | apply BW.drew)))
 replace B := Lib.hid (B.out.trans hb)
 replace R0 := Lib.hid (R0.out.bw hb)
 replace M0 := Lib.hid (M0.out.bw hb)
 clear hb
 clear hnm
 try simp only [World.size_alloc]
 have lC := C0.out.lt
 try simp only [Act.put, List.setIfInBounds_toArray, List.set_cons_succ, List.set_cons_zero]
 refine wp_region_gg [] [] [] (by kernel_rfl) ?_
 refine hoist [] [] (a1 := ?_) 0 rfl (by kernel_rfl) (.inl ⟨rfl, rfl⟩) rfl rfl rfl (fun x K hK => ?_) ?_
 rotate_left
 ·refine qlA ar30 rfl (by rfl) hKl.out (fun w' hw => by subst hw; exact M0.out.bw x.bw) (by simp only [Act.put, List.setIfInBounds_toArray, List.set_cons_succ, List.set_cons_zero]; rfl) ?_
  exact hK
 refine hoist [] [] (a1 := ?_) 1 rfl (by kernel_rfl) (.inl ⟨rfl, rfl⟩) rfl rfl rfl (fun x K hK => ?_) ?_
 rotate_left
 ·go_big_quiet_op
  exact hK
 refine hoist [] [] (a1 := ?_) 3 rfl (by kernel_rfl) (.inl ⟨rfl, rfl⟩) rfl rfl rfl (fun x K hK => ?_) ?_
 rotate_left
 ·refine qlA ar30 rfl (by rfl) hKl.out (fun w' hw => by subst hw; exact M0.out.bw x.bw) (by simp only [Act.put, List.setIfInBounds_toArray, List.set_cons_succ, List.set_cons_zero]; rfl) ?_
  exact hK
 refine hoist [] [] (a1 := ?_) 4 rfl (by kernel_rfl) (.inl ⟨rfl, rfl⟩) rfl rfl rfl (fun x K hK => ?_) ?_
 rotate_left
 ·go_big_quiet_op
  exact hK
 refine hoist [] [] (a1 := ?_) 5 rfl (by kernel_rfl) (.inl ⟨rfl, rfl⟩) rfl rfl rfl (fun x K hK => ?_) ?_
 rotate_left
 ·go_big_quiet_op
  exact hK
 refine hoist [] [] (a1 := ?_) 7 rfl (by kernel_rfl) (.inl ⟨rfl, rfl⟩) rfl rfl rfl (fun x K hK => ?_) ?_
 rotate_left
 ·refine qlA ar30 rfl (by rfl) hKl.out (fun w' hw => by subst hw; exact M0.out.bw x.bw) (by simp only [Act.put, List.setIfInBounds_toArray, List.set_cons_succ, List.set_cons_zero]; rfl) ?_
  exact hK
 refine hoist [] [] (a1 := ?_) 8 rfl (by kernel_rfl) (.inl ⟨rfl, rfl⟩) rfl rfl rfl (fun x K hK => ?_) ?_
 rotate_left
 ·go_big_quiet_op
  exact hK
 refine hoist [] [] (a1 := ?_) 9 rfl (by kernel_rfl) (.inl ⟨rfl, rfl⟩) rfl rfl rfl (fun x K hK => ?_) ?_
 rotate_left
 ·go_big_quiet_op
  exact hK
 refine effect 2 rfl (by kernel_rfl) (by kernel_rfl) rfl (fun x2 K hK => ?_)
 go_simp
 refine Calls.mono (ca x2.now).out ?_
 rintro e w3 ⟨v3, rfl, O3, hb⟩
 obtain ⟨s3, p3, rfl, _, _⟩ := O3.len
 refine hK _ _ (Still.of_below hb) ?_
 clear hK K ca
 have o3 := fun j hj => BW.ge x2.bw ((O3.ge' j hj))
 have hb : BW w2 w3 := (x2.bw.call hb)
 replace B := Lib.hid (B.out.trans hb)
 replace R0 := Lib.hid (R0.out.bw hb)
 replace M0 := Lib.hid (M0.out.bw hb)
 replace C0 := Lib.hid (C0.out.bw hb)
 clear hb
 replace O3 := Lib.hid O3
 replace o3 := Lib.hid o3
 try simp only [Act.put, List.setIfInBounds_toArray, List.set_cons_succ, List.set_cons_zero]
 refine effect 6 rfl (by kernel_rfl) (by kernel_rfl) rfl (fun x6 K hK => ?_)
 go_simp
 refine Calls.mono (cb x6.now).out ?_
 rintro e w4 ⟨v4, rfl, O4, hb⟩
 obtain ⟨s4, p4, rfl, _, _⟩ := O4.len
 refine hK _ _ (Still.of_below hb) ?_
 clear hK K cb
 have o4 := fun j hj => BW.ge x6.bw ((O4.ge' j hj))
 have hb : BW w3 w4 := (x6.bw.call hb)
 replace B := Lib.hid (B.out.trans hb)
 replace R0 := Lib.hid (R0.out.bw hb)
 replace M0 := Lib.hid (M0.out.bw hb)
 replace C0 := Lib.hid (C0.out.bw hb)
 replace O3 := Lib.hid (O3.out.bw hb)
 clear hb
 replace O4 := Lib.hid O4
 replace o4 := Lib.hid o4
 try simp only [Act.put, List.setIfInBounds_toArray, List.set_cons_succ, List.set_cons_zero]
 refine effect 10 rfl (by kernel_rfl) (by kernel_rfl) rfl (fun x10 K hK => ?_)
 go_simp
 refine Calls.mono (cc x10.now).out ?_
 rintro e w5 ⟨v5, rfl, O5, hb⟩
 obtain ⟨s5, p5, rfl, _, _⟩ := O5.len
 refine hK _ _ (Still.of_below hb) ?_
 clear hK K cc
 have o5 := fun j hj => BW.ge x10.bw ((O5.ge' j hj))
 have hb : BW w4 w5 := (x10.bw.call hb)
 replace B := Lib.hid (B.out.trans hb)
 replace R0 := Lib.hid (R0.out.bw hb)
 replace M0 := Lib.hid (M0.out.bw hb)
 replace C0 := Lib.hid (C0.out.bw hb)
 replace O3 := Lib.hid (O3.out.bw hb)
 replace O4 := Lib.hid (O4.out.bw hb)
 clear hb
 replace O5 := Lib.hid O5
 replace o5 := Lib.hid o5
 try simp only [Act.put, List.setIfInBounds_toArray, List.set_cons_succ, List.set_cons_zero]
 refine hoist [] [] (a1 := ?_) 11 rfl (by kernel_rfl) (.inl ⟨rfl, rfl⟩) rfl rfl rfl (fun x K hK => ?_) ?_
 rotate_left
 ·go_big_quiet_op
  exact hK
 refine hoist [] [] (a1 := ?_) 12 rfl (by kernel_rfl) (.inl ⟨rfl, rfl⟩) rfl rfl rfl (fun x K hK => ?_) ?_
 rotate_left
 ·go_big_quiet_op
  exact hK
 refine hoist [] [] (a1 := ?_) 13 rfl (by kernel_rfl) (.inl ⟨rfl, rfl⟩) rfl rfl rfl (fun x K hK => ?_) ?_
 rotate_left
 ·go_big_quiet_op
  exact hK
 refine done (by kernel_rfl) (fun xr => ?_)
 have hb : BW w5 xr.now := xr.bw
 replace B := Lib.hid (B.out.trans hb)
 replace R0 := Lib.hid (R0.out.bw hb)
 replace M0 := Lib.hid (M0.out.bw hb)
 replace C0 := Lib.hid (C0.out.bw hb)
 replace O3 := Lib.hid (O3.out.bw hb)
 replace O4 := Lib.hid (O4.out.bw hb)
 replace O5 := Lib.hid (O5.out.bw hb)
 clear hb
 generalize xr.now = w6 at *
 clear xr
 have gen1 : ∀ {l : List Nat} {s : Option Addr} {n cap bs : Nat}, OB w6 bs 5 (.slice s n cap) n l → 0 < n → ∃ g o, s = some ⟨g, o, none⟩ ∧ g ≠ w1.heap.size ∧ Hid (∀ i, i < n → w6.cell? ⟨g, o + i, none⟩ = some (.int .u8 (l.getD i 0 : Nat))) := by
  intro l s n cap bs h h0
  obtain ⟨g, o, cap', he, _, _, _, _, hcell, _⟩ := h.form h0
  cases he
  have := h.2.2.ne C0.out (by decide) g rfl
  exact ⟨g, o, rfl, this, hcell⟩
 obtain ⟨ga, oa, rfl, na, ha⟩ := gen1 O3.out (by decide)
 obtain ⟨gb, ob, rfl, nb, hb⟩ := gen1 O4.out (by decide)
 obtain ⟨gc, oc, rfl, nc, hc⟩ := gen1 O5.out (by decide)
 have stp : ∀ wx, Hid (Still [w1.heap.size] w6 wx → BW w wx) := fun wx h => B.out.step (h.below (B := w.heap.size) B.out.size (by simp; omega)) (Nat.le_refl _)
 have sR : ∀ wx, Hid (Still [w1.heap.size] w6 wx → AvB wx (w.heap.size + 1) 49 (zeros 50)) := fun wx h => R0.out.still h (by simp; omega)
 clear gen1 O3 O4 O5 o3 o4 o5 R0 M0 B
 generalize w1.heap.size = p at *
 rw [← k3_zero a b c] at C0
 go_wp2_with fail
 go_loopg [9] 20 (fun m' v wx => ∃ i : Nat, m' = 20 - i ∧ i ≤ 20 ∧ v = .int .i64 (i : Nat) ∧ Hid (AvB wx p 49 (k3 a b c i i i)) ∧ Hid (Still [p] w6 wx))
 case atStart => exact ⟨0, by omega, by omega, rfl, C0, Still.refl _ _⟩
 case round =>
  clear C0
  obtain ⟨i, rfl, hi, rfl, A, T⟩ := hrel
  by_cases h20 : i < 20
  ·by_cases h16 : i < 16
   ·by_cases h14 : i < 14
    ·have c1 := T.out.cellN (ha.out i (by omega)) (by simpa using na)
     have c2 := A.out.cell (i) (by rw [k3_len]; omega)
     have f2 := A.out.frz (i)
     have A7 := Lib.hid (A.out.set (i) (a.getD i 0))
     rw [k3_a a b c i i i (by omega)] at A7
     have T7 := Lib.hid (T.out.trans (still_setC wr p (i) (.int .u8 (a.getD i 0 : Nat))))
     generalize a.getD i 0 = y at *
     clear A T
     go_upto_region 8 with (fail)
     generalize wr.setCell ⟨p, i, none⟩ (.int .u8 (y : Nat)) = w7 at *
     clear c1 c2 f2
     have c1 := T7.out.cellN (hc.out i (by omega)) (by simpa using nc)
     have c2 := A7.out.cell (36 + i) (by rw [k3_len]; omega)
     have f2 := A7.out.frz (36 + i)
     have A8 := Lib.hid (A7.out.set (36 + i) (c.getD i 0))
     rw [k3_c a b c (i + 1) i i (by omega)] at A8
     have T8 := Lib.hid (T7.out.trans (still_setC w7 p (36 + i) (.int .u8 (c.getD i 0 : Nat))))
     generalize c.getD i 0 = y at *
     clear A7 T7
     go_upto_region 10 with (fail)
     generalize w7.setCell ⟨p, 36 + i, none⟩ (.int .u8 (y : Nat)) = w8 at *
     clear c1 c2 f2
     have c1 := T8.out.cellN (hb.out i (by omega)) (by simpa using nb)
     have c2 := A8.out.cell (16 + i) (by rw [k3_len]; omega)
     have f2 := A8.out.frz (16 + i)
     have A9 := Lib.hid (A8.out.set (16 + i) (b.getD i 0))
     rw [k3_b a b c (i + 1) i (i + 1) (by omega)] at A9
     have T9 := Lib.hid (T8.out.trans (still_setC w8 p (16 + i) (.int .u8 (b.getD i 0 : Nat))))
     generalize b.getD i 0 = y at *
     clear A8 T8
     go_wp2_with fail
     go_roundg (20 - (i + 1))
     case measure => omega
     case rel => exact ⟨i + 1, rfl, by omega, by go_num, A9, T9⟩
    ·have c1 := T.out.cellN (ha.out i (by omega)) (by simpa using na)
     have c2 := A.out.cell (i) (by rw [k3_len]; omega)
     have f2 := A.out.frz (i)
     have A7 := Lib.hid (A.out.set (i) (a.getD i 0))
     rw [k3_a a b c i i i (by omega)] at A7
     have T7 := Lib.hid (T.out.trans (still_setC wr p (i) (.int .u8 (a.getD i 0 : Nat))))
     generalize a.getD i 0 = y at *
     clear A T
     go_upto_region 8 with (fail)
     generalize wr.setCell ⟨p, i, none⟩ (.int .u8 (y : Nat)) = w7 at *
     clear c1 c2 f2
     go_upto_region 10 with (fail)
     have c1 := T7.out.cellN (hb.out i (by omega)) (by simpa using nb)
     have c2 := A7.out.cell (16 + i) (by rw [k3_len]; omega)
     have f2 := A7.out.frz (16 + i)
     have A9 := Lib.hid (A7.out.set (16 + i) (b.getD i 0))
     rw [k3_b a b c (i + 1) i i (by omega)] at A9
     have T9 := Lib.hid (T7.out.trans (still_setC w7 p (16 + i) (.int .u8 (b.getD i 0 : Nat))))
     generalize b.getD i 0 = y at *
     clear A7 T7
     rw [k3_moreC a b c (i + 1) (i + 1) i (i + 1) (by omega) (by omega)] at A9
     go_wp2_with fail
     go_roundg (20 - (i + 1))
     case measure => omega
     case rel => exact ⟨i + 1, rfl, by omega, by go_num, A9, T9⟩
   ·have c1 := T.out.cellN (hb.out i (by omega)) (by simpa using nb)
    have c2 := A.out.cell (16 + i) (by rw [k3_len]; omega)
    have f2 := A.out.frz (16 + i)
    have A9 := Lib.hid (A.out.set (16 + i) (b.getD i 0))
    rw [k3_b a b c i i i (by omega)] at A9
    have T9 := Lib.hid (T.out.trans (still_setC wr p (16 + i) (.int .u8 (b.getD i 0 : Nat))))
    generalize b.getD i 0 = y at *
    clear A T
    rw [k3_more a b c i (i + 1) i (i + 1) (i + 1) (by omega) (by omega) (by omega) (by omega)] at A9
    go_wp2_with fail
    go_roundg (20 - (i + 1))
    case measure => omega
    case rel => exact ⟨i + 1, rfl, by omega, by go_num, A9, T9⟩
  ·obtain rfl : i = 20 := by omega
   rw [hall.out] at A
   have R5 := (sR wr).out T.out
   have H6 := Lib.hid (R5.row R)
   have B5 := (stp wr).out T.out
   go_wp2_with (first | (refine ldA ar50 rfl rfl rfl A.out hl.out ?_) | (refine stR ar50 rfl rfl rfl rfl R5 (zeros_len _) hl.out ?_))
   exact bodyPost_ret (results_cell_row (p := 4) rfl _ _ _ _ _ _ _ rfl H6.out Tryz.underlying49 rfl (by rw [ar50.hi, ivA_size, hl.out])) rfl ⟨rfl, B5.row (by omega) _⟩
end Go.Proofs.YtikmhlbpefednaaGreat
