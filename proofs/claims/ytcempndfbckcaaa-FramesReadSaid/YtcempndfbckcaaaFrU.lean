/- The law FramesRead. No condition. -/
import Derived.Test.YtcempndfbckcaaaFrT
namespace Go.Proofs.Ytcempndfbckcaaa
open Go.RowKit

set_option maxRecDepth 100000 in
set_option maxHeartbeats 8000000 in
theorem law_frread (a : Option Addr) (len cap : Nat) (a2 : Option Addr) (len2 cap2 : Nat) (w : World) (h : Rd w (.loop (.label 4)) [.slice a len cap]) (hk : Rd w (.loop (.label 4)) [.slice a2 len2 cap2]) :
    Calls Try.prog 6 #[.slice a len cap, .slice a2 len2 cap2] w fun e w' => e = .returned (.bool true) ∧ Below w.heap.size w w' := by
  obtain ⟨l, hV, hc, hm⟩ := key_rd h
  obtain ⟨key, hK, hkc, hkm⟩ := key_rd hk
  clear h hk
  have ha := Lib.hid (fr_alive w)
  have cR := fun wz (hb : BW w wz) hn hnk => Lib.hid (frRead_any a len cap l a2 len2 cap2 key wz (hV.bw hb) (hK.bw hb) hn hnk)
  have cF := fun wz (hb : BW w wz) hn hnk => Lib.hid (frRRead_any a len cap l a2 len2 cap2 key wz (hV.bw hb) (hK.bw hb) hn hnk)
  unfold FrRdPost at cR cF
  have cT := fun wz (hb : BW w wz) => Lib.hid (seat_any (.slice a len cap) len l wz (hV.bw hb))
  have hst : seatN l = if len < 25 then (0, false) else if kindB (l.getD 0 0) = true then (l.getD 1 0, true) else (0, false) := by rw [← hV.1]; rfl
  generalize seatN l = S at *
  generalize rdF key l = R at *
  have hVV := Lib.hid hV
  have hby := Lib.hid hV.2.1
  clear hV hK
  obtain ⟨er, d⟩ := R
  replace hst := Lib.hid hst
  go_enter Try.func6, Try.ntmps6
  go_wp2_with fail
  refine Calls.mono ha.out ?_
  rintro e w1 ⟨rfl, B1⟩
  replace B1 := Lib.hid B1
  clear ha
  by_cases h1 : 600 < len
  · have d1 : decide ((600 : Int) < (len : Int)) = true := by simp; omega
    go_wp2_with fail
    go_ret
    exact ⟨rfl, B1.out⟩
  have d1 : decide ((600 : Int) < (len : Int)) = false := by simp; omega
  by_cases h2 : 200 < len2
  · have d2 : decide ((200 : Int) < (len2 : Int)) = true := by simp; omega
    go_wp2_with fail
    go_ret
    exact ⟨rfl, B1.out⟩
  have d2 : decide ((200 : Int) < (len2 : Int)) = false := by simp; omega
  have cR1 := cR w1 B1.out (by omega) (by omega)
  clear cR
  go_wp2_with fail
  refine Calls.mono cR1.out ?_
  rintro e w2 ⟨c, rfl, V2, hb⟩
  obtain ⟨s2, c2, rfl, -, -, -⟩ := V2.open
  have B2 := Lib.hid (B1.out.trans hb)
  have VV2 := Lib.hid V2
  clear cR1 hb B1 V2
  obtain ⟨k, s, nc, r, t, o, ly, L⟩ := d
  simp only [frC] at VV2 ⊢
  generalize hLn : L.length = n at *
  have BF : Hid (BW w2 (w2.alloc (.cells #[.int .i64 k, .int .i64 s, .int .u64 (nc : Nat), .int .i64 r, .int .i64 t, .int .i64 o, .int .i64 ly, .slice s2 n c2] 35))) := (BW.refl _).alloc
  have P3 := Lib.hid (HpB.new w2 (.cells #[.int .i64 k, .int .i64 s, .int .u64 (nc : Nat), .int .i64 r, .int .i64 t, .int .i64 o, .int .i64 ly, .slice s2 n c2] 35))
  replace hLn := Lib.hid hLn
  go_upto_region 6 with (fail)
  generalize w2.alloc (.cells #[.int .i64 k, .int .i64 s, .int .u64 (nc : Nat), .int .i64 r, .int .i64 t, .int .i64 o, .int .i64 ly, .slice s2 n c2] 35) = w3 at *
  generalize w2.heap.size = g2 at *
  have B3 := Lib.hid (B2.out.trans BF.out)
  have VV3 := Lib.hid (VV2.out.bw BF.out)
  clear VV2 B2 BF
  have cF3 := cF w3 B3.out (by omega) (by omega)
  clear cF
  go_wp2_with fail
  refine Calls.mono cF3.out ?_
  rintro e w4 ⟨c, rfl, V4, hb⟩
  obtain ⟨s4, c4, rfl, -, -, -⟩ := V4.open
  have B4 := Lib.hid (B3.out.trans hb)
  have P4 := Lib.hid (P3.out.bw hb)
  have VV4 := Lib.hid (VV3.out.bw hb)
  have V44 := Lib.hid V4
  clear cF3 hb B3 P3 VV3 V4
  simp only [frC, hLn.out] at V44 ⊢
  have BF : Hid (BW w4 (w4.alloc (.cells #[.int .i64 k, .int .i64 s, .int .u64 (nc : Nat), .int .i64 r, .int .i64 t, .int .i64 o, .int .i64 ly, .slice s4 n c4] 35))) := (BW.refl _).alloc
  have F5 := Lib.hid (HpB.new w4 (.cells #[.int .i64 k, .int .i64 s, .int .u64 (nc : Nat), .int .i64 r, .int .i64 t, .int .i64 o, .int .i64 ly, .slice s4 n c4] 35))
  go_upto_region 7 with (fail)
  generalize w4.alloc (.cells #[.int .i64 k, .int .i64 s, .int .u64 (nc : Nat), .int .i64 r, .int .i64 t, .int .i64 o, .int .i64 ly, .slice s4 n c4] 35) = w5 at *
  generalize w4.heap.size = g4 at *
  have B5 := Lib.hid (B4.out.trans BF.out)
  have P5 := Lib.hid (P4.out.bw BF.out)
  have cS5 := Lib.hid (frSame_true _ _ _ w5 (VV4.out.bw BF.out) (V44.out.bw BF.out))
  clear VV4 V44 B4 P4 BF
  have cT5 := cT w5 B5.out
  clear cT
  go_wp2_with fail
  refine Calls.mono cT5.out ?_
  rintro e w6 ⟨rfl, rfl⟩
  clear cT5
  have hst2 := hst.out
  by_cases h25 : len < 25
  · rw [if_pos h25] at hst2
    have d3 : decide ((25 : Int) ≤ (len : Int)) = false := by simp; omega
    subst hst2
    dsimp only
    have z0 := hp_cell (P5.out) 0
    have z1 := hp_cell (P5.out) 1
    have z2 := hp_cell (P5.out) 2
    have z3 := hp_cell (P5.out) 3
    have z4 := hp_cell (P5.out) 4
    have z5 := hp_cell (P5.out) 5
    have z6 := hp_cell (P5.out) 6
    have z7 := hp_cell (P5.out) 7
    simp only [List.getElem?_toArray, List.getElem?_cons_zero, List.getElem?_cons_succ] at z0 z1 z2 z3 z4 z5 z6 z7
    have y0 := hp_cell (F5.out) 0
    have y1 := hp_cell (F5.out) 1
    have y2 := hp_cell (F5.out) 2
    have y3 := hp_cell (F5.out) 3
    have y4 := hp_cell (F5.out) 4
    have y5 := hp_cell (F5.out) 5
    have y6 := hp_cell (F5.out) 6
    have y7 := hp_cell (F5.out) 7
    simp only [List.getElem?_toArray, List.getElem?_cons_zero, List.getElem?_cons_succ] at y0 y1 y2 y3 y4 y5 y6 y7
    go_wp2_with fail
    refine Calls.mono cS5.out ?_
    rintro e w8 ⟨rfl, hb⟩
    have B8 := Lib.hid (B5.out.trans hb)
    clear z0 z1 z2 z3 z4 z5 z6 z7 y0 y1 y2 y3 y4 y5 y6 y7
    clear cS5 hb P5 F5
    dsimp only
    go_wp2_with fail
    go_ret
    exact ⟨rfl, B8.out⟩
  have d3 : decide ((25 : Int) ≤ (len : Int)) = true := by simp; omega
  rw [if_neg h25] at hst2
  obtain ⟨b, o', cap', he, _, _, _, hcell⟩ := (hVV.out.bw B5.out).form (by omega)
  cases he
  have x0 := hcell 0 (by omega)
  have x1 := hcell 1 (by omega)
  rw [Nat.add_zero] at x0
  have l0 := ByL.get hby.out 0
  have l1 := ByL.get hby.out 1
  clear hcell hst
  generalize l.getD 0 0 = b0 at *
  generalize l.getD 1 0 = b1 at *
  by_cases ha1 : 1 ≤ b0
  case neg =>
    have hkb : kindB b0 = false := by unfold kindB; rw [decide_eq_false ha1]; rfl
    rw [hkb, if_neg (by decide)] at hst2
    have d4 : decide ((1 : Int) ≤ (b0 : Int)) = false := by simp; omega
    subst hst2
    replace hkb := Lib.hid hkb
    dsimp only
    have z0 := hp_cell (P5.out) 0
    have z1 := hp_cell (P5.out) 1
    have z2 := hp_cell (P5.out) 2
    have z3 := hp_cell (P5.out) 3
    have z4 := hp_cell (P5.out) 4
    have z5 := hp_cell (P5.out) 5
    have z6 := hp_cell (P5.out) 6
    have z7 := hp_cell (P5.out) 7
    simp only [List.getElem?_toArray, List.getElem?_cons_zero, List.getElem?_cons_succ] at z0 z1 z2 z3 z4 z5 z6 z7
    have y0 := hp_cell (F5.out) 0
    have y1 := hp_cell (F5.out) 1
    have y2 := hp_cell (F5.out) 2
    have y3 := hp_cell (F5.out) 3
    have y4 := hp_cell (F5.out) 4
    have y5 := hp_cell (F5.out) 5
    have y6 := hp_cell (F5.out) 6
    have y7 := hp_cell (F5.out) 7
    simp only [List.getElem?_toArray, List.getElem?_cons_zero, List.getElem?_cons_succ] at y0 y1 y2 y3 y4 y5 y6 y7
    go_wp2_with fail
    refine Calls.mono cS5.out ?_
    rintro e w8 ⟨rfl, hb⟩
    have B8 := Lib.hid (B5.out.trans hb)
    clear z0 z1 z2 z3 z4 z5 z6 z7 y0 y1 y2 y3 y4 y5 y6 y7
    clear cS5 hb P5 F5
    dsimp only
    go_wp2_with fail
    go_ret
    exact ⟨rfl, B8.out⟩
  have d4 : decide ((1 : Int) ≤ (b0 : Int)) = true := by simp; omega
  by_cases ha8 : b0 ≤ 8
  case neg =>
    have hkb : kindB b0 = false := by unfold kindB; rw [decide_eq_false ha8]; simp
    rw [hkb, if_neg (by decide)] at hst2
    have d5 : decide ((b0 : Int) ≤ 8) = false := by simp; omega
    subst hst2
    replace hkb := Lib.hid hkb
    dsimp only
    have z0 := hp_cell (P5.out) 0
    have z1 := hp_cell (P5.out) 1
    have z2 := hp_cell (P5.out) 2
    have z3 := hp_cell (P5.out) 3
    have z4 := hp_cell (P5.out) 4
    have z5 := hp_cell (P5.out) 5
    have z6 := hp_cell (P5.out) 6
    have z7 := hp_cell (P5.out) 7
    simp only [List.getElem?_toArray, List.getElem?_cons_zero, List.getElem?_cons_succ] at z0 z1 z2 z3 z4 z5 z6 z7
    have y0 := hp_cell (F5.out) 0
    have y1 := hp_cell (F5.out) 1
    have y2 := hp_cell (F5.out) 2
    have y3 := hp_cell (F5.out) 3
    have y4 := hp_cell (F5.out) 4
    have y5 := hp_cell (F5.out) 5
    have y6 := hp_cell (F5.out) 6
    have y7 := hp_cell (F5.out) 7
    simp only [List.getElem?_toArray, List.getElem?_cons_zero, List.getElem?_cons_succ] at y0 y1 y2 y3 y4 y5 y6 y7
    go_wp2_with fail
    refine Calls.mono cS5.out ?_
    rintro e w8 ⟨rfl, hb⟩
    have B8 := Lib.hid (B5.out.trans hb)
    clear z0 z1 z2 z3 z4 z5 z6 z7 y0 y1 y2 y3 y4 y5 y6 y7
    clear cS5 hb P5 F5
    dsimp only
    go_wp2_with fail
    go_ret
    exact ⟨rfl, B8.out⟩
  have d5 : decide ((b0 : Int) ≤ 8) = true := by simp; omega
  have hkb : kindB b0 = true := by unfold kindB; rw [decide_eq_true ha1, decide_eq_true ha8]; rfl
  rw [hkb, if_pos rfl] at hst2
  subst hst2
  replace hkb := Lib.hid hkb
  dsimp only
  have z0 := hp_cell (P5.out) 0
  have z1 := hp_cell (P5.out) 1
  have z2 := hp_cell (P5.out) 2
  have z3 := hp_cell (P5.out) 3
  have z4 := hp_cell (P5.out) 4
  have z5 := hp_cell (P5.out) 5
  have z6 := hp_cell (P5.out) 6
  have z7 := hp_cell (P5.out) 7
  simp only [List.getElem?_toArray, List.getElem?_cons_zero, List.getElem?_cons_succ] at z0 z1 z2 z3 z4 z5 z6 z7
  have y0 := hp_cell (F5.out) 0
  have y1 := hp_cell (F5.out) 1
  have y2 := hp_cell (F5.out) 2
  have y3 := hp_cell (F5.out) 3
  have y4 := hp_cell (F5.out) 4
  have y5 := hp_cell (F5.out) 5
  have y6 := hp_cell (F5.out) 6
  have y7 := hp_cell (F5.out) 7
  simp only [List.getElem?_toArray, List.getElem?_cons_zero, List.getElem?_cons_succ] at y0 y1 y2 y3 y4 y5 y6 y7
  go_wp2_with fail
  refine Calls.mono cS5.out ?_
  rintro e w8 ⟨rfl, hb⟩
  have B8 := Lib.hid (B5.out.trans hb)
  replace x1 := hb.cell x1
  clear z0 z1 z2 z3 z4 z5 z6 z7 y0 y1 y2 y3 y4 y5 y6 y7
  clear cS5 hb P5 F5
  dsimp only
  go_wp2_with fail
  go_ret
  exact ⟨rfl, B8.out⟩
end Go.Proofs.Ytcempndfbckcaaa
