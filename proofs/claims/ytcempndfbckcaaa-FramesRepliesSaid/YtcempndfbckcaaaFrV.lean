/- The law FramesReplies. No condition. -/
import Derived.Test.YtcempndfbckcaaaFrT
namespace Go.Proofs.Ytcempndfbckcaaa
open Go.RowKit

set_option maxRecDepth 100000 in
set_option maxHeartbeats 8000000 in
theorem law_frreplies (cs : Array Value) (a2 : Option Addr) (len2 cap2 : Nat) (a : Option Addr) (len cap : Nat) (w : World) (hr : Rd w repTy cs.toList) (hk : Rd w (.loop (.label 4)) [.slice a2 len2 cap2]) (h : Rd w (.loop (.label 4)) [.slice a len cap]) :
    Calls Try.prog 7 #[.agg cs, .slice a2 len2 cap2, .slice a len cap] w fun e w' => e = .returned (.bool true) ∧ Below w.heap.size w w' := by
  obtain ⟨nc, c, v, rfl, hnc, hc, hv⟩ := rep_of_Rd hr
  obtain ⟨l, hV, hlc, hlm⟩ := key_rd h
  obtain ⟨key, hK, hkc, hkm⟩ := key_rd hk
  clear h hk hr
  have ha := fun wz => Lib.hid (fr_alive wz)
  have cR := fun wz (hb : BW w wz) hn hnk => Lib.hid (repRead_any a len cap l a2 len2 cap2 key wz (hV.bw hb) (hK.bw hb) hn hnk)
  have cF := fun wz (hb : BW w wz) hn hnk => Lib.hid (repRRead_any a len cap l a2 len2 cap2 key wz (hV.bw hb) (hK.bw hb) hn hnk)
  unfold RepRdPost at cR cF
  generalize repRd key l = R at *
  have hKK := Lib.hid hK
  clear hV hK
  obtain ⟨er, xn, xc, xv⟩ := R
  dsimp only at cR cF
  have B1 : Hid (BW w (w.alloc (.cells #[.int .u64 (nc : Nat), .int .i64 c, .int .i64 v] 52))) := (BW.refl w).alloc
  have P1 := Lib.hid (HpB.new w (.cells #[.int .u64 (nc : Nat), .int .i64 c, .int .i64 v] 52))
  go_enter Try.func7, Try.ntmps7
  go_upto_region 1 with (fail)
  generalize w.alloc (.cells #[.int .u64 (nc : Nat), .int .i64 c, .int .i64 v] 52) = w1 at *
  generalize hg : w.heap.size = g at *
  have ha1 := ha w1
  clear ha
  go_wp2_with fail
  refine Calls.mono ha1.out ?_
  rintro e w2 ⟨rfl, hb⟩
  have B2 := Lib.hid (B1.out.trans hb)
  have P2 := Lib.hid (P1.out.bw hb)
  clear ha1 hb B1 P1
  by_cases h1 : 600 < len
  · have d1 : decide ((600 : Int) < (len : Int)) = true := by simp; omega
    go_wp2_with fail
    go_ret
    exact ⟨rfl, B2.out⟩
  have d1 : decide ((600 : Int) < (len : Int)) = false := by simp; omega
  by_cases h2 : 200 < len2
  · have d2 : decide ((200 : Int) < (len2 : Int)) = true := by simp; omega
    go_wp2_with fail
    go_ret
    exact ⟨rfl, B2.out⟩
  have d2 : decide ((200 : Int) < (len2 : Int)) = false := by simp; omega
  have cR2 := cR w2 B2.out (by omega) (by omega)
  clear cR
  go_wp2_with fail
  refine Calls.mono cR2.out ?_
  rintro e w3 ⟨rfl, hb⟩
  have BF : Hid (BW w3 (w3.alloc (.cells #[.int .u64 (xn : Nat), .int .i64 (xc : Nat), .int .i64 (xv : Nat)] 52))) := (BW.refl _).alloc
  have X4 := Lib.hid (HpB.new w3 (.cells #[.int .u64 (xn : Nat), .int .i64 (xc : Nat), .int .i64 (xv : Nat)] 52))
  go_upto_region 6 with (fail)
  generalize w3.alloc (.cells #[.int .u64 (xn : Nat), .int .i64 (xc : Nat), .int .i64 (xv : Nat)] 52) = w4 at *
  generalize w3.heap.size = g3 at *
  have B4 := Lib.hid ((B2.out.trans hb).trans BF.out)
  have P4 := Lib.hid ((P2.out.bw hb).bw BF.out)
  clear cR2 hb B2 P2 BF
  have cF4 := cF w4 B4.out (by omega) (by omega)
  clear cF
  go_wp2_with fail
  refine Calls.mono cF4.out ?_
  rintro e w5 ⟨rfl, hb⟩
  have BF : Hid (BW w5 (w5.alloc (.cells #[.int .u64 (xn : Nat), .int .i64 (xc : Nat), .int .i64 (xv : Nat)] 52))) := (BW.refl _).alloc
  have Y6 := Lib.hid (HpB.new w5 (.cells #[.int .u64 (xn : Nat), .int .i64 (xc : Nat), .int .i64 (xv : Nat)] 52))
  go_upto_region 7 with (fail)
  generalize w5.alloc (.cells #[.int .u64 (xn : Nat), .int .i64 (xc : Nat), .int .i64 (xv : Nat)] 52) = w6 at *
  generalize w5.heap.size = g5 at *
  have B6 := Lib.hid ((B4.out.trans hb).trans BF.out)
  have P6 := Lib.hid ((P4.out.bw hb).bw BF.out)
  have X6 := Lib.hid ((X4.out.bw hb).bw BF.out)
  clear cF4 hb B4 P4 BF X4
  have x0 := hp_cell (X6.out) 0
  have x1 := hp_cell (X6.out) 1
  have x2 := hp_cell (X6.out) 2
  simp only [List.getElem?_toArray, List.getElem?_cons_zero, List.getElem?_cons_succ] at x0 x1 x2
  have y0 := hp_cell (Y6.out) 0
  have y1 := hp_cell (Y6.out) 1
  have y2 := hp_cell (Y6.out) 2
  simp only [List.getElem?_toArray, List.getElem?_cons_zero, List.getElem?_cons_succ] at y0 y1 y2
  go_upto_region 9 with (fail)
  clear x0 x1 x2 y0 y1 y2
  clear X6 Y6
  have cW := Lib.hid (repWrite_any nc c v a2 len2 cap2 key w6 hnc hc hv (hKK.out.bw B6.out) (by omega))
  have cV := fun wz (hb : BW w6 wz) => Lib.hid (repRWrite_any nc c v a2 len2 cap2 key wz hnc hc hv (hKK.out.bw (B6.out.trans hb)) (by omega))
  unfold RepWPost at cW
  unfold RepRWPost at cV
  have z0 := hp_cell (P6.out) 0
  have z1 := hp_cell (P6.out) 1
  have z2 := hp_cell (P6.out) 2
  simp only [List.getElem?_toArray, List.getElem?_cons_zero, List.getElem?_cons_succ] at z0 z1 z2
  go_wp2_with fail
  refine Calls.mono cW.out ?_
  rintro e w7 ⟨hr, hb⟩
  have B7 := Lib.hid (B6.out.trans hb)
  have P7 := Lib.hid (P6.out.bw hb)
  have cV7 := cV w7 hb
  clear z0 z1 z2
  clear cW cV hb B6 P6
  have z0 := hp_cell (P7.out) 0
  have z1 := hp_cell (P7.out) 1
  have z2 := hp_cell (P7.out) 2
  simp only [List.getElem?_toArray, List.getElem?_cons_zero, List.getElem?_cons_succ] at z0 z1 z2
  rcases hr with ⟨cn, vn, rfl, rfl, h255, h231, u, rfl, O7⟩ | ⟨hno, rfl⟩
  case inr =>
    dsimp only
    go_wp2_with fail
    refine Calls.mono cV7.out ?_
    rintro e w8 ⟨hr, hb⟩
    have B8 := Lib.hid (B7.out.trans hb)
    clear cV7 hb
    rcases hr with ⟨cn, vn, rfl, rfl, h255, h231, u, _⟩ | ⟨-, rfl⟩
    · exact absurd ⟨by omega, by omega, by omega, by omega⟩ hno
    dsimp only
    go_wp2_with fail
    go_ret
    exact ⟨rfl, B8.out⟩
  obtain ⟨s7, c7, rfl, hc7, hm7⟩ := O7.len
  unfold maxLen at hm7
  have hrr := rep_read (key := key) hnc h255 h231
  have S7 := Lib.hid O7.sb
  clear O7
  replace hrr := Lib.hid hrr
  dsimp only
  go_wp2_with fail
  refine Calls.mono cV7.out ?_
  rintro e w8 ⟨hr, hb⟩
  clear z0 z1 z2
  have B8 := Lib.hid (B7.out.trans hb)
  have P8 := Lib.hid (P7.out.bw hb)
  have S8 := Lib.hid (S7.out.bw hb)
  clear cV7 hb B7 P7 S7
  rcases hr with ⟨cm, vm, hcm, hvm, -, -, u, rfl, O8⟩ | ⟨hno, -⟩
  case inr => exact absurd ⟨by omega, by omega, by omega, by omega⟩ hno
  obtain rfl : cn = cm := by omega
  obtain rfl : vn = vm := by omega
  clear hcm hvm
  generalize repN key nc cn vn = X at *
  obtain ⟨s8, c8, rfl, hc8, hm8⟩ := O8.len
  unfold maxLen at hm8
  have T8 := Lib.hid O8.sb
  clear O8
  have cA := Lib.hid (repRead_any s7 24 c7 X a2 len2 cap2 key w8 S8.out (hKK.out.bw B8.out) (by decide) (by omega))
  unfold RepRdPost at cA
  rw [hrr.out] at cA
  dsimp only at cA ⊢
  go_wp2_with fail
  refine Calls.mono cA.out ?_
  rintro e w9 ⟨rfl, hb⟩
  have BF : Hid (BW w9 (w9.alloc (.cells #[.int .u64 (nc : Nat), .int .i64 (cn : Nat), .int .i64 (vn : Nat)] 52))) := (BW.refl _).alloc
  have Z10 := Lib.hid (HpB.new w9 (.cells #[.int .u64 (nc : Nat), .int .i64 (cn : Nat), .int .i64 (vn : Nat)] 52))
  go_upto_region 14 with (fail)
  generalize w9.alloc (.cells #[.int .u64 (nc : Nat), .int .i64 (cn : Nat), .int .i64 (vn : Nat)] 52) = w10 at *
  generalize w9.heap.size = g9 at *
  have B10 := Lib.hid ((B8.out.trans hb).trans BF.out)
  have P10 := Lib.hid ((P8.out.bw hb).bw BF.out)
  have k1 := conv_sb ((S8.out.bw hb).bw BF.out)
  have k2 := conv_sb ((T8.out.bw hb).bw BF.out)
  clear cA hb B8 P8 S8 T8 BF
  generalize bstr X = zs at *
  have z0 := hp_cell (P10.out) 0
  have z1 := hp_cell (P10.out) 1
  have z2 := hp_cell (P10.out) 2
  simp only [List.getElem?_toArray, List.getElem?_cons_zero, List.getElem?_cons_succ] at z0 z1 z2
  have y0 := hp_cell (Z10.out) 0
  have y1 := hp_cell (Z10.out) 1
  have y2 := hp_cell (Z10.out) 2
  simp only [List.getElem?_toArray, List.getElem?_cons_zero, List.getElem?_cons_succ] at y0 y1 y2
  go_wp2_with fail
  go_ret
  exact ⟨rfl, B10.out⟩
end Go.Proofs.Ytcempndfbckcaaa
