/- The law RtpReads. No condition. -/
import Derived.Test.YtgiajnfmjpdodaaRtH
import Derived.Test.YtgiajnfmjpdodaaRtI
import Derived.Test.YtgiajnfmjpdodaaRtJ
namespace Go.Proofs.Ytgiajnfmjpdodaa
open Go.RowKit

theorem PkV.newAt (w : World) (c : Array Value) (n : Nat) (h : n = w.heap.size) : PkV (w.alloc (.cells c 28)) n c := HpB.newAt w _ n h

set_option maxRecDepth 100000 in
set_option maxHeartbeats 8000000 in
theorem law_reads (a : Option Addr) (len cap : Nat) (w : World) (h : Rd w (.loop (.label 4)) [.slice a len cap]) :
    Calls Try.prog 4 #[.slice a len cap] w fun e w' => e = .returned (.bool true) ∧ Below w.heap.size w w' := by
  obtain ⟨l, hv⟩ := SB_of_Rd h
  obtain ⟨_, _, he, hn, hm⟩ := hv.len
  simp only [Value.slice.injEq, true_and] at he
  obtain ⟨rfl, rfl⟩ := he
  unfold maxLen at hm
  clear h
  have ha := Lib.hid (rtp_alive w)
  replace hv := Lib.hid hv
  go_enter Try.func4, Try.ntmps4
  go_wp2_with fail
  refine Calls.mono ha.out ?_
  rintro e w1 ⟨rfl, B1⟩
  replace B1 := Lib.hid B1
  clear ha
  by_cases hl : 3000 < len
  · have d : decide ((3000 : Int) < (len : Int)) = true := by simp; omega
    go_wp2_with fail
    go_ret
    exact ⟨rfl, B1.out⟩
  have d : decide ((3000 : Int) < (len : Int)) = false := by simp; omega
  go_upto_region 5 with (fail)
  clear d
  have cR := fun wz hv => Lib.hid (Read_any (.slice a len cap) len l (by omega) wz hv)
  have cF := fun wz hv => Lib.hid (refRead_any (.slice a len cap) len l (by omega) wz hv)
  have cH := fun wz hv => Lib.hid (Head_any (.slice a len cap) len l (by omega) wz hv)
  generalize readN l = R at *
  obtain ⟨er, hd, d⟩ := R
  dsimp only at cH
  have q : ((er : Int) == 0) = decide (er = 0) := by rw [Bool.eq_iff_iff, beq_iff_eq, decide_eq_true_iff]; omega
  generalize decide (er = 0) = z0 at *
  have V1 := Lib.hid (hv.out.bw B1.out)
  go_wp2_with fail
  refine Calls.mono (cR w1 V1.out).out ?_
  rintro e w2 ⟨c1, rfl, O1, hb⟩
  obtain ⟨s1, p1, s2, p2, s3, p3, rfl, -, -, -⟩ := O1.open
  have V2 := V1.out.bw hb
  have B2 := B1.out.trans hb
  dsimp only at O1 ⊢
  replace V2 := Lib.hid V2
  replace B2 := Lib.hid B2
  clear hb cR V1 B1
  have P3 := PkV.newAt w2 (rtpC d.marker d.typ d.seq d.stamp d.source (.slice s1 d.others.length p1) d.ext d.profile (.slice s2 d.extra.length p2) (.slice s3 d.payload.length p3) d.pad) w2.heap.size rfl
  have B3 := B2.out.alloc (o := .cells (rtpC d.marker d.typ d.seq d.stamp d.source (.slice s1 d.others.length p1) d.ext d.profile (.slice s2 d.extra.length p2) (.slice s3 d.payload.length p3) d.pad) 28)
  have W3 : BW w2 (w2.alloc (.cells (rtpC d.marker d.typ d.seq d.stamp d.source (.slice s1 d.others.length p1) d.ext d.profile (.slice s2 d.extra.length p2) (.slice s3 d.payload.length p3) d.pad) 28)) := (BW.refl _).alloc
  have V3 := V2.out.bw W3
  have O3 := O1.v.bw W3
  obtain ⟨mk, ty, sq, st, so, ot, xb, pf, ex, pl, pd⟩ := d
  dsimp only at *
  unfold rtpC at *
  replace P3 := Lib.hid P3
  replace B3 := Lib.hid B3
  replace V3 := Lib.hid V3
  replace O3 := Lib.hid O3
  clear O1 B2 V2 W3
  go_upto_region 6 with (fail)
  generalize w2.alloc (.cells #[.bool mk, .int .u8 (ty : Nat), .int .u16 (sq : Nat), .int .u32 (st : Nat), .int .u32 (so : Nat), .slice s1 ot.length p1, .bool xb, .int .u16 (pf : Nat), .slice s2 ex.length p2, .slice s3 pl.length p3, .int .u8 (pd : Nat)] 28) = w3 at *
  generalize w2.heap.size = g1 at *
  go_wp2_with fail
  refine Calls.mono (cF w3 V3.out).out ?_
  rintro e w4 ⟨c2, rfl, O4, hb⟩
  obtain ⟨t1, r1, t2, r2, t3, r3, rfl, -, -, -⟩ := O4.open
  dsimp only at O4 ⊢
  simp only [rtpC] at O4 ⊢
  have W5 : BW w3 (w4.alloc (.cells #[.bool mk, .int .u8 (ty : Nat), .int .u16 (sq : Nat), .int .u32 (st : Nat), .int .u32 (so : Nat), .slice t1 ot.length r1, .bool xb, .int .u16 (pf : Nat), .slice t2 ex.length r2, .slice t3 pl.length r3, .int .u8 (pd : Nat)] 28)) := hb.alloc
  have P5 := PkV.newAt w4 #[.bool mk, .int .u8 (ty : Nat), .int .u16 (sq : Nat), .int .u32 (st : Nat), .int .u32 (so : Nat), .slice t1 ot.length r1, .bool xb, .int .u16 (pf : Nat), .slice t2 ex.length r2, .slice t3 pl.length r3, .int .u8 (pd : Nat)] w4.heap.size rfl
  have O5 := O4.v.bw ((BW.refl w4).alloc (o := .cells #[.bool mk, .int .u8 (ty : Nat), .int .u16 (sq : Nat), .int .u32 (st : Nat), .int .u32 (so : Nat), .slice t1 ot.length r1, .bool xb, .int .u16 (pf : Nat), .slice t2 ex.length r2, .slice t3 pl.length r3, .int .u8 (pd : Nat)] 28))
  have P6 := Lib.hid (P3.out.bw W5)
  have V6 := Lib.hid (V3.out.bw W5)
  have O6 := Lib.hid (O3.out.bw W5)
  have B6 := Lib.hid (B3.out.trans W5)
  clear hb O4 cF W5 P3 V3 O3 B3
  replace P5 := Lib.hid P5
  replace O5 := Lib.hid O5
  go_upto_region 7 with (fail)
  generalize w4.alloc (.cells #[.bool mk, .int .u8 (ty : Nat), .int .u16 (sq : Nat), .int .u32 (st : Nat), .int .u32 (so : Nat), .slice t1 ot.length r1, .bool xb, .int .u16 (pf : Nat), .slice t2 ex.length r2, .slice t3 pl.length r3, .int .u8 (pd : Nat)] 28) = w5 at *
  generalize w4.heap.size = g2 at *
  go_wp2_with fail
  refine Calls.mono (cH w5 V6.out).out ?_
  rintro e w6 ⟨rfl, hb⟩
  dsimp only
  have P7 := Lib.hid (P6.out.bw hb)
  have P8 := Lib.hid (P5.out.bw hb)
  have O7 := Lib.hid (O6.out.bw hb)
  have O8 := Lib.hid (O5.out.bw hb)
  have B8 := Lib.hid (B6.out.trans hb)
  clear hb cH P5 P6 O5 O6 B6 V6
  have z0 := hp_cell (P7.out) 0
  have z1 := hp_cell (P7.out) 1
  have z2 := hp_cell (P7.out) 2
  have z3 := hp_cell (P7.out) 3
  have z4 := hp_cell (P7.out) 4
  have z5 := hp_cell (P7.out) 5
  have z6 := hp_cell (P7.out) 6
  have z7 := hp_cell (P7.out) 7
  have z8 := hp_cell (P7.out) 8
  have z9 := hp_cell (P7.out) 9
  have z10 := hp_cell (P7.out) 10
  simp only [List.getElem?_toArray, List.getElem?_cons_zero, List.getElem?_cons_succ] at z0 z1 z2 z3 z4 z5 z6 z7 z8 z9 z10
  have y0 := hp_cell (P8.out) 0
  have y1 := hp_cell (P8.out) 1
  have y2 := hp_cell (P8.out) 2
  have y3 := hp_cell (P8.out) 3
  have y4 := hp_cell (P8.out) 4
  have y5 := hp_cell (P8.out) 5
  have y6 := hp_cell (P8.out) 6
  have y7 := hp_cell (P8.out) 7
  have y8 := hp_cell (P8.out) 8
  have y9 := hp_cell (P8.out) 9
  have y10 := hp_cell (P8.out) 10
  simp only [List.getElem?_toArray, List.getElem?_cons_zero, List.getElem?_cons_succ] at y0 y1 y2 y3 y4 y5 y6 y7 y8 y9 y10
  go_wp2_with fail
  refine Calls.mono (same_true _ _ _ w6 O7.out O8.out) ?_
  rintro e w7 ⟨rfl, hb⟩
  dsimp only
  replace B8 := Lib.hid (B8.out.trans hb)
  clear hb
  clear z0 z1 z2 z3 z4 z5 z6 z7 z8 z9 z10 y0 y1 y2 y3 y4 y5 y6 y7 y8 y9 y10
  go_wp2_with fail
  go_ret
  exact ⟨rfl, B8.out⟩
end Go.Proofs.Ytgiajnfmjpdodaa
