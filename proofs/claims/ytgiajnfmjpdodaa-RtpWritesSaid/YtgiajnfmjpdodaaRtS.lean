/- The law RtpWrites. No condition. -/
import Derived.Test.YtgiajnfmjpdodaaRtK
import Derived.Test.YtgiajnfmjpdodaaRtO
import Derived.Test.YtgiajnfmjpdodaaRtR
namespace Go.Proofs.Ytgiajnfmjpdodaa
open Go.RowKit

set_option maxRecDepth 100000 in
set_option maxHeartbeats 8000000 in
theorem law_writes (cs : Array Value) (w : World) (h : Rd w rtpTy cs.toList) :
    Calls Try.prog 6 #[.agg cs] w fun e w' => e = .returned (.bool true) ∧ Below w.heap.size w w' := by
  obtain ⟨d, V, wf⟩ := RtpV_of_Rd h
  clear h
  obtain ⟨so_, co, se, ce, sp, cp, rfl, N, E, D⟩ := V.open
  have hN := N.len
  have hE := E.len
  have hD := D.len
  have ha := fun wz => Lib.hid (rtp_alive wz)
  have cW := fun c wz h hpl => Lib.hid (Write_any c d wz h wf hpl)
  have cF := fun c wz h hpl => Lib.hid (refWrite_any c d wz h wf hpl)
  have cR : ∀ (b : List Nat) (v : Value) (wz : World), writeN d = some b → SB wz v b.length b → Hid (Calls Try.prog 17 #[v] wz (ReadPost2 (0, 12 + 4 * d.others.length + (extN d).length, d) wz)) := fun b v wz hb hv => by
    have hb' := hb
    unfold writeN at hb'
    split at hb'
    · rename_i hk
      have e := Option.some.inj hb'
      subst e
      have := Read_any v _ _ (by omega) wz hv
      rw [read_write d wf hk.1 hk.2] at this
      exact this
    · cases hb'
  obtain ⟨mk, ty, sq, st, so, ot, xb, pf, ex, pl, pd⟩ := d
  dsimp only at *
  obtain ⟨_, _, e1, n1, m1⟩ := hN
  obtain ⟨_, _, e2, n2, m2⟩ := hE
  obtain ⟨_, _, e3, n3, m3⟩ := hD
  simp only [Value.slice.injEq, true_and] at e1 e2 e3
  obtain ⟨rfl, rfl⟩ := e1
  obtain ⟨rfl, rfl⟩ := e2
  obtain ⟨rfl, rfl⟩ := e3
  unfold maxLen at m1 m2 m3
  have cW' := fun wz h hpl => (cW (rtpC mk ty sq st so (.slice so_ ot.length co) xb pf (.slice se ex.length ce) (.slice sp pl.length cp) pd) wz h hpl)
  have cF' := fun wz h hpl => (cF (rtpC mk ty sq st so (.slice so_ ot.length co) xb pf (.slice se ex.length ce) (.slice sp pl.length cp) pd) wz h hpl)
  clear cW cF
  have P1 := Lib.hid (PkV.made w (rtpC mk ty sq st so (.slice so_ ot.length co) xb pf (.slice se ex.length ce) (.slice sp pl.length cp) pd))
  have B1 : Hid (BW w (w.alloc (.cells (rtpC mk ty sq st so (.slice so_ ot.length co) xb pf (.slice se ex.length ce) (.slice sp pl.length cp) pd) 28))) := (BW.refl w).alloc
  have V1 := Lib.hid (V.bw B1.out)
  clear V N E D
  generalize ot.length = no at *
  generalize ex.length = ne at *
  generalize pl.length = np at *
  simp only [rtpC] at *
  go_enter Try.func6, Try.ntmps6
  go_upto_region 1 with (fail)
  generalize w.alloc (.cells #[.bool mk, .int .u8 (ty : Nat), .int .u16 (sq : Nat), .int .u32 (st : Nat), .int .u32 (so : Nat), .slice so_ no co, .bool xb, .int .u16 (pf : Nat), .slice se ne ce, .slice sp np cp, .int .u8 (pd : Nat)] 28) = w1 at *
  go_wp2_with fail
  refine Calls.mono (ha w1).out ?_
  rintro e w2 ⟨rfl, hb⟩
  have P2 := Lib.hid (P1.out.bw hb)
  have B2 := Lib.hid (B1.out.trans hb)
  have V2 := Lib.hid (V1.out.bw hb)
  clear hb P1 B1 V1 ha
  dsimp only
  have z0 := hp_cell (P2.out) 0
  have z1 := hp_cell (P2.out) 1
  have z2 := hp_cell (P2.out) 2
  have z3 := hp_cell (P2.out) 3
  have z4 := hp_cell (P2.out) 4
  have z5 := hp_cell (P2.out) 5
  have z6 := hp_cell (P2.out) 6
  have z7 := hp_cell (P2.out) 7
  have z8 := hp_cell (P2.out) 8
  have z9 := hp_cell (P2.out) 9
  have z10 := hp_cell (P2.out) 10
  simp only [List.getElem?_toArray, List.getElem?_cons_zero, List.getElem?_cons_succ] at z0 z1 z2 z3 z4 z5 z6 z7 z8 z9 z10
  by_cases g1 : 100 < no
  · have d1 : decide ((100 : Int) < (no : Int)) = true := by simp; omega
    go_wp2_with fail
    go_ret
    exact ⟨rfl, B2.out⟩
  have d1 : decide ((100 : Int) < (no : Int)) = false := by simp; omega
  by_cases g2 : 2000 < ne
  · have d2 : decide ((2000 : Int) < (ne : Int)) = true := by simp; omega
    go_wp2_with fail
    go_ret
    exact ⟨rfl, B2.out⟩
  have d2 : decide ((2000 : Int) < (ne : Int)) = false := by simp; omega
  by_cases g3 : 2000 < np
  · have d3 : decide ((2000 : Int) < (np : Int)) = true := by simp; omega
    go_wp2_with fail
    go_ret
    exact ⟨rfl, B2.out⟩
  have d3 : decide ((2000 : Int) < (np : Int)) = false := by simp; omega
  go_wp2_with fail
  refine Calls.mono (cW' w2 V2.out (by omega)).out ?_
  rintro e w3 ⟨hpost, hb⟩
  have P3 := Lib.hid (P2.out.bw hb)
  have B3 := Lib.hid (B2.out.trans hb)
  have V3 := Lib.hid (V2.out.bw hb)
  clear hb P2 B2 V2 cW' d1 d2 d3
  clear z0 z1 z2 z3 z4 z5 z6 z7 z8 z9 z10
  have z0 := hp_cell (P3.out) 0
  have z1 := hp_cell (P3.out) 1
  have z2 := hp_cell (P3.out) 2
  have z3 := hp_cell (P3.out) 3
  have z4 := hp_cell (P3.out) 4
  have z5 := hp_cell (P3.out) 5
  have z6 := hp_cell (P3.out) 6
  have z7 := hp_cell (P3.out) 7
  have z8 := hp_cell (P3.out) 8
  have z9 := hp_cell (P3.out) 9
  have z10 := hp_cell (P3.out) 10
  simp only [List.getElem?_toArray, List.getElem?_cons_zero, List.getElem?_cons_succ] at z0 z1 z2 z3 z4 z5 z6 z7 z8 z9 z10
  rcases hpost with ⟨b, v, hw, rfl, O⟩ | ⟨hw, rfl⟩
  · have hbl := hw
    obtain ⟨s5, c5, rfl, _, _⟩ := O.len
    have hr := fun v wz hv => cR b v wz hw hv
    replace O := Lib.hid O
    replace hw := Lib.hid hw
    clear hbl
    dsimp only
    go_wp2_with fail
    refine Calls.mono (cF' w3 V3.out (by omega)).out ?_
    rintro e w4 ⟨hpost, hb⟩
    rcases hpost with ⟨b2, v2, hw2, rfl, O2⟩ | ⟨hw2, rfl⟩
    case inr => exact absurd (hw.out.symm.trans hw2) (by intro h; cases h)
    obtain rfl : b = b2 := Option.some.inj (hw.out.symm.trans hw2)
    obtain ⟨s6, c6, rfl, _, _⟩ := O2.len
    have P4 := Lib.hid (P3.out.bw hb)
    have B4 := Lib.hid (B3.out.trans hb)
    have V4 := Lib.hid (V3.out.bw hb)
    have O4 := Lib.hid (O.out.sb.bw hb)
    have Q4 := Lib.hid O2.sb
    clear hb P3 B3 V3 cF' hw2 O O2 hw cR
    clear z0 z1 z2 z3 z4 z5 z6 z7 z8 z9 z10
    dsimp only
    go_wp2_with fail
    refine Calls.mono (hr _ w4 O4.out).out ?_
    rintro e w5 ⟨c2, rfl, R5, hb⟩
    obtain ⟨t1, r1, t2, r2, t3, r3, rfl, hn, -, -⟩ := R5.open
    dsimp only at R5 hn ⊢
    simp only [rtpC] at R5 ⊢
    have W6 : BW w4 (w5.alloc (.cells #[.bool mk, .int .u8 (ty : Nat), .int .u16 (sq : Nat), .int .u32 (st : Nat), .int .u32 (so : Nat), .slice t1 ot.length r1, .bool xb, .int .u16 (pf : Nat), .slice t2 ex.length r2, .slice t3 pl.length r3, .int .u8 (pd : Nat)] 28)) := hb.alloc
    have P6 := PkV.made w5 #[.bool mk, .int .u8 (ty : Nat), .int .u16 (sq : Nat), .int .u32 (st : Nat), .int .u32 (so : Nat), .slice t1 ot.length r1, .bool xb, .int .u16 (pf : Nat), .slice t2 ex.length r2, .slice t3 pl.length r3, .int .u8 (pd : Nat)]
    have R6 := R5.v.bw ((BW.refl w5).alloc (o := (.cells #[.bool mk, .int .u8 (ty : Nat), .int .u16 (sq : Nat), .int .u32 (st : Nat), .int .u32 (so : Nat), .slice t1 ot.length r1, .bool xb, .int .u16 (pf : Nat), .slice t2 ex.length r2, .slice t3 pl.length r3, .int .u8 (pd : Nat)] 28)))
    have X6 := Lib.hid (P4.out.bw W6)
    have V6 := Lib.hid (V4.out.bw W6)
    have B6 := Lib.hid (B4.out.trans W6)
    have k1 := conv_sb (O4.out.bw W6)
    have k2 := conv_sb (Q4.out.bw W6)
    clear hb R5 hn P4 V4 B4 O4 Q4 W6 hr
    replace P6 := Lib.hid P6
    replace R6 := Lib.hid R6
    go_upto_region 10 with (fail)
    generalize w5.alloc (.cells #[.bool mk, .int .u8 (ty : Nat), .int .u16 (sq : Nat), .int .u32 (st : Nat), .int .u32 (so : Nat), .slice t1 ot.length r1, .bool xb, .int .u16 (pf : Nat), .slice t2 ex.length r2, .slice t3 pl.length r3, .int .u8 (pd : Nat)] 28) = w6 at *
    generalize w5.heap.size = g2 at *
    generalize b.length = nb at *
    generalize bstr b = sb at *
    have z0 := hp_cell (X6.out) 0
    have z1 := hp_cell (X6.out) 1
    have z2 := hp_cell (X6.out) 2
    have z3 := hp_cell (X6.out) 3
    have z4 := hp_cell (X6.out) 4
    have z5 := hp_cell (X6.out) 5
    have z6 := hp_cell (X6.out) 6
    have z7 := hp_cell (X6.out) 7
    have z8 := hp_cell (X6.out) 8
    have z9 := hp_cell (X6.out) 9
    have z10 := hp_cell (X6.out) 10
    simp only [List.getElem?_toArray, List.getElem?_cons_zero, List.getElem?_cons_succ] at z0 z1 z2 z3 z4 z5 z6 z7 z8 z9 z10
    have y0 := hp_cell (P6.out) 0
    have y1 := hp_cell (P6.out) 1
    have y2 := hp_cell (P6.out) 2
    have y3 := hp_cell (P6.out) 3
    have y4 := hp_cell (P6.out) 4
    have y5 := hp_cell (P6.out) 5
    have y6 := hp_cell (P6.out) 6
    have y7 := hp_cell (P6.out) 7
    have y8 := hp_cell (P6.out) 8
    have y9 := hp_cell (P6.out) 9
    have y10 := hp_cell (P6.out) 10
    simp only [List.getElem?_toArray, List.getElem?_cons_zero, List.getElem?_cons_succ] at y0 y1 y2 y3 y4 y5 y6 y7 y8 y9 y10
    go_wp2_with fail
    refine Calls.mono (same_true _ _ ⟨mk, ty, sq, st, so, ot, xb, pf, ex, pl, pd⟩ w6 V6.out R6.out) ?_
    rintro e w7 ⟨rfl, hb⟩
    dsimp only
    have B8 := Lib.hid (B6.out.trans hb)
    clear hb k1 k2
    clear z0 z1 z2 z3 z4 z5 z6 z7 z8 z9 z10 y0 y1 y2 y3 y4 y5 y6 y7 y8 y9 y10
    go_wp2_with fail
    go_ret
    exact ⟨rfl, B8.out⟩
  · dsimp only
    go_wp2_with fail
    refine Calls.mono (cF' w3 V3.out (by omega)).out ?_
    rintro e w4 ⟨hpost, hb⟩
    rcases hpost with ⟨b2, v2, hw2, rfl, O2⟩ | ⟨hw2, rfl⟩
    · exact absurd (hw.symm.trans hw2) (by intro h; cases h)
    have B4 := Lib.hid (B3.out.trans hb)
    clear hb hw hw2 cR cF'
    clear z0 z1 z2 z3 z4 z5 z6 z7 z8 z9 z10
    dsimp only
    go_wp2_with fail
    go_ret
    exact ⟨rfl, B4.out⟩
end Go.Proofs.Ytgiajnfmjpdodaa
