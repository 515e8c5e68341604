/- The reference's Same: a packet is the same as itself. No condition. -/
import Derived.Test.YtgiajnfmjpdodaaRtG
import Derived.Test.YtgiajnfmjpdodaaBst
namespace Go.Proofs.Ytgiajnfmjpdodaa
open Go.RowKit

theorem RtpV.open {w : World} {c : Array Value} {d : RtpD} (h : RtpV w c d) :
    ∃ so_ co se ce sp cp, c = rtpC d.marker d.typ d.seq d.stamp d.source (.slice so_ d.others.length co) d.ext d.profile (.slice se d.extra.length ce) (.slice sp d.payload.length cp) d.pad ∧ NB w .u32 (.slice so_ d.others.length co) d.others.length (nz d.others) ∧ SB w (.slice se d.extra.length ce) d.extra.length d.extra ∧ SB w (.slice sp d.payload.length cp) d.payload.length d.payload := by
  obtain ⟨ov, ev, pv, rfl, h1, h2, h3⟩ := h
  obtain ⟨so_, co, rfl, _, _⟩ := h1.len
  obtain ⟨se, ce, rfl, _, _⟩ := h2.len
  obtain ⟨sp, cp, rfl, _, _⟩ := h3.len
  exact ⟨so_, co, se, ce, sp, cp, rfl, h1, h2, h3⟩

set_option maxRecDepth 100000 in
set_option maxHeartbeats 8000000 in
theorem same_true (c1 c2 : Array Value) (d : RtpD) (w : World) (h1 : RtpV w c1 d) (h2 : RtpV w c2 d) :
    Calls Try.prog 19 #[.agg c1, .agg c2] w fun e w' => e = .returned (.bool true) ∧ BW w w' := by
  obtain ⟨so1, co1, se1, ce1, sp1, cp1, rfl, N1, E1, D1⟩ := h1.open
  obtain ⟨so2, co2, se2, ce2, sp2, cp2, rfl, N2, E2, D2⟩ := h2.open
  obtain ⟨mk, ty, sq, st, so, ot, xb, pf, ex, pl, pd⟩ := d
  dsimp only at *
  clear h1 h2
  obtain ⟨_, _, he1, hn1, hm1⟩ := N1.len
  simp only [Value.slice.injEq, true_and] at he1
  obtain ⟨rfl, rfl⟩ := he1
  obtain ⟨_, _, he2, hn2, hm2⟩ := N2.len
  simp only [Value.slice.injEq, true_and] at he2
  obtain ⟨rfl, rfl⟩ := he2
  unfold maxLen at hm1 hm2
  have B1 : BW w (w.alloc (.cells (rtpC mk ty sq st so (.slice so1 ot.length co1) xb pf (.slice se1 ex.length ce1) (.slice sp1 pl.length cp1) pd) 28)) := (BW.refl w).alloc
  have B2 : BW (w.alloc (.cells (rtpC mk ty sq st so (.slice so1 ot.length co1) xb pf (.slice se1 ex.length ce1) (.slice sp1 pl.length cp1) pd) 28)) ((w.alloc (.cells (rtpC mk ty sq st so (.slice so1 ot.length co1) xb pf (.slice se1 ex.length ce1) (.slice sp1 pl.length cp1) pd) 28)).alloc (.cells (rtpC mk ty sq st so (.slice so2 ot.length co2) xb pf (.slice se2 ex.length ce2) (.slice sp2 pl.length cp2) pd) 28)) := (BW.refl _).alloc
  have P1 : PkV ((w.alloc (.cells (rtpC mk ty sq st so (.slice so1 ot.length co1) xb pf (.slice se1 ex.length ce1) (.slice sp1 pl.length cp1) pd) 28)).alloc (.cells (rtpC mk ty sq st so (.slice so2 ot.length co2) xb pf (.slice se2 ex.length ce2) (.slice sp2 pl.length cp2) pd) 28)) w.heap.size _ := HpB.bw (HpB.new w _) B2
  have P2 : PkV ((w.alloc (.cells (rtpC mk ty sq st so (.slice so1 ot.length co1) xb pf (.slice se1 ex.length ce1) (.slice sp1 pl.length cp1) pd) 28)).alloc (.cells (rtpC mk ty sq st so (.slice so2 ot.length co2) xb pf (.slice se2 ex.length ce2) (.slice sp2 pl.length cp2) pd) 28)) (w.heap.size + 1) _ := HpB.newAt _ _ _ (by simp)
  have B := Lib.hid (B1.trans B2)
  clear B1 B2
  replace N1 := Lib.hid N1
  replace N2 := Lib.hid N2
  replace E1 := Lib.hid E1
  replace E2 := Lib.hid E2
  replace D1 := Lib.hid D1
  replace D2 := Lib.hid D2
  replace P1 := Lib.hid P1
  replace P2 := Lib.hid P2
  unfold rtpC at *
  go_enter Try.func19, Try.ntmps19
  go_upto_region 1 with (fail)
  generalize (w.alloc (.cells #[.bool mk, .int .u8 (ty : Nat), .int .u16 (sq : Nat), .int .u32 (st : Nat), .int .u32 (so : Nat), .slice so1 ot.length co1, .bool xb, .int .u16 (pf : Nat), .slice se1 ex.length ce1, .slice sp1 pl.length cp1, .int .u8 (pd : Nat)] 28)).alloc (.cells #[.bool mk, .int .u8 (ty : Nat), .int .u16 (sq : Nat), .int .u32 (st : Nat), .int .u32 (so : Nat), .slice so2 ot.length co2, .bool xb, .int .u16 (pf : Nat), .slice se2 ex.length ce2, .slice sp2 pl.length cp2, .int .u8 (pd : Nat)] 28) = w2 at *
  replace N1 := Lib.hid (N1.out.bw B.out)
  replace N2 := Lib.hid (N2.out.bw B.out)
  replace E1 := Lib.hid (E1.out.bw B.out)
  replace E2 := Lib.hid (E2.out.bw B.out)
  replace D1 := Lib.hid (D1.out.bw B.out)
  replace D2 := Lib.hid (D2.out.bw B.out)
  have zo1 := hp_cell P1.out 5
  have zo2 := hp_cell P2.out 5
  simp only [List.getElem?_toArray, List.getElem?_cons_zero, List.getElem?_cons_succ] at zo1 zo2
  go_upto_region 4 with (fail)
  generalize ot.length = no at *
  go_loopg [5] no (fun m' i wx => ∃ j : Nat, m' = no - j ∧ j ≤ no ∧ i = .int .i64 (j : Nat) ∧ Hid (BW w2 wx))
  case atStart => exact ⟨0, by omega, by omega, rfl, BW.refl _⟩
  case round =>
    obtain ⟨j, rfl, hj, rfl, C⟩ := hrel
    have zp1 := C.out.cell zo1
    have zp2 := C.out.cell zo2
    by_cases hjn : j < no
    · obtain ⟨b1, o1, q1, hs1, _, _, hb1, hc1⟩ := N1.out.form (by omega)
      obtain ⟨b2, o2, q2, hs2, _, _, hb2, hc2⟩ := N2.out.form (by omega)
      simp only [Value.slice.injEq] at hs1 hs2
      obtain ⟨rfl, -, rfl⟩ := hs1
      obtain ⟨rfl, -, rfl⟩ := hs2
      have k1 := C.out.cell (hc1 j hjn)
      have k2 := C.out.cell (hc2 j hjn)
      clear hc1 hc2
      generalize (nz ot).getD j 0 = X at *
      go_upto_region 6 with (fail)
      have l1 := fun x : LaterS [] wr => x.cell zp1 (by simp)
      have l2 := fun x : LaterS [] wr => x.cell zp2 (by simp)
      have l3 := fun x : LaterS [] wr => x.cell k1 (by simp)
      have l4 := fun x : LaterS [] wr => x.cell k2 (by simp)
      clear zp1 zp2 k1 k2
      refine wp_region_gg [] [] [] (by kernel_rfl) ?_
      refine hoist [] [] (a1 := ?_) 0 rfl (by kernel_rfl) (.inl ⟨rfl, rfl⟩) rfl rfl rfl (fun x K hK => ?_) ?_
      rotate_left
      · go_big_quiet_op
        exact hK
      refine hoist [] [] (a1 := ?_) 1 rfl (by kernel_rfl) (.inl ⟨rfl, rfl⟩) rfl rfl rfl (fun x K hK => ?_) ?_
      rotate_left
      · go_big_quiet_op
        exact hK
      refine hoist [] [] (a1 := ?_) 2 rfl (by kernel_rfl) (.inl ⟨rfl, rfl⟩) rfl rfl rfl (fun x K hK => ?_) ?_
      rotate_left
      · go_big_quiet_op
        exact hK
      refine hoist [] [] (a1 := ?_) 3 rfl (by kernel_rfl) (.inl ⟨rfl, rfl⟩) rfl rfl rfl (fun x K hK => ?_) ?_
      rotate_left
      · go_big_quiet_op
        exact hK
      refine hoist [] [] (a1 := ?_) 4 rfl (by kernel_rfl) (.inl ⟨rfl, rfl⟩) rfl rfl rfl (fun x K hK => ?_) ?_
      rotate_left
      · go_big_quiet_op
        exact hK
      refine hoist [] [] (a1 := ?_) 5 rfl (by kernel_rfl) (.inl ⟨rfl, rfl⟩) rfl rfl rfl (fun x K hK => ?_) ?_
      rotate_left
      · go_big_quiet_op
        exact hK
      refine hoist [] [] (a1 := ?_) 6 rfl (by kernel_rfl) (.inl ⟨rfl, rfl⟩) rfl rfl rfl (fun x K hK => ?_) ?_
      rotate_left
      · go_big_quiet_op
        exact hK
      refine hoist [] [] (a1 := ?_) 7 rfl (by kernel_rfl) (.inl ⟨rfl, rfl⟩) rfl rfl rfl (fun x K hK => ?_) ?_
      rotate_left
      · go_big_quiet_op
        exact hK
      refine hoist [] [] (a1 := ?_) 8 rfl (by kernel_rfl) (.inl ⟨rfl, rfl⟩) rfl rfl rfl (fun x K hK => ?_) ?_
      rotate_left
      · go_big_quiet_op
        exact hK
      refine hoist [] [] (a1 := ?_) 9 rfl (by kernel_rfl) (.inl ⟨rfl, rfl⟩) rfl rfl rfl (fun x K hK => ?_) ?_
      rotate_left
      · go_big_quiet_op
        exact hK
      refine hoist [] [] (a1 := ?_) 10 rfl (by kernel_rfl) (.inl ⟨rfl, rfl⟩) rfl rfl rfl (fun x K hK => ?_) ?_
      rotate_left
      · go_big_quiet_op
        exact hK
      refine done (by kernel_rfl) (fun xr => ?_)
      have C2 := Lib.hid (C.out.trans xr.bw)
      clear l1 l2 l3 l4
      go_wp2_with fail
      go_roundg (no - (j + 1))
      case measure => omega
      case rel => exact ⟨j + 1, rfl, by omega, by push_cast; rfl, C2⟩
    · obtain rfl : j = no := by omega
      clear hjn
      obtain ⟨wk, rfl⟩ : ∃ x, x = wr := ⟨_, rfl⟩
      go_upto_region 8 with (fail)
      clear zp1 zp2 zo1 zo2
      have z0 := hp_cell (P1.out.bw C.out) 0
      have z1 := hp_cell (P1.out.bw C.out) 1
      have z2 := hp_cell (P1.out.bw C.out) 2
      have z3 := hp_cell (P1.out.bw C.out) 3
      have z4 := hp_cell (P1.out.bw C.out) 4
      have z5 := hp_cell (P1.out.bw C.out) 5
      have z6 := hp_cell (P1.out.bw C.out) 6
      have z7 := hp_cell (P1.out.bw C.out) 7
      have z8 := hp_cell (P1.out.bw C.out) 8
      have z9 := hp_cell (P1.out.bw C.out) 9
      have z10 := hp_cell (P1.out.bw C.out) 10
      simp only [List.getElem?_toArray, List.getElem?_cons_zero, List.getElem?_cons_succ] at z0 z1 z2 z3 z4 z5 z6 z7 z8 z9 z10
      have y0 := hp_cell (P2.out.bw C.out) 0
      have y1 := hp_cell (P2.out.bw C.out) 1
      have y2 := hp_cell (P2.out.bw C.out) 2
      have y3 := hp_cell (P2.out.bw C.out) 3
      have y4 := hp_cell (P2.out.bw C.out) 4
      have y5 := hp_cell (P2.out.bw C.out) 5
      have y6 := hp_cell (P2.out.bw C.out) 6
      have y7 := hp_cell (P2.out.bw C.out) 7
      have y8 := hp_cell (P2.out.bw C.out) 8
      have y9 := hp_cell (P2.out.bw C.out) 9
      have y10 := hp_cell (P2.out.bw C.out) 10
      simp only [List.getElem?_toArray, List.getElem?_cons_zero, List.getElem?_cons_succ] at y0 y1 y2 y3 y4 y5 y6 y7 y8 y9 y10
      have v1 := conv_sb (E1.out.bw C.out)
      have v2 := conv_sb (E2.out.bw C.out)
      have v3 := conv_sb (D1.out.bw C.out)
      have v4 := conv_sb (D2.out.bw C.out)
      generalize bstr ex = sx at *
      generalize bstr pl = sy at *
      go_wp2_with fail
      go_ret
      exact ⟨rfl, B.out.trans C.out⟩
end Go.Proofs.Ytgiajnfmjpdodaa
