/- The reference's bytes of any packet, or that it may not be. No condition but the sizes'. -/
import Derived.Test.YtikmhlbpefednaaGreatGRd
import Derived.Test.YtikmhlbpefednaaGreatGRn
namespace Go.Proofs.YtikmhlbpefednaaGreat
open Go.RowKit
def RefWritePost (d : RtpD) (w : World) (e : Ending) (w' : World) : Prop :=
 ((∃ b v, writeN d = some b ∧ e = .returned (.tuple #[v, .bool true]) ∧ OB w' w.heap.size 5 v b.length b) ∨ (writeN d = none ∧ e = .returned (.tuple #[.slice none 0 0, .bool false]))) ∧ BW w w'
set_option maxRecDepth 100000 in
set_option maxHeartbeats 8000000 in
theorem refWrite_any (c : Array Value) (d : RtpD) (w : World) (h : RtpV w c d) (wf : RtpWf d) (hpl : d.payload.length ≤ 1000000) : Calls Tryz.prog 35 #[.agg c] w (RefWritePost d w) := by
 obtain ⟨so_, co, se, ce, sp, cp, rfl, N, E, D⟩ := h.open
 have hN := N.len
 have hE := E.len
 have hD := D.len
 obtain ⟨mk, ty, sq, st, so, ot, xb, pf, ex, pl, pd⟩ := d
 have hw := Lib.hid wf
 obtain ⟨i1, i2, i3, i4, i5, i6, i7, i8, i9⟩ := wf
 dsimp only at *
 obtain ⟨_, _, e1, n1, m1⟩ := hN
 obtain ⟨_, _, e2, n2, m2⟩ := hE
 obtain ⟨_, _, e3, n3, m3⟩ := hD
 simp only [Value.slice.injEq, true_and] at e1 e2 e3
 obtain ⟨rfl, rfl⟩ := e1
 obtain ⟨rfl, rfl⟩ := e2
 obtain ⟨rfl, rfl⟩ := e3
 unfold maxLen at m1 m2 m3
 have hmay : mayN ⟨mk, ty, sq, st, so, ot, xb, pf, ex, pl, pd⟩ = decide (ty < 128 ∧ ot.length ≤ 15 ∧ ex.length % 4 = 0 ∧ ex.length ≤ 1020 ∧ (xb = true ∨ (ex.length = 0 ∧ pf = 0))) := rfl
 have hfst : firstB ⟨mk, ty, sq, st, so, ot, xb, pf, ex, pl, pd⟩ = 128 + (if 0 < pd then 32 else 0) + (if xb = true then 16 else 0) + ot.length := rfl
 have hsnd : secondN ⟨mk, ty, sq, st, so, ot, xb, pf, ex, pl, pd⟩ = ty + (if mk = true then 128 else 0) := rfl
 have hbt := bytesN_eq ⟨mk, ty, sq, st, so, ot, xb, pf, ex, pl, pd⟩
 have hhd := headN_eq ⟨mk, ty, sq, st, so, ot, xb, pf, ex, pl, pd⟩
 have hhl := headN_len ⟨mk, ty, sq, st, so, ot, xb, pf, ex, pl, pd⟩
 have hwr : writeN ⟨mk, ty, sq, st, so, ot, xb, pf, ex, pl, pd⟩ = if mayN ⟨mk, ty, sq, st, so, ot, xb, pf, ex, pl, pd⟩ = true ∧ (bytesN ⟨mk, ty, sq, st, so, ot, xb, pf, ex, pl, pd⟩).length ≤ 1200 then some (bytesN ⟨mk, ty, sq, st, so, ot, xb, pf, ex, pl, pd⟩) else none := rfl
 have hxt : extN ⟨mk, ty, sq, st, so, ot, xb, pf, ex, pl, pd⟩ = if xb = true then putB 2 pf ++ (putB 2 (ex.length / 4) ++ ex) else [] := rfl
 have hby : mayN ⟨mk, ty, sq, st, so, ot, xb, pf, ex, pl, pd⟩ = true → ByL (bytesN ⟨mk, ty, sq, st, so, ot, xb, pf, ex, pl, pd⟩) := bytesN_byt _ hw.out
 dsimp only at hbt hhd
 clear i7 i8 hw
 generalize (⟨mk, ty, sq, st, so, ot, xb, pf, ex, pl, pd⟩ : RtpD) = dd at *
 generalize firstB dd = F at *
 generalize secondN dd = S at *
 generalize headN dd = H at *
 generalize bytesN dd = BT at *
 generalize extN dd = XT at *
 generalize hno : ot.length = no at *
 generalize hne : ex.length = ne at *
 generalize hnp : pl.length = np at *
 replace hno := Lib.hid hno
 replace hne := Lib.hid hne
 replace hnp := Lib.hid hnp
 replace hmay := Lib.hid hmay
 replace hfst := Lib.hid hfst
 replace hsnd := Lib.hid hsnd
 replace hbt := Lib.hid hbt
 replace hhd := Lib.hid hhd
 replace hwr := Lib.hid hwr
 replace hxt := Lib.hid hxt
 have P1 := Lib.hid (PkV.made w (rtpC mk ty sq st so (.slice so_ no co) xb pf (.slice se ne ce) (.slice sp np cp) pd))
 have B1 : Hid (BW w (w.alloc (.cells (rtpC mk ty sq st so (.slice so_ no co) xb pf (.slice se ne ce) (.slice sp np cp) pd) 37))) := (BW.refl w).alloc
 have V1 := Lib.hid (h.bw B1.out)
 have N1 := Lib.hid (N.bw B1.out)
 have E1 := Lib.hid (E.bw B1.out)
 have D1 := Lib.hid (D.bw B1.out)
 have N0 := Lib.hid N
 have E0 := Lib.hid E
 have D0 := Lib.hid D
 clear N E D h
 simp only [rtpC] at *
 go_enter Tryz.func35, Tryz.ntmps35
 go_upto_region 1 with (fail)
 generalize w.alloc (.cells #[.bool mk, .int .u8 (ty : Nat), .int .u16 (sq : Nat), .int .u32 (st : Nat), .int .u32 (so : Nat), .slice so_ no co, .bool xb, .int .u16 (pf : Nat), .slice se ne ce, .slice sp np cp, .int .u8 (pd : Nat)] 37) = w1_ at *
 have z0 := hp_cell (P1.out) 0
 have z1 := hp_cell (P1.out) 1
 have z2 := hp_cell (P1.out) 2
 have z3 := hp_cell (P1.out) 3
 have z4 := hp_cell (P1.out) 4
 have z5 := hp_cell (P1.out) 5
 have z6 := hp_cell (P1.out) 6
 have z7 := hp_cell (P1.out) 7
 have z8 := hp_cell (P1.out) 8
 have z9 := hp_cell (P1.out) 9
 have z10 := hp_cell (P1.out) 10
 simp only [List.getElem?_toArray, List.getElem?_cons_zero, List.getElem?_cons_succ] at z0 z1 z2 z3 z4 z5 z6 z7 z8 z9 z10
 by_cases hA : ty < 128
 case neg =>
  have d1 : decide ((127 : Int) < (ty : Int)) = true := by simp; omega
  have hwn := Lib.hid (writeN_no (d := dd) (by rw [hmay.out, decide_eq_false (by omega)]))
  go_wp2_with fail
  go_ret2
  exact ⟨.inr ⟨hwn.out, rfl⟩, B1.out⟩
 have d1 : decide ((127 : Int) < (ty : Int)) = false := by simp; omega
 by_cases hB : no ≤ 15
 case neg =>
  have d2 : decide ((15 : Int) < (no : Int)) = true := by simp; omega
  have hwn := Lib.hid (writeN_no (d := dd) (by rw [hmay.out, decide_eq_false (by omega)]))
  go_wp2_with fail
  go_ret2
  exact ⟨.inr ⟨hwn.out, rfl⟩, B1.out⟩
 have d2 : decide ((15 : Int) < (no : Int)) = false := by simp; omega
 by_cases hC : ne % 4 = 0
 case neg =>
  have d3 : ((ne : Int) % 4 != 0) = true := by simp; omega
  have hwn := Lib.hid (writeN_no (d := dd) (by rw [hmay.out, decide_eq_false (by omega)]))
  go_wp2_with fail
  go_ret2
  exact ⟨.inr ⟨hwn.out, rfl⟩, B1.out⟩
 have d3 : ((ne : Int) % 4 != 0) = false := by simp; omega
 by_cases hD : ne ≤ 1020
 case neg =>
  have d4 : decide ((1020 : Int) < (ne : Int)) = true := by simp; omega
  have hwn := Lib.hid (writeN_no (d := dd) (by rw [hmay.out, decide_eq_false (by omega)]))
  go_wp2_with fail
  go_ret2
  exact ⟨.inr ⟨hwn.out, rfl⟩, B1.out⟩
 have d4 : decide ((1020 : Int) < (ne : Int)) = false := by simp; omega
 by_cases hE : xb = true ∨ (ne = 0 ∧ pf = 0)
 case neg =>
  have hx : xb = false := by
   cases xb with
   | true => exact absurd (.inl rfl) hE
   | false => rfl
  have hwn := Lib.hid (writeN_no (d := dd) (by rw [hmay.out]; exact decide_eq_false (fun h => hE h.2.2.2.2)))
  by_cases hn0 : 0 < ne
  ·go_wp2_with fail
   go_ret2
   exact ⟨.inr ⟨hwn.out, rfl⟩, B1.out⟩
  ·have hn1 : ne = 0 := by omega
   have hp1 : 0 < pf := by
    rcases Nat.eq_zero_or_pos pf with h | h
    ·exact absurd (.inr ⟨hn1, h⟩) hE
    ·exact h
   clear hE
   go_wp2_with fail
   go_ret2
   exact ⟨.inr ⟨hwn.out, rfl⟩, B1.out⟩
 have hm : mayN dd = true := by rw [hmay.out]; exact decide_eq_true ⟨hA, hB, hC, hD, hE⟩
 have hBT := Lib.hid (hby hm)
 have hwr2 : Hid (writeN dd = if BT.length ≤ 1200 then some BT else none) := by
  show _ = _
  rw [hwr.out, hm]
  by_cases q : BT.length ≤ 1200
  ·rw [if_pos ⟨rfl, q⟩, if_pos q]
  ·rw [if_neg (fun h => q h.2), if_neg q]
 clear hby hwr hm hmay
 have key : xb = true ∨ xb = false ∧ ne = 0 ∧ pf = 0 := by
  cases xb with
  | true => exact .inl rfl
  | false => exact .inr ⟨rfl, hE.resolve_left (by decide)⟩
 clear hE
 rcases key with hx | ⟨hx, hn0, hp0⟩
 all_goals go_upto_region 3 with (fail)
 all_goals clear d1 d2 d3 d4 hx
 all_goals try clear hn0 hp0
 all_goals clear z0 z1 z2 z3 z4 z5 z6 z7 z8 z9 z10
 all_goals generalize hgp : decide (0 < pd) = gp at *
 all_goals
  clear V1 N1 E1 D1
  have hFl : F = 128 + no + fl gp 32 + fl xb 16 := by
   rw [hfst.out]
   unfold fl
   rw [← hgp]
   by_cases q : 0 < pd <;> cases xb <;> simp [q] <;> omega
  have hSl : S = ty + fl mk 128 := by
   rw [hsnd.out]; rfl
  have hFb : F < 256 := by rw [hfst.out]; split <;> split <;> omega
  have hSb : S < 256 := by rw [hsnd.out]; split <;> omega
  replace hFl := Lib.hid hFl
  replace hSl := Lib.hid hSl
  have z0 := hp_cell (P1.out) 0
  have z1 := hp_cell (P1.out) 1
  have z2 := hp_cell (P1.out) 2
  have z3 := hp_cell (P1.out) 3
  have z4 := hp_cell (P1.out) 4
  have z5 := hp_cell (P1.out) 5
  have z6 := hp_cell (P1.out) 6
  have z7 := hp_cell (P1.out) 7
  have z8 := hp_cell (P1.out) 8
  have z9 := hp_cell (P1.out) 9
  have z10 := hp_cell (P1.out) 10
  simp only [List.getElem?_toArray, List.getElem?_cons_zero, List.getElem?_cons_succ] at z0 z1 z2 z3 z4 z5 z6 z7 z8 z9 z10
  have l1 := fun x : LaterS [] w1_ => x.cell z1 (by simp)
  have l5 := fun x : LaterS [] w1_ => x.cell z5 (by simp)
  clear z0 z1 z2 z3 z4 z5 z6 z7 z8 z9 z10
  have q1 : IntKind.i64.wrap (128 + (no : Int)) = 128 + (no : Int) := IntWalk.i64_in _ (by omega)
  have q2 : IntKind.u8.wrap (128 + (no : Int)) = 128 + (no : Int) := IntWalk.u8_in _ (by omega)
  have un : (no : Int) ≤ 15 := by omega
  have uty : (ty : Int) ≤ 127 := by omega
  refine wp_region_gg [] [] [] (by kernel_rfl) ?_
  refine hoist [] [] (a1 := ?_) 0 rfl (by kernel_rfl) (.inl ⟨rfl, rfl⟩) rfl rfl rfl (fun x K hK => ?_) ?_
  rotate_left
  ·go_big_quiet_op
   exact hK
  refine hoist [] [] (a1 := ?_) 1 rfl (by kernel_rfl) (.inl ⟨rfl, rfl⟩) rfl rfl rfl (fun x K hK => ?_) ?_
  rotate_left
  ·go_big_quiet_op
   exact hK
  refine hoist [] [] (a1 := ?_) 2 rfl (by kernel_rfl) (.inl ⟨rfl, rfl⟩) rfl rfl rfl (fun x K hK => ?_) ?_
  rotate_left
  ·go_big_quiet_op
   exact hK
  refine hoist [] [] (a1 := ?_) 3 rfl (by kernel_rfl) (.inl ⟨rfl, rfl⟩) rfl rfl rfl (fun x K hK => ?_) ?_
  rotate_left
  ·go_big_quiet_op
   exact hK
  refine hoist [] [] (a1 := ?_) 4 rfl (by kernel_rfl) (.inl ⟨rfl, rfl⟩) rfl rfl rfl (fun x K hK => ?_) ?_
  rotate_left
  ·go_big_quiet_op
   exact hK
  refine hoist [] [] (a1 := ?_) 5 rfl (by kernel_rfl) (.inl ⟨rfl, rfl⟩) rfl rfl rfl (fun x K hK => ?_) ?_
  rotate_left
  ·go_big_quiet_op
   exact hK
  refine hoist [] [] (a1 := ?_) 6 rfl (by kernel_rfl) (.inl ⟨rfl, rfl⟩) rfl rfl rfl (fun x K hK => ?_) ?_
  rotate_left
  ·go_big_quiet_op
   exact hK
  refine hoist [] [] (a1 := ?_) 7 rfl (by kernel_rfl) (.inl ⟨rfl, rfl⟩) rfl rfl rfl (fun x K hK => ?_) ?_
  rotate_left
  ·go_big_quiet_op
   exact hK
  refine hoist [] [] (a1 := ?_) 8 rfl (by kernel_rfl) (.inl ⟨rfl, rfl⟩) rfl rfl rfl (fun x K hK => ?_) ?_
  rotate_left
  ·go_big_quiet_op
   exact hK
  refine done (by kernel_rfl) (fun xr => ?_)
  have P3 := P1.out.bw xr.bw
  have B3 := Lib.hid (B1.out.trans xr.bw)
  replace P3 := Lib.hid P3
  clear P1 B1 q1 q2 l1 l5
  generalize xr.now = w3_ at *
  have z0 := hp_cell (P3.out) 0
  have z1 := hp_cell (P3.out) 1
  have z2 := hp_cell (P3.out) 2
  have z3 := hp_cell (P3.out) 3
  have z4 := hp_cell (P3.out) 4
  have z5 := hp_cell (P3.out) 5
  have z6 := hp_cell (P3.out) 6
  have z7 := hp_cell (P3.out) 7
  have z8 := hp_cell (P3.out) 8
  have z9 := hp_cell (P3.out) 9
  have z10 := hp_cell (P3.out) 10
  simp only [List.getElem?_toArray, List.getElem?_cons_zero, List.getElem?_cons_succ] at z0 z1 z2 z3 z4 z5 z6 z7 z8 z9 z10
  go_upto_if 56 with (fail)
  go_cut [4] (fun v wx => ∃ x : Nat, v = .int .u8 (x : Nat) ∧ Hid (x = 128 + no + fl gp 32) ∧ x ≤ 175 ∧ wx = w3_)
  case first =>
   cases gp
   ·go_wp2_with fail
    go_meet
    exact ⟨128 + no, by push_cast; rfl, Lib.hid (by simp [fl]), by omega, rfl⟩
   ·go_wp2_with fail
    go_meet
    exact ⟨128 + no + 32, by push_cast; rfl, Lib.hid (by simp [fl]), by omega, rfl⟩
  obtain ⟨x4, rfl, hx4, bx4, hwx⟩ := hcut
  obtain ⟨wcc, rfl⟩ : ∃ x, x = wc := ⟨_, rfl⟩
  obtain rfl : w3_ = wcc := hwx.symm
  go_upto_if 60 with (fail)
  go_cut [4] (fun v wx => ∃ x : Nat, v = .int .u8 (x : Nat) ∧ Hid (x = x4 + fl xb 16) ∧ x ≤ 191 ∧ wx = w3_)
  case first =>
   cases xb
   ·go_wp2_with fail
    go_meet
    exact ⟨x4, rfl, Lib.hid (by simp [fl]), by omega, rfl⟩
   ·go_wp2_with fail
    go_meet
    exact ⟨x4 + 16, by push_cast; rfl, Lib.hid (by simp [fl]), by omega, rfl⟩
  obtain ⟨x5, rfl, hx5, bx5, hwx⟩ := hcut
  obtain ⟨wcc, rfl⟩ : ∃ x, x = wc := ⟨_, rfl⟩
  obtain rfl : w3_ = wcc := hwx.symm
  go_upto_if 64 with (fail)
  go_cut [5] (fun v wx => ∃ x : Nat, v = .int .u8 (x : Nat) ∧ Hid (x = ty + fl mk 128) ∧ x ≤ 255 ∧ wx = w3_)
  case first =>
   cases mk
   ·go_wp2_with fail
    go_meet
    exact ⟨ty, rfl, Lib.hid (by simp [fl]), by omega, rfl⟩
   ·go_wp2_with fail
    go_meet
    exact ⟨ty + 128, by push_cast; rfl, Lib.hid (by simp [fl]), by omega, rfl⟩
  obtain ⟨x6, rfl, hx6, bx6, hwx⟩ := hcut
  obtain ⟨wcc, rfl⟩ : ∃ x, x = wc := ⟨_, rfl⟩
  obtain rfl : w3_ = wcc := hwx.symm
  have e5 : x5 = F := by rw [hx5.out, hx4.out, hFl.out]
  have e6 : x6 = S := by rw [hx6.out, hSl.out]
  subst e5 e6
  clear hx4 hx5 hx6 bx4 bx5 bx6
  clear z0 z1 z2 z3 z4 z5 z6 z7 z8 z9 z10
  go_upto_region 11 with (fail)
  have O4 := Lib.hid (OB.new w3_ w.heap.size [x5, x6] 2 B3.out.size rfl (by decide) (fun x hx => by simp at hx; omega))
  have BA : BW w3_ (w3_.alloc (.cells (ivA .u8 [x5, x6]) 5)) := (BW.refl _).alloc
  have P4 := Lib.hid (P3.out.bw BA)
  have B4 := Lib.hid (B3.out.trans BA)
  clear BA P3 B3
  generalize hww : w3_.alloc (.cells (ivA .u8 [x5, x6]) 5) = w4_ at *
  rw [show w3_.alloc (.cells #[.int .u8 (x5 : Nat), .int .u8 (x6 : Nat)] 5) = w4_ from hww]
  clear hww
  have u2 : (sq : Int) ≤ 65535 := by omega
  have u4 : (st : Int) ≤ 4294967295 := by omega
  have u8 : (so : Int) ≤ 4294967295 := by omega
  have z2 := hp_cell P4.out 2
  simp only [List.getElem?_toArray, List.getElem?_cons_zero, List.getElem?_cons_succ] at z2
  go_wp2_with fail
  refine Calls.mono (rput_ok _ 2 [x5, x6] 2 sq 2 (by decide) (by decide) rfl (by omega) (by omega) w4_ O4.out.sb) ?_
  rintro e w5_ ⟨v4, rfl, OX, hb⟩
  replace OX : OB w5_ w4_.heap.size 5 v4 4 ([x5, x6] ++ putB 2 sq) := OX
  obtain ⟨s4, c4, rfl, hc4, hm4⟩ := OX.len
  unfold maxLen at hm4
  have bw : BW w4_ w5_ := hb
  have O5 := Lib.hid (OX.up B4.out.size)
  have P5 := Lib.hid (P4.out.bw bw)
  have B5 := Lib.hid (B4.out.trans bw)
  clear hb bw OX O4 P4 B4 z2
  dsimp only
  have z3 := hp_cell P5.out 3
  simp only [List.getElem?_toArray, List.getElem?_cons_zero, List.getElem?_cons_succ] at z3
  go_wp2_with fail
  refine Calls.mono (rput_ok _ 4 _ 4 st 4 (by decide) (by decide) rfl (by omega) (by omega) w5_ O5.out.sb) ?_
  rintro e w6_ ⟨v5, rfl, OX, hb⟩
  replace OX : OB w6_ w5_.heap.size 5 v5 8 (([x5, x6] ++ putB 2 sq) ++ putB 4 st) := OX
  obtain ⟨s5, c5, rfl, hc5, hm5⟩ := OX.len
  unfold maxLen at hm5
  have bw : BW w5_ w6_ := hb
  have O6 := Lib.hid (OX.up B5.out.size)
  have P6 := Lib.hid (P5.out.bw bw)
  have B6 := Lib.hid (B5.out.trans bw)
  clear hb bw OX O5 P5 B5 z3
  dsimp only
  have z4 := hp_cell P6.out 4
  simp only [List.getElem?_toArray, List.getElem?_cons_zero, List.getElem?_cons_succ] at z4
  go_wp2_with fail
  refine Calls.mono (rput_ok _ 8 _ 4 so 4 (by decide) (by decide) rfl (by omega) (by omega) w6_ O6.out.sb) ?_
  rintro e w7_ ⟨v6, rfl, OX, hb⟩
  replace OX : OB w7_ w6_.heap.size 5 v6 12 ((([x5, x6] ++ putB 2 sq) ++ putB 4 st) ++ putB 4 so) := OX
  obtain ⟨s6, c6, rfl, hc6, hm6⟩ := OX.len
  unfold maxLen at hm6
  have bw : BW w6_ w7_ := hb
  have O7 := Lib.hid (OX.up B6.out.size)
  have P7 := Lib.hid (P6.out.bw bw)
  have B7 := Lib.hid (B6.out.trans bw)
  clear hb bw OX O6 P6 B6 z4
  dsimp only
  replace O7 := O7.out
  rw [hhd.out] at O7
  replace O7 := Lib.hid O7
  have z5 := hp_cell P7.out 5
  simp only [List.getElem?_toArray, List.getElem?_cons_zero, List.getElem?_cons_succ] at z5
  go_upto_region 15 with (fail)
  clear z5
  have N7 := Lib.hid (N0.out.bw B7.out)
  go_loopg [6, 7] no (fun m' v i wx => ∃ (j : Nat) (s : Option Addr) (c : Nat), m' = no - j ∧ j ≤ no ∧ i = .int .i64 (j : Nat) ∧ v = .slice s (12 + 4 * j) c ∧ c ≤ 9223372036854775807 ∧ Hid (OB wx w.heap.size 5 (.slice s (12 + 4 * j) c) (12 + 4 * j) (H ++ othN (ot.take j))) ∧ Hid (PkV wx w.heap.size #[.bool mk, .int .u8 (ty : Nat), .int .u16 (sq : Nat), .int .u32 (st : Nat), .int .u32 (so : Nat), .slice so_ no co, .bool xb, .int .u16 (pf : Nat), .slice se ne ce, .slice sp np cp, .int .u8 (pd : Nat)]) ∧ Hid (NB wx .u32 (.slice so_ no co) no (nz ot)) ∧ Hid (BW w wx))
  case atStart => exact ⟨0, s6, c6, by omega, by omega, rfl, rfl, by omega, by rw [List.take_zero]; show OB _ _ _ _ _ (H ++ []); rw [List.append_nil]; exact O7.out, P7, N7, B7⟩
  case round =>
   clear O7 P7 N7 B7
   obtain ⟨j, s, c, rfl, hj, rfl, rfl, hcc, O, P, N, B⟩ := hrel
   have z5 := hp_cell P.out 5
   simp only [List.getElem?_toArray, List.getElem?_cons_zero, List.getElem?_cons_succ] at z5
   by_cases hjn : j < no
   ·obtain ⟨b1, o1, q1, hs1, _, _, hb1, hc1⟩ := N.out.form (by omega)
    simp only [Value.slice.injEq] at hs1
    obtain ⟨rfl, -, rfl⟩ := hs1
    have k1 := hc1 j hjn
    clear hc1
    have hnx : (nz ot).getD j 0 = ((ot.getD j 0 : Nat) : Int) := by
     unfold nz
     rw [List.getD_eq_getElem?_getD, List.getElem?_map, List.getD_eq_getElem?_getD, List.getElem?_eq_getElem (by have := hno.out; omega)]; rfl
    rw [hnx] at k1
    have hxb : ot.getD j 0 < 4294967296 := by
     rw [List.getD_eq_getElem?_getD, List.getElem?_eq_getElem (by have := hno.out; omega)]
     exact i5 _ (List.getElem_mem _)
    have hot := othN_take ot j (by have := hno.out; omega)
    generalize ot.getD j 0 = X at *
    have uX : (X : Int) ≤ 4294967295 := by omega
    replace hot := Lib.hid hot
    replace hnx := Lib.hid hnx
    go_wp2_with fail
    refine Calls.mono (rput_ok _ (12 + 4 * j) _ 4 X 4 (by decide) (by decide) rfl (by omega) (by omega) wr O.out.sb) ?_
    rintro e wn ⟨v2, rfl, O2, hb⟩
    replace O2 : OB wn wr.heap.size 5 v2 (12 + 4 * (j + 1)) (H ++ othN (ot.take j) ++ putB 4 X) := O2
    rw [List.append_assoc, hot.out] at O2
    obtain ⟨s2, c2, rfl, hc2, hm2⟩ := O2.len
    unfold maxLen at hm2
    have bw : BW wr wn := hb
    have O3 := Lib.hid (O2.up B.out.size)
    have P3 := Lib.hid (P.out.bw bw)
    have N3 := Lib.hid (N.out.bw bw)
    have B3 := Lib.hid (B.out.trans bw)
    clear hb bw O2 O P N B k1 z5
    dsimp only
    go_wp2_with fail
    go_roundg (no - (j + 1))
    case measure => omega
    case rel => exact ⟨j + 1, s2, c2, rfl, by omega, by push_cast; rfl, rfl, by omega, O3, P3, N3, B3⟩
   ·obtain rfl : j = no := by omega
    clear hjn
    obtain ⟨wk, rfl⟩ : ∃ x, x = wr := ⟨_, rfl⟩
    have O1 : Hid (OB wk w.heap.size 5 (.slice s (12 + 4 * j) c) (12 + 4 * j) (H ++ othN ot)) := by
     have := O.out
     rw [List.take_of_length_le (by have := hno.out; omega)] at this
     exact this
    have hm0 : 12 + 4 * j ≤ 72 := by omega
    clear O N i5 hj z5
    generalize 12 + 4 * j = m0 at *
    have z0 := hp_cell (P.out) 0
    have z1 := hp_cell (P.out) 1
    have z2 := hp_cell (P.out) 2
    have z3 := hp_cell (P.out) 3
    have z4 := hp_cell (P.out) 4
    have z5 := hp_cell (P.out) 5
    have z6 := hp_cell (P.out) 6
    have z7 := hp_cell (P.out) 7
    have z8 := hp_cell (P.out) 8
    have z9 := hp_cell (P.out) 9
    have z10 := hp_cell (P.out) 10
    simp only [List.getElem?_toArray, List.getElem?_cons_zero, List.getElem?_cons_succ] at z0 z1 z2 z3 z4 z5 z6 z7 z8 z9 z10
    have hnel : (ne : Int) ≤ 1020 := by omega
    have hpfb : (pf : Int) ≤ 65535 := by omega
    go_upto_if 101 with (fail)
    go_cut [6] (fun v wx => ∃ (m : Nat) (s' : Option Addr) (c' : Nat), v = .slice s' m c' ∧ c' ≤ 9223372036854775807 ∧ m ≤ 2000 ∧ Hid (OB wx w.heap.size 5 (.slice s' m c') m ((H ++ othN ot) ++ XT)) ∧ Hid (PkV wx w.heap.size #[.bool mk, .int .u8 (ty : Nat), .int .u16 (sq : Nat), .int .u32 (st : Nat), .int .u32 (so : Nat), .slice so_ j co, .bool xb, .int .u16 (pf : Nat), .slice se ne ce, .slice sp np cp, .int .u8 (pd : Nat)]) ∧ Hid (BW w wx))
    case first =>
     cases xb
     ·have hX : XT = [] := by rw [hxt.out]; rfl
      replace hX := Lib.hid hX
      go_wp2_with fail
      go_meet
      exact ⟨m0, s, c, rfl, hcc, by omega, by rw [hX.out, List.append_nil]; exact O1.out, P, B⟩
     ·have hX : XT = putB 2 pf ++ (putB 2 (ne / 4) ++ ex) := by rw [hxt.out]; rfl
      replace hX := Lib.hid hX
      have q5 : (ne : Int) / 4 ≤ 255 := by omega
      have q6 : (0 : Int) ≤ (ne : Int) / 4 := by omega
      have cq : ∀ (v : Value) (l : List Nat) (wz : World), SB wz v (m0 + 2) l → Hid (Calls Tryz.prog 72 #[v, .int .i64 2, .int .u64 ((ne : Int) / 4)] wz fun e w' => ∃ v', e = .returned v' ∧ OB w' wz.heap.size 5 v' (m0 + 4) (l ++ putB 2 (ne / 4)) ∧ Below wz.heap.size wz w') := fun v l wz hv => by
       have := rput_ok v (m0 + 2) l 2 (ne / 4) 2 (by decide) (by decide) rfl (by omega) (by omega) wz hv
       rw [show ((ne / 4 : Nat) : Int) = (ne : Int) / 4 by omega] at this
       exact this
      go_wp2_with fail
      refine Calls.mono (rput_ok _ m0 _ 2 pf 2 (by decide) (by decide) rfl (by omega) (by omega) wk O1.out.sb) ?_
      rintro e wa ⟨v4, rfl, O4, hb⟩
      obtain ⟨t4, d4, rfl, hc4, hm4⟩ := O4.len
      have bw : BW wk wa := hb
      have P4 := P.out.bw bw
      have B4 := Lib.hid (B.out.trans bw)
      clear hb bw O1 P B
      clear z0 z1 z2 z3 z4 z5 z6 z7 z8 z9 z10
      have z0 := hp_cell (P4) 0
      have z1 := hp_cell (P4) 1
      have z2 := hp_cell (P4) 2
      have z3 := hp_cell (P4) 3
      have z4 := hp_cell (P4) 4
      have z5 := hp_cell (P4) 5
      have z6 := hp_cell (P4) 6
      have z7 := hp_cell (P4) 7
      have z8 := hp_cell (P4) 8
      have z9 := hp_cell (P4) 9
      have z10 := hp_cell (P4) 10
      simp only [List.getElem?_toArray, List.getElem?_cons_zero, List.getElem?_cons_succ] at z0 z1 z2 z3 z4 z5 z6 z7 z8 z9 z10
      replace P4 := Lib.hid P4
      replace O4 := Lib.hid O4
      dsimp only
      go_wp2_with fail
      refine Calls.mono (cq _ _ wa O4.out.sb).out ?_
      rintro e wb ⟨v8, rfl, O8, hb⟩
      obtain ⟨t8, d8, rfl, hc8, hm8⟩ := O8.len
      unfold maxLen at hm8
      have bw : BW wa wb := hb
      have P9 := P4.out.bw bw
      have O9 := Lib.hid (O8.up B4.out.size)
      have B9 := Lib.hid (B4.out.trans bw)
      clear hb bw O4 O8 P4 B4 cq q5 q6
      clear z0 z1 z2 z3 z4 z5 z6 z7 z8 z9 z10
      have z8 := hp_cell P9 8
      simp only [List.getElem?_toArray, List.getElem?_cons_zero, List.getElem?_cons_succ] at z8
      have hni := O9.out.notin P9 (by decide)
      have E9 := Lib.hid (E0.out.bw B9.out)
      replace P9 := Lib.hid P9
      dsimp only
      have hz9 := B9.out.size
      go_wp2_with (at_builtin; go_must (refine wpList_apOB rfl _ _ rfl w.heap.size _ (m0 + 4) _ rfl O9.out _ rfl ne ex E9.out (by omega) hz9 ?_; intro s5 c5 w5 hc5 hm5 O5 T5 hb G5; unfold maxLen at hm5; have P5 := Lib.hid (P9.out.still T5 hni); have B5 := Lib.hid (B9.out.step hb (Nat.le_refl _)); replace O5 := Lib.hid O5; clear T5 hb G5 O9 P9 B9 hni E9 z8))
      go_meet
      refine ⟨m0 + 4 + ne, s5, c5, rfl, by omega, by omega, ?_, P5, B5⟩
      have h5 := O5.out
      rw [hX.out]
      simp only [List.append_assoc] at h5 ⊢
      exact h5
    clear z0 z1 z2 z3 z4 z5 z6 z7 z8 z9 z10
    clear O1 P B
    obtain ⟨m, s', c', rfl, hcc', hm2, O, P, B⟩ := hcut
    obtain ⟨wl, rfl⟩ : ∃ x, x = wc := ⟨_, rfl⟩
    have z9 := hp_cell P.out 9
    simp only [List.getElem?_toArray, List.getElem?_cons_zero, List.getElem?_cons_succ] at z9
    have hni := O.out.notin P.out (by decide)
    have D9 := Lib.hid (D0.out.bw B.out)
    have hz5 := B.out.size
    go_wp2_with (at_builtin; go_must (refine wpList_apOB rfl _ _ rfl w.heap.size _ m _ rfl O.out _ rfl np pl D9.out (by omega) hz5 ?_; intro s5 c5 w5 hc5 hm5 O5 T5 hb G5; unfold maxLen at hm5; have P5 := Lib.hid (P.out.still T5 hni); have B5 := Lib.hid (B.out.step hb (Nat.le_refl _)); replace O5 := Lib.hid O5; clear T5 hb G5 O P B hni D9 z9 hz5))
    generalize hm5 : m + np = m5 at *
    have hm6 : m5 ≤ 2000000 := by omega
    replace hm5 := Lib.hid hm5
    generalize hLL : H ++ othN ot ++ XT ++ pl = LL at *
    replace hLL := Lib.hid hLL
    go_loopg [6, 8] pd (fun m' v i wx => ∃ (q : Nat) (s : Option Addr) (c : Nat), m' = pd - q ∧ (q = 0 ∨ q + 1 ≤ pd) ∧ i = .int .i64 ((q + 1 : Nat) : Int) ∧ v = .slice s (m5 + q) c ∧ c ≤ 9223372036854775807 ∧ Hid (OB wx w.heap.size 5 (.slice s (m5 + q) c) (m5 + q) (LL ++ List.replicate q 0)) ∧ Hid (PkV wx w.heap.size #[.bool mk, .int .u8 (ty : Nat), .int .u16 (sq : Nat), .int .u32 (st : Nat), .int .u32 (so : Nat), .slice so_ j co, .bool xb, .int .u16 (pf : Nat), .slice se ne ce, .slice sp np cp, .int .u8 (pd : Nat)]) ∧ Hid (BW w wx))
    case atStart => exact ⟨0, s5, c5, by omega, by omega, rfl, rfl, by omega, by show OB _ _ _ _ _ (LL ++ []); rw [List.append_nil]; exact O5.out, P5, B5⟩
    case round =>
     clear O5 P5 B5
     obtain ⟨q, s, c, rfl, hq, rfl, rfl, hcc, O, P, B⟩ := hrel
     have z10 := hp_cell P.out 10
     simp only [List.getElem?_toArray, List.getElem?_cons_zero, List.getElem?_cons_succ] at z10
     by_cases hqn : q + 1 < pd
     ·have V1 := SB.new1 wr 5 0 (by decide)
      have BA : BW wr (wr.alloc (.cells #[.int .u8 0] 5)) := (BW.refl _).alloc
      have O1 := Lib.hid (O.out.bw BA)
      have P1 := Lib.hid (P.out.bw BA)
      have B1 := Lib.hid (B.out.trans BA)
      have hni := O1.out.notin P1.out (by decide)
      have hz1 := B1.out.size
      have hrep : LL ++ List.replicate q 0 ++ [0] = LL ++ List.replicate (q + 1) 0 := by rw [List.append_assoc, ← List.replicate_succ']
      replace V1 := Lib.hid V1
      replace hrep := Lib.hid hrep
      clear BA O P B
      go_wp2_with (at_builtin; go_must (refine wpList_apOB rfl _ _ rfl w.heap.size _ (m5 + q) _ rfl O1.out _ rfl 1 [0] V1.out (by omega) hz1 ?_; intro s8 c8 w8 hc8 hm8 O8 T8 hb G8; unfold maxLen at hm8; rw [hrep.out] at O8; have P8 := Lib.hid (P1.out.still T8 hni); have B8 := Lib.hid (B1.out.step hb (Nat.le_refl _)); replace O8 := Lib.hid O8; clear T8 hb G8 O1 P1 B1 V1 hni hz1 z10))
      go_roundg (pd - (q + 1))
      case measure => omega
      case rel => exact ⟨q + 1, s8, c8, rfl, by omega, by push_cast; rfl, rfl, by omega, O8, P8, B8⟩
     ·obtain rfl : q = pd - 1 := by omega
      obtain ⟨wm, rfl⟩ : ∃ x, x = wr := ⟨_, rfl⟩
      go_upto_if 134 with (fail)
      go_cut [6] (fun v wx => ∃ (m : Nat) (s' : Option Addr) (c' : Nat), v = .slice s' m c' ∧ c' ≤ 9223372036854775807 ∧ Hid (OB wx w.heap.size 5 (.slice s' m c') m BT) ∧ Hid (BW w wx))
      case first =>
       cases gp
       ·have hp0 : pd = 0 := by simpa using hgp
        have hX : BT = LL ++ List.replicate (pd - 1) 0 := by
         rw [hbt.out, hp0]; rfl
        replace hX := Lib.hid hX
        clear hp0
        go_wp2_with fail
        go_meet
        exact ⟨_, s, c, rfl, hcc, by rw [hX.out]; exact O.out, B⟩
       ·have hp0 : 0 < pd := by simpa using hgp
        have hX : BT = LL ++ List.replicate (pd - 1) 0 ++ [pd] := by
         rw [hbt.out]; unfold padN zeros; rw [if_pos hp0, ← List.append_assoc]
        have V1 := SB.new1 wm 5 pd (by omega)
        have BA : BW wm (wm.alloc (.cells #[.int .u8 (pd : Nat)] 5)) := (BW.refl _).alloc
        have O1 := Lib.hid (O.out.bw BA)
        have B1 := Lib.hid (B.out.trans BA)
        have hz1 := B1.out.size
        replace V1 := Lib.hid V1
        replace hX := Lib.hid hX
        clear BA O P B
        go_wp2_with (at_builtin; go_must (refine wpList_apOB rfl _ _ rfl w.heap.size _ (m5 + (pd - 1)) _ rfl O1.out _ rfl 1 [pd] V1.out (by omega) hz1 ?_; intro s8 c8 w8 hc8 hm8 O8 T8 hb G8; unfold maxLen at hm8; have B8 := Lib.hid (B1.out.step hb (Nat.le_refl _)); replace O8 := Lib.hid O8; clear T8 hb G8 O1 B1 V1 hz1 z10))
        go_meet
        exact ⟨_, s8, c8, rfl, by omega, by rw [hX.out]; exact O8.out, B8⟩
      clear O P B z10
      obtain ⟨m, s', c', rfl, hcc', O, B⟩ := hcut
      obtain ⟨wn, rfl⟩ : ∃ x, x = wc := ⟨_, rfl⟩
      have hl := Lib.hid O.out.1
      by_cases hL : m ≤ 1200
      ·have d : decide ((1200 : Int) < (m : Int)) = false := by simp; omega
       go_wp2_with fail
       go_ret2
       exact ⟨.inl ⟨BT, _, by rw [hwr2.out, if_pos (by rw [hl.out]; exact hL)], rfl, by rw [hl.out]; exact O.out⟩, B.out⟩
      ·have d : decide ((1200 : Int) < (m : Int)) = true := by simp; omega
       go_wp2_with fail
       go_ret2
       exact ⟨.inr ⟨by rw [hwr2.out, if_neg (by rw [hl.out]; exact hL)], rfl⟩, B.out⟩
end Go.Proofs.YtikmhlbpefednaaGreat
