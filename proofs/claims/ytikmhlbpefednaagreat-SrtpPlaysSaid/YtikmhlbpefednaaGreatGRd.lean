/- rtp.flag, rtp.may; the first bytes of a packet. No condition but the numbers' own bounds. rtp.Write: the bytes of any packet, or that it may not be. No condition but the sizes'. -/
import Derived.Test.YtikmhlbpefednaaGreatGRc
import Derived.Test.YtikmhlbpefednaaGreatGRa
import Derived.Test.YtikmhlbpefednaaGreatApz
namespace Go.Proofs.YtikmhlbpefednaaGreat
open Go.RowKit
theorem PkV.made (w : World) (c : Array Value) : PkV (w.alloc (.cells c 37)) w.heap.size c := HpB.new w _
def fl (b : Bool) (x : Nat) : Nat := if b then x else 0
theorem or_all : (List.range 16).all (fun k => (bits .or .u8 128 (k : Int) == ((128 + k : Nat) : Int)) && (bits .or .u8 160 (k : Int) == ((160 + k : Nat) : Int)) && (bits .or .u8 144 (k : Int) == ((144 + k : Nat) : Int)) && (bits .or .u8 176 (k : Int) == ((176 + k : Nat) : Int))) = true := by kernel_rfl
theorem or_first (p x : Bool) (k : Nat) (hk : k < 16) : ∃ a1 a2 : Nat, bits .or .u8 128 (fl p 32 : Nat) = (a1 : Nat) ∧ bits .or .u8 (a1 : Nat) (fl x 16 : Nat) = (a2 : Nat) ∧ bits .or .u8 (a2 : Nat) (k : Nat) = ((128 + (if p = true then 32 else 0) + (if x = true then 16 else 0) + k : Nat) : Int) := by
 have a := List.all_eq_true.1 or_all k (List.mem_range.2 hk)
 rw [Bool.and_eq_true, Bool.and_eq_true, Bool.and_eq_true] at a
 obtain ⟨⟨⟨a1, a2⟩, a3⟩, a4⟩ := a
 cases p <;> cases x
 ·exact ⟨128, 128, by kernel_rfl, by kernel_rfl, eq_of_beq a1⟩
 ·exact ⟨128, 144, by kernel_rfl, by kernel_rfl, eq_of_beq a3⟩
 ·exact ⟨160, 160, by kernel_rfl, by kernel_rfl, eq_of_beq a2⟩
 ·exact ⟨160, 176, by kernel_rfl, by kernel_rfl, eq_of_beq a4⟩
theorem or2_all : (List.range 128).all (fun k => (bits .or .u8 (k : Int) 0 == ((k : Nat) : Int)) && (bits .or .u8 (k : Int) 128 == ((k + 128 : Nat) : Int))) = true := by kernel_rfl
theorem or_second (m : Bool) (k : Nat) (hk : k < 128) : bits .or .u8 (k : Nat) (fl m 128 : Nat) = ((k + (if m = true then 128 else 0) : Nat) : Int) := by
 have a := List.all_eq_true.1 or2_all k (List.mem_range.2 hk)
 rw [Bool.and_eq_true] at a
 cases m
 ·exact eq_of_beq a.1
 ·exact eq_of_beq a.2
set_option maxRecDepth 100000 in
set_option maxHeartbeats 8000000 in
theorem flag_ok (b : Bool) (x : Nat) (w : World) : Calls Tryz.prog 68 #[.bool b, .int .u8 (x : Nat)] w fun e w' => e = .returned (.int .u8 (fl b x : Nat)) ∧ w = w' := by
 cases b
 ·go_enter Tryz.func68, Tryz.ntmps68
  go_wp2
  go_ret
  exact ⟨rfl, rfl⟩
 ·go_enter Tryz.func68, Tryz.ntmps68
  go_wp2
  go_ret
  exact ⟨rfl, rfl⟩
set_option maxRecDepth 100000 in
set_option maxHeartbeats 8000000 in
theorem may_ok (c : Array Value) (d : RtpD) (w : World) (h : RtpV w c d) (wf : RtpWf d) : Calls Tryz.prog 67 #[.agg c] w fun e w' => e = .returned (.bool (mayN d)) ∧ BW w w' := by
 obtain ⟨so_, co, se, ce, sp, cp, rfl, N, E, D⟩ := h.open
 have l1 := N.len
 have l2 := E.len
 obtain ⟨mk, ty, sq, st, so, ot, xb, pf, ex, pl, pd⟩ := d
 have w1 := wf.typ
 have w2 := wf.profile
 dsimp only at *
 obtain ⟨_, _, e1, n1, m1⟩ := l1
 obtain ⟨_, _, e2, n2, m2⟩ := l2
 simp only [Value.slice.injEq, true_and] at e1 e2
 obtain ⟨rfl, rfl⟩ := e1
 obtain ⟨rfl, rfl⟩ := e2
 unfold maxLen at m1 m2
 have hm : mayN ⟨mk, ty, sq, st, so, ot, xb, pf, ex, pl, pd⟩ = decide (ty < 128 ∧ ot.length ≤ 15 ∧ ex.length % 4 = 0 ∧ ex.length ≤ 1020 ∧ (xb = true ∨ (ex.length = 0 ∧ pf = 0))) := rfl
 rw [hm]
 clear hm h wf N E D
 generalize ot.length = no at *
 generalize ex.length = ne at *
 generalize pl.length = np at *
 have P1 := PkV.made w (rtpC mk ty sq st so (.slice so_ no co) xb pf (.slice se ne ce) (.slice sp np cp) pd)
 have B1 : Hid (BW w (w.alloc (.cells (rtpC mk ty sq st so (.slice so_ no co) xb pf (.slice se ne ce) (.slice sp np cp) pd) 37))) := (BW.refl w).alloc
 replace P1 := Lib.hid P1
 unfold rtpC at *
 go_enter Tryz.func67, Tryz.ntmps67
 go_upto_region 1 with (fail)
 generalize w.alloc (.cells #[.bool mk, .int .u8 (ty : Nat), .int .u16 (sq : Nat), .int .u32 (st : Nat), .int .u32 (so : Nat), .slice so_ no co, .bool xb, .int .u16 (pf : Nat), .slice se ne ce, .slice sp np cp, .int .u8 (pd : Nat)] 37) = w3 at *
 have z0 := hp_cell (P1.out) 0
 have z1 := hp_cell (P1.out) 1
 have z2 := hp_cell (P1.out) 2
 have z3 := hp_cell (P1.out) 3
 have z4 := hp_cell (P1.out) 4
 have z5 := hp_cell (P1.out) 5
 have z6 := hp_cell (P1.out) 6
 have z7 := hp_cell (P1.out) 7
 have z8 := hp_cell (P1.out) 8
 have z9 := hp_cell (P1.out) 9
 have z10 := hp_cell (P1.out) 10
 simp only [List.getElem?_toArray, List.getElem?_cons_zero, List.getElem?_cons_succ] at z0 z1 z2 z3 z4 z5 z6 z7 z8 z9 z10
 by_cases hA : ty < 128
 case neg =>
  have d1 : decide ((128 : Int) ≤ (ty : Int)) = true := by simp; omega
  go_wp2_with fail
  go_ret
  exact ⟨congrArg (fun b => Ending.returned (.bool b)) (decide_eq_false (by omega)).symm, B1.out⟩
 have d1 : decide ((128 : Int) ≤ (ty : Int)) = false := by simp; omega
 by_cases hB : no ≤ 15
 case neg =>
  have d2 : decide ((15 : Int) < (no : Int)) = true := by simp; omega
  go_wp2_with fail
  go_ret
  exact ⟨congrArg (fun b => Ending.returned (.bool b)) (decide_eq_false (by omega)).symm, B1.out⟩
 have d2 : decide ((15 : Int) < (no : Int)) = false := by simp; omega
 by_cases hC : ne % 4 = 0
 case neg =>
  have d3 : ((ne : Int) % 4 != 0) = true := by simp; omega
  go_wp2_with fail
  go_ret
  exact ⟨congrArg (fun b => Ending.returned (.bool b)) (decide_eq_false (by omega)).symm, B1.out⟩
 have d3 : ((ne : Int) % 4 != 0) = false := by simp; omega
 by_cases hD : ne ≤ 1020
 case neg =>
  have d4 : decide ((1020 : Int) < (ne : Int)) = true := by simp; omega
  go_wp2_with fail
  go_ret
  exact ⟨congrArg (fun b => Ending.returned (.bool b)) (decide_eq_false (by omega)).symm, B1.out⟩
 have d4 : decide ((1020 : Int) < (ne : Int)) = false := by simp; omega
 cases xb
 case true =>
  go_wp2_with fail
  go_ret
  exact ⟨rfl, B1.out⟩
 by_cases hE : ne = 0
 case neg =>
  have d5 : ((ne : Int) == 0) = false := by simp; omega
  go_wp2_with fail
  go_ret
  exact ⟨congrArg (fun b => Ending.returned (.bool b)) (decide_eq_false (by simp; omega)).symm, B1.out⟩
 have d5 : ((ne : Int) == 0) = true := by simp; omega
 by_cases hF : pf = 0
 case neg =>
  have d6 : ((pf : Int) == 0) = false := by simp; omega
  go_wp2_with fail
  go_ret
  exact ⟨congrArg (fun b => Ending.returned (.bool b)) (decide_eq_false (by simp; omega)).symm, B1.out⟩
 have d6 : ((pf : Int) == 0) = true := by simp; omega
 go_wp2_with fail
 go_ret
 exact ⟨congrArg (fun b => Ending.returned (.bool b)) (decide_eq_true ⟨hA, hB, hC, hD, .inr ⟨hE, hF⟩⟩).symm, B1.out⟩
end Go.Proofs.YtikmhlbpefednaaGreat

namespace Go.Proofs.YtikmhlbpefednaaGreat
open Go.RowKit
def WritePost (d : RtpD) (w : World) (e : Ending) (w' : World) : Prop :=
 ((∃ b v, writeN d = some b ∧ e = .returned (.tuple #[v, .int .i64 0]) ∧ OB w' w.heap.size 5 v b.length b) ∨ (writeN d = none ∧ e = .returned (.tuple #[.slice none 0 0, .int .i64 1]))) ∧ BW w w'
theorem writeN_no {d : RtpD} (h : mayN d = false) : writeN d = none := by unfold writeN; rw [if_neg (by rw [h]; simp)]
theorem bytesN_eq (d : RtpD) : bytesN d = (((headN d ++ othN d.others) ++ extN d) ++ d.payload) ++ padN d.pad := by unfold bytesN; simp only [List.append_assoc]
theorem headN_eq (d : RtpD) : (([firstB d, secondN d] ++ putB 2 d.seq) ++ putB 4 d.stamp) ++ putB 4 d.source = headN d := by unfold headN; simp only [List.append_assoc]
theorem othN_take (l : List Nat) (j : Nat) (h : j < l.length) : othN (l.take j) ++ putB 4 (l.getD j 0) = othN (l.take (j + 1)) := by
 rw [List.take_succ_eq_append_getElem h, othN_snoc, List.getD_eq_getElem?_getD, List.getElem?_eq_getElem h]; rfl
theorem NB.cell {w : World} {k : IntKind} {b o n cap : Nat} {l : List Int} (h : NB w k (.slice (some ⟨b, o, Option.none⟩) n cap) n l) (j : Nat) (hj : j < n) : w.cell? ⟨b, o + j, Option.none⟩ = some (.int k (l.getD j 0)) := by
 obtain ⟨b', o', cap', he, _, _, _, hc⟩ := h.form (by omega)
 cases he
 exact hc j hj
set_option maxRecDepth 100000 in
set_option maxHeartbeats 8000000 in
theorem Write_any (c : Array Value) (d : RtpD) (w : World) (h : RtpV w c d) (wf : RtpWf d) (hpl : d.payload.length ≤ 1000000) : Calls Tryz.prog 30 #[.agg c] w (WritePost d w) := by
 obtain ⟨so_, co, se, ce, sp, cp, rfl, N, E, D⟩ := h.open
 have hN := N.len
 have hE := E.len
 have hD := D.len
 obtain ⟨mk, ty, sq, st, so, ot, xb, pf, ex, pl, pd⟩ := d
 have cM := fun wz h => Lib.hid (may_ok (rtpC mk ty sq st so (.slice so_ ot.length co) xb pf (.slice se ex.length ce) (.slice sp pl.length cp) pd) ⟨mk, ty, sq, st, so, ot, xb, pf, ex, pl, pd⟩ wz h wf)
 have hw := Lib.hid wf
 obtain ⟨i1, i2, i3, i4, i5, i6, i7, i8, i9⟩ := wf
 dsimp only at *
 obtain ⟨_, _, e1, n1, m1⟩ := hN
 obtain ⟨_, _, e2, n2, m2⟩ := hE
 obtain ⟨_, _, e3, n3, m3⟩ := hD
 simp only [Value.slice.injEq, true_and] at e1 e2 e3
 obtain ⟨rfl, rfl⟩ := e1
 obtain ⟨rfl, rfl⟩ := e2
 obtain ⟨rfl, rfl⟩ := e3
 unfold maxLen at m1 m2 m3
 have hmay : mayN ⟨mk, ty, sq, st, so, ot, xb, pf, ex, pl, pd⟩ = decide (ty < 128 ∧ ot.length ≤ 15 ∧ ex.length % 4 = 0 ∧ ex.length ≤ 1020 ∧ (xb = true ∨ (ex.length = 0 ∧ pf = 0))) := rfl
 have hfst : firstB ⟨mk, ty, sq, st, so, ot, xb, pf, ex, pl, pd⟩ = 128 + (if 0 < pd then 32 else 0) + (if xb = true then 16 else 0) + ot.length := rfl
 have hsnd : secondN ⟨mk, ty, sq, st, so, ot, xb, pf, ex, pl, pd⟩ = ty + (if mk = true then 128 else 0) := rfl
 have hbt := bytesN_eq ⟨mk, ty, sq, st, so, ot, xb, pf, ex, pl, pd⟩
 have hhd := headN_eq ⟨mk, ty, sq, st, so, ot, xb, pf, ex, pl, pd⟩
 have hhl := headN_len ⟨mk, ty, sq, st, so, ot, xb, pf, ex, pl, pd⟩
 have hwr : writeN ⟨mk, ty, sq, st, so, ot, xb, pf, ex, pl, pd⟩ = if mayN ⟨mk, ty, sq, st, so, ot, xb, pf, ex, pl, pd⟩ = true ∧ (bytesN ⟨mk, ty, sq, st, so, ot, xb, pf, ex, pl, pd⟩).length ≤ 1200 then some (bytesN ⟨mk, ty, sq, st, so, ot, xb, pf, ex, pl, pd⟩) else none := rfl
 have hxt : extN ⟨mk, ty, sq, st, so, ot, xb, pf, ex, pl, pd⟩ = if xb = true then putB 2 pf ++ (putB 2 (ex.length / 4) ++ ex) else [] := rfl
 have hby : mayN ⟨mk, ty, sq, st, so, ot, xb, pf, ex, pl, pd⟩ = true → ByL (bytesN ⟨mk, ty, sq, st, so, ot, xb, pf, ex, pl, pd⟩) := bytesN_byt _ hw.out
 dsimp only at hbt hhd
 clear i7 i8 hw
 generalize (⟨mk, ty, sq, st, so, ot, xb, pf, ex, pl, pd⟩ : RtpD) = dd at *
 generalize firstB dd = F at *
 generalize secondN dd = S at *
 generalize headN dd = H at *
 generalize bytesN dd = BT at *
 generalize extN dd = XT at *
 generalize hno : ot.length = no at *
 generalize hne : ex.length = ne at *
 generalize hnp : pl.length = np at *
 replace hno := Lib.hid hno
 replace hne := Lib.hid hne
 replace hnp := Lib.hid hnp
 replace hmay := Lib.hid hmay
 replace hfst := Lib.hid hfst
 replace hsnd := Lib.hid hsnd
 replace hbt := Lib.hid hbt
 replace hhd := Lib.hid hhd
 replace hwr := Lib.hid hwr
 replace hxt := Lib.hid hxt
 have P1 := Lib.hid (PkV.made w (rtpC mk ty sq st so (.slice so_ no co) xb pf (.slice se ne ce) (.slice sp np cp) pd))
 have B1 : Hid (BW w (w.alloc (.cells (rtpC mk ty sq st so (.slice so_ no co) xb pf (.slice se ne ce) (.slice sp np cp) pd) 37))) := (BW.refl w).alloc
 have V1 := Lib.hid (h.bw B1.out)
 have N1 := Lib.hid (N.bw B1.out)
 have E1 := Lib.hid (E.bw B1.out)
 have D1 := Lib.hid (D.bw B1.out)
 have E0 := Lib.hid E
 have D0 := Lib.hid D
 clear N E D h
 simp only [rtpC] at *
 go_enter Tryz.func30, Tryz.ntmps30
 go_upto_region 1 with (fail)
 generalize w.alloc (.cells #[.bool mk, .int .u8 (ty : Nat), .int .u16 (sq : Nat), .int .u32 (st : Nat), .int .u32 (so : Nat), .slice so_ no co, .bool xb, .int .u16 (pf : Nat), .slice se ne ce, .slice sp np cp, .int .u8 (pd : Nat)] 37) = w1_ at *
 have z0 := hp_cell (P1.out) 0
 have z1 := hp_cell (P1.out) 1
 have z2 := hp_cell (P1.out) 2
 have z3 := hp_cell (P1.out) 3
 have z4 := hp_cell (P1.out) 4
 have z5 := hp_cell (P1.out) 5
 have z6 := hp_cell (P1.out) 6
 have z7 := hp_cell (P1.out) 7
 have z8 := hp_cell (P1.out) 8
 have z9 := hp_cell (P1.out) 9
 have z10 := hp_cell (P1.out) 10
 simp only [List.getElem?_toArray, List.getElem?_cons_zero, List.getElem?_cons_succ] at z0 z1 z2 z3 z4 z5 z6 z7 z8 z9 z10
 go_wp2_with fail
 refine Calls.mono (cM w1_ V1.out).out ?_
 rintro e w2_ ⟨rfl, hb⟩
 clear cM
 clear z0 z1 z2 z3 z4 z5 z6 z7 z8 z9 z10
 have P2 := P1.out.bw hb
 have B2 := Lib.hid (B1.out.trans hb)
 have N2 := Lib.hid (N1.out.bw hb)
 have E2 := Lib.hid (E1.out.bw hb)
 have D2 := Lib.hid (D1.out.bw hb)
 replace P2 := Lib.hid P2
 clear P1 B1 V1 N1 E1 D1 hb
 dsimp only
 by_cases hm : mayN dd = true
 case neg =>
  have hm' : mayN dd = false := by simpa using hm
  rw [hm']
  have hwn := Lib.hid (writeN_no hm')
  clear hm hm'
  go_wp2_with fail
  go_ret2
  exact ⟨.inr ⟨hwn.out, rfl⟩, B2.out⟩
 have hBT := Lib.hid (hby hm)
 obtain ⟨k1, k2, k3, k4, k5⟩ := of_decide_eq_true (hmay.out.symm.trans hm)
 have hwr2 : Hid (writeN dd = if BT.length ≤ 1200 then some BT else none) := by
  show _ = _
  rw [hwr.out, hm]
  by_cases q : BT.length ≤ 1200
  ·rw [if_pos ⟨rfl, q⟩, if_pos q]
  ·rw [if_neg (fun h => q h.2), if_neg q]
 rw [hm]
 clear hby hwr hm hmay
 go_upto_region 3 with (fail)
 obtain ⟨a1, a2, r1, r2, r3⟩ := or_first (decide (0 < pd)) xb no (by omega)
 have r4 := or_second mk ty k1
 rw [show (128 + (if decide (0 < pd) = true then 32 else 0) + (if xb = true then 16 else 0) + no : Nat) = F from by rw [hfst.out]; by_cases hp : 0 < pd <;> simp [hp]] at r3
 rw [← hsnd.out] at r4
 have hFb : F < 256 := by rw [hfst.out]; split <;> split <;> omega
 have hSb : S < 256 := by rw [hsnd.out]; split <;> omega
 generalize hgp : decide (0 < pd) = gp at *
 have c1 := fun wz => Lib.hid (flag_ok gp 32 wz)
 have c2 := fun wz => Lib.hid (flag_ok xb 16 wz)
 have c3 := fun wz => Lib.hid (flag_ok mk 128 wz)
 generalize fl gp 32 = f1 at *
 generalize fl xb 16 = f2 at *
 generalize fl mk 128 = f3 at *
 have z0 := hp_cell (P2.out) 0
 have z1 := hp_cell (P2.out) 1
 have z2 := hp_cell (P2.out) 2
 have z3 := hp_cell (P2.out) 3
 have z4 := hp_cell (P2.out) 4
 have z5 := hp_cell (P2.out) 5
 have z6 := hp_cell (P2.out) 6
 have z7 := hp_cell (P2.out) 7
 have z8 := hp_cell (P2.out) 8
 have z9 := hp_cell (P2.out) 9
 have z10 := hp_cell (P2.out) 10
 simp only [List.getElem?_toArray, List.getElem?_cons_zero, List.getElem?_cons_succ] at z0 z1 z2 z3 z4 z5 z6 z7 z8 z9 z10
 have l0 := fun x : LaterS [] w2_ => x.cell z0 (by simp)
 have l1 := fun x : LaterS [] w2_ => x.cell z1 (by simp)
 have l2 := fun x : LaterS [] w2_ => x.cell z2 (by simp)
 have l3 := fun x : LaterS [] w2_ => x.cell z3 (by simp)
 have l4 := fun x : LaterS [] w2_ => x.cell z4 (by simp)
 have l5 := fun x : LaterS [] w2_ => x.cell z5 (by simp)
 have l6 := fun x : LaterS [] w2_ => x.cell z6 (by simp)
 have l7 := fun x : LaterS [] w2_ => x.cell z7 (by simp)
 have l8 := fun x : LaterS [] w2_ => x.cell z8 (by simp)
 have l9 := fun x : LaterS [] w2_ => x.cell z9 (by simp)
 have l10 := fun x : LaterS [] w2_ => x.cell z10 (by simp)
 have un : (no : Int) ≤ 15 := by omega
 refine wp_region_gg [] [] [] (by kernel_rfl) ?_
 refine hoist [] [] (a1 := ?_) 0 rfl (by kernel_rfl) (.inl ⟨rfl, rfl⟩) rfl rfl rfl (fun x K hK => ?_) ?_
 rotate_left
 ·go_big_quiet_op
  exact hK
 refine hoist [] [] (a1 := ?_) 1 rfl (by kernel_rfl) (.inl ⟨rfl, rfl⟩) rfl rfl rfl (fun x K hK => ?_) ?_
 rotate_left
 ·go_big_quiet_op
  exact hK
 refine hoist [] [] (a1 := ?_) 2 rfl (by kernel_rfl) (.inl ⟨rfl, rfl⟩) rfl rfl rfl (fun x K hK => ?_) ?_
 rotate_left
 ·go_big_quiet_op
  exact hK
 refine hoist_call [] [] (a1 := ?_) 3 rfl (by kernel_rfl) (.inl ⟨rfl, rfl⟩) rfl rfl rfl (fun x K hK => ?_) ?_
 rotate_left
 ·go_big_quiet_op
  apply Exists.intro
  refine ⟨fun y => ?_, ?_⟩
  ·exact ((c1 y.now).out).mono fun _ _ h => ⟨h.1, y, h.2.symm⟩
  ·exact hK
 refine hoist [] [] (a1 := ?_) 4 rfl (by kernel_rfl) (.inl ⟨rfl, rfl⟩) rfl rfl rfl (fun x K hK => ?_) ?_
 rotate_left
 ·go_big_quiet_op
  exact hK
 refine hoist [] [] (a1 := ?_) 5 rfl (by kernel_rfl) (.inl ⟨rfl, rfl⟩) rfl rfl rfl (fun x K hK => ?_) ?_
 rotate_left
 ·go_big_quiet_op
  exact hK
 refine hoist [] [] (a1 := ?_) 6 rfl (by kernel_rfl) (.inl ⟨rfl, rfl⟩) rfl rfl rfl (fun x K hK => ?_) ?_
 rotate_left
 ·go_big_quiet_op
  exact hK
 refine hoist_call [] [] (a1 := ?_) 7 rfl (by kernel_rfl) (.inl ⟨rfl, rfl⟩) rfl rfl rfl (fun x K hK => ?_) ?_
 rotate_left
 ·go_big_quiet_op
  apply Exists.intro
  refine ⟨fun y => ?_, ?_⟩
  ·exact ((c2 y.now).out).mono fun _ _ h => ⟨h.1, y, h.2.symm⟩
  ·exact hK
 refine hoist [] [] (a1 := ?_) 8 rfl (by kernel_rfl) (.inl ⟨rfl, rfl⟩) rfl rfl rfl (fun x K hK => ?_) ?_
 rotate_left
 ·go_big_quiet_op
  exact hK
 refine hoist [] [] (a1 := ?_) 9 rfl (by kernel_rfl) (.inl ⟨rfl, rfl⟩) rfl rfl rfl (fun x K hK => ?_) ?_
 rotate_left
 ·go_big_quiet_op
  exact hK
 refine hoist [] [] (a1 := ?_) 10 rfl (by kernel_rfl) (.inl ⟨rfl, rfl⟩) rfl rfl rfl (fun x K hK => ?_) ?_
 rotate_left
 ·go_big_quiet_op
  exact hK
 refine hoist [] [] (a1 := ?_) 11 rfl (by kernel_rfl) (.inl ⟨rfl, rfl⟩) rfl rfl rfl (fun x K hK => ?_) ?_
 rotate_left
 ·go_big_quiet_op
  exact hK
 refine hoist [] [] (a1 := ?_) 12 rfl (by kernel_rfl) (.inl ⟨rfl, rfl⟩) rfl rfl rfl (fun x K hK => ?_) ?_
 rotate_left
 ·go_big_quiet_op
  exact hK
 refine hoist [] [] (a1 := ?_) 13 rfl (by kernel_rfl) (.inl ⟨rfl, rfl⟩) rfl rfl rfl (fun x K hK => ?_) ?_
 rotate_left
 ·go_big_quiet_op
  exact hK
 refine hoist [] [] (a1 := ?_) 14 rfl (by kernel_rfl) (.inl ⟨rfl, rfl⟩) rfl rfl rfl (fun x K hK => ?_) ?_
 rotate_left
 ·go_big_quiet_op
  exact hK
 refine hoist [] [] (a1 := ?_) 15 rfl (by kernel_rfl) (.inl ⟨rfl, rfl⟩) rfl rfl rfl (fun x K hK => ?_) ?_
 rotate_left
 ·go_big_quiet_op
  exact hK
 refine hoist [] [] (a1 := ?_) 16 rfl (by kernel_rfl) (.inl ⟨rfl, rfl⟩) rfl rfl rfl (fun x K hK => ?_) ?_
 rotate_left
 ·go_big_quiet_op
  exact hK
 refine hoist [] [] (a1 := ?_) 17 rfl (by kernel_rfl) (.inl ⟨rfl, rfl⟩) rfl rfl rfl (fun x K hK => ?_) ?_
 rotate_left
 ·go_big_quiet_op
  exact hK
 refine hoist_call [] [] (a1 := ?_) 18 rfl (by kernel_rfl) (.inl ⟨rfl, rfl⟩) rfl rfl rfl (fun x K hK => ?_) ?_
 rotate_left
 ·go_big_quiet_op
  apply Exists.intro
  refine ⟨fun y => ?_, ?_⟩
  ·exact ((c3 y.now).out).mono fun _ _ h => ⟨h.1, y, h.2.symm⟩
  ·exact hK
 refine hoist [] [] (a1 := ?_) 19 rfl (by kernel_rfl) (.inl ⟨rfl, rfl⟩) rfl rfl rfl (fun x K hK => ?_) ?_
 rotate_left
 ·go_big_quiet_op
  exact hK
 refine effect 20 rfl (by kernel_rfl) (by kernel_rfl) rfl (fun x20 K hK => ?_)
 go_simp
 refine hK _ _ (Still.of_below ((Below.refl _ _).alloc (Nat.le_refl _) _)) ?_
 clear hK K
 refine hoist [] [] (a1 := ?_) 21 rfl (by kernel_rfl) (.inl ⟨rfl, rfl⟩) rfl rfl rfl (fun x K hK => ?_) ?_
 rotate_left
 ·go_big_quiet_op
  exact hK
 refine done (by kernel_rfl) (fun xr => ?_)
 have BA : BW w2_ xr.now := (x20.bw.trans (BW.refl _).alloc).trans xr.bw
 have O3 := Lib.hid ((OB.new x20.now x20.now.heap.size [F, S] 2 (Nat.le_refl _) rfl (by decide) (fun x hx => by simp at hx; omega)).sb.bw xr.bw)
 have P3 := Lib.hid (P2.out.bw BA)
 have N3 := Lib.hid (N2.out.bw BA)
 have E3 := Lib.hid (E2.out.bw BA)
 have D3 := Lib.hid (D2.out.bw BA)
 have B3 := Lib.hid (B2.out.trans BA)
 clear BA P2 N2 E2 D2 B2 r1 r2 r3 r4 c1 c2 c3
 clear z0 z1 z2 z3 z4 z5 z6 z7 z8 z9 z10 l0 l1 l2 l3 l4 l5 l6 l7 l8 l9 l10
 generalize xr.now = w3_ at *
 generalize x20.now.heap.size = g3 at *
 go_upto_region 4 with (fail)
 have z0 := hp_cell (P3.out) 0
 have z1 := hp_cell (P3.out) 1
 have z2 := hp_cell (P3.out) 2
 have z3 := hp_cell (P3.out) 3
 have z4 := hp_cell (P3.out) 4
 have z5 := hp_cell (P3.out) 5
 have z6 := hp_cell (P3.out) 6
 have z7 := hp_cell (P3.out) 7
 have z8 := hp_cell (P3.out) 8
 have z9 := hp_cell (P3.out) 9
 have z10 := hp_cell (P3.out) 10
 simp only [List.getElem?_toArray, List.getElem?_cons_zero, List.getElem?_cons_succ] at z0 z1 z2 z3 z4 z5 z6 z7 z8 z9 z10
 have l2 := fun x : LaterS [] w3_ => x.cell z2 (by simp)
 have l3 := fun x : LaterS [] w3_ => x.cell z3 (by simp)
 have l4 := fun x : LaterS [] w3_ => x.cell z4 (by simp)
 clear z0 z1 z2 z3 z4 z5 z6 z7 z8 z9 z10
 have u2 : (sq : Int) ≤ 65535 := by omega
 have u4 : (st : Int) ≤ 4294967295 := by omega
 have u8 : (so : Int) ≤ 4294967295 := by omega
 refine wp_region_gg [] [] [] (by kernel_rfl) ?_
 refine hoist [] [] (a1 := ?_) 0 rfl (by kernel_rfl) (.inl ⟨rfl, rfl⟩) rfl rfl rfl (fun x K hK => ?_) ?_
 rotate_left
 ·go_big_quiet_op
  exact hK
 refine hoist [] [] (a1 := ?_) 1 rfl (by kernel_rfl) (.inl ⟨rfl, rfl⟩) rfl rfl rfl (fun x K hK => ?_) ?_
 rotate_left
 ·go_big_quiet_op
  exact hK
 refine hoist [] [] (a1 := ?_) 2 rfl (by kernel_rfl) (.inl ⟨rfl, rfl⟩) rfl rfl rfl (fun x K hK => ?_) ?_
 rotate_left
 ·go_big_quiet_op
  exact hK
 refine hoist [] [] (a1 := ?_) 3 rfl (by kernel_rfl) (.inl ⟨rfl, rfl⟩) rfl rfl rfl (fun x K hK => ?_) ?_
 rotate_left
 ·go_big_quiet_op
  exact hK
 refine hoist [] [] (a1 := ?_) 5 rfl (by kernel_rfl) (.inl ⟨rfl, rfl⟩) rfl rfl rfl (fun x K hK => ?_) ?_
 rotate_left
 ·go_big_quiet_op
  exact hK
 refine hoist [] [] (a1 := ?_) 6 rfl (by kernel_rfl) (.inl ⟨rfl, rfl⟩) rfl rfl rfl (fun x K hK => ?_) ?_
 rotate_left
 ·go_big_quiet_op
  exact hK
 refine hoist [] [] (a1 := ?_) 7 rfl (by kernel_rfl) (.inl ⟨rfl, rfl⟩) rfl rfl rfl (fun x K hK => ?_) ?_
 rotate_left
 ·go_big_quiet_op
  exact hK
 refine hoist [] [] (a1 := ?_) 9 rfl (by kernel_rfl) (.inl ⟨rfl, rfl⟩) rfl rfl rfl (fun x K hK => ?_) ?_
 rotate_left
 ·go_big_quiet_op
  exact hK
 refine hoist [] [] (a1 := ?_) 10 rfl (by kernel_rfl) (.inl ⟨rfl, rfl⟩) rfl rfl rfl (fun x K hK => ?_) ?_
 rotate_left
 ·go_big_quiet_op
  exact hK
 refine hoist [] [] (a1 := ?_) 11 rfl (by kernel_rfl) (.inl ⟨rfl, rfl⟩) rfl rfl rfl (fun x K hK => ?_) ?_
 rotate_left
 ·go_big_quiet_op
  exact hK
 refine effect 4 rfl (by kernel_rfl) (by kernel_rfl) rfl (fun x4 K hK => ?_)
 go_simp
 refine Calls.mono (put_ok _ 2 [F, S] 2 sq 2 (by decide) (by decide) rfl (by omega) (by omega) x4.now (O3.out.bw x4.bw)) ?_
 rintro e wa ⟨v4, rfl, O4, hb⟩
 replace O4 : OB wa x4.now.heap.size 5 v4 4 ([F, S] ++ putB 2 sq) := O4
 obtain ⟨s4, c4, rfl, hc4, hm4⟩ := O4.len
 refine hK _ _ (Still.of_below hb) ?_
 clear hK K
 have A4 := Lib.hid (BW.call x4.bw hb)
 clear hb
 replace O4 := Lib.hid O4
 try simp only [Act.put, List.setIfInBounds_toArray, List.set_cons_succ, List.set_cons_zero]
 refine effect 8 rfl (by kernel_rfl) (by kernel_rfl) rfl (fun x8 K hK => ?_)
 go_simp
 refine Calls.mono (put_ok _ 4 _ 4 st 4 (by decide) (by decide) rfl (by omega) (by omega) x8.now (O4.out.sb.bw x8.bw)) ?_
 rintro e wb ⟨v8, rfl, O8, hb⟩
 replace O8 : OB wb x8.now.heap.size 5 v8 8 (([F, S] ++ putB 2 sq) ++ putB 4 st) := O8
 obtain ⟨s8, c8, rfl, hc8, hm8⟩ := O8.len
 refine hK _ _ (Still.of_below hb) ?_
 clear hK K
 have A8 := Lib.hid (A4.out.trans (BW.call x8.bw hb))
 clear hb A4 O4
 replace O8 := Lib.hid O8
 try simp only [Act.put, List.setIfInBounds_toArray, List.set_cons_succ, List.set_cons_zero]
 refine effect 12 rfl (by kernel_rfl) (by kernel_rfl) rfl (fun x12 K hK => ?_)
 go_simp
 refine Calls.mono (put_ok _ 8 _ 4 so 4 (by decide) (by decide) rfl (by omega) (by omega) x12.now (O8.out.sb.bw x12.bw)) ?_
 rintro e wc_ ⟨v12, rfl, O12, hb⟩
 replace O12 : OB wc_ x12.now.heap.size 5 v12 12 ((([F, S] ++ putB 2 sq) ++ putB 4 st) ++ putB 4 so) := O12
 obtain ⟨s12, c12, rfl, hc12, hm12⟩ := O12.len
 unfold maxLen at hm12
 rw [hhd.out] at O12
 refine hK _ _ (Still.of_below hb) ?_
 clear hK K
 have A12 := Lib.hid (A8.out.trans (BW.call x12.bw hb))
 have Z12 := Lib.hid (Nat.le_trans (Nat.le_trans B3.out.size A8.out.size) x12.bw.size)
 clear hb A8 O8
 replace O12 := Lib.hid O12
 try simp only [Act.put, List.setIfInBounds_toArray, List.set_cons_succ, List.set_cons_zero]
 refine hoist [] [] (a1 := ?_) 13 rfl (by kernel_rfl) (.inl ⟨rfl, rfl⟩) rfl rfl rfl (fun x K hK => ?_) ?_
 rotate_left
 ·go_big_quiet_op
  exact hK
 refine done (by kernel_rfl) (fun xr => ?_)
 have BA := A12.out.trans xr.bw
 have O4 := Lib.hid ((O12.out.up Z12.out).bw xr.bw)
 have P4 := Lib.hid (P3.out.bw BA)
 have N4 := Lib.hid (N3.out.bw BA)
 have E4 := Lib.hid (E3.out.bw BA)
 have D4 := Lib.hid (D3.out.bw BA)
 have B4 := Lib.hid (B3.out.trans BA)
 clear BA P3 N3 E3 D3 B3 O3 A12 O12 Z12 l2 l3 l4
 generalize xr.now = w4_ at *
 have z5 := hp_cell P4.out 5
 simp only [List.getElem?_toArray, List.getElem?_cons_zero, List.getElem?_cons_succ] at z5
 go_upto_region 6 with (fail)
 clear z5
 go_loopg [4, 47] no (fun m' v i wx => ∃ (j : Nat) (s : Option Addr) (c : Nat), m' = no - j ∧ j ≤ no ∧ i = .int .i64 (j : Nat) ∧ v = .slice s (12 + 4 * j) c ∧ c ≤ 9223372036854775807 ∧ Hid (OB wx w.heap.size 5 (.slice s (12 + 4 * j) c) (12 + 4 * j) (H ++ othN (ot.take j))) ∧ Hid (PkV wx w.heap.size #[.bool mk, .int .u8 (ty : Nat), .int .u16 (sq : Nat), .int .u32 (st : Nat), .int .u32 (so : Nat), .slice so_ no co, .bool xb, .int .u16 (pf : Nat), .slice se ne ce, .slice sp np cp, .int .u8 (pd : Nat)]) ∧ Hid (NB wx .u32 (.slice so_ no co) no (nz ot)) ∧ Hid (SB wx (.slice se ne ce) ne ex) ∧ Hid (SB wx (.slice sp np cp) np pl) ∧ Hid (BW w wx))
 case atStart => exact ⟨0, s12, c12, by omega, by omega, rfl, rfl, by omega, by rw [List.take_zero]; show OB _ _ _ _ _ (H ++ []); rw [List.append_nil]; exact O4.out, P4, N4, E4, D4, B4⟩
 case round =>
  clear O4 P4 N4 E4 D4 B4
  obtain ⟨j, s, c, rfl, hj, rfl, rfl, hcc, O, P, N, E, D, B⟩ := hrel
  by_cases hjn : j < no
  ·obtain ⟨b1, o1, q1, hs1, _, _, hb1, hc1⟩ := N.out.form (by omega)
   simp only [Value.slice.injEq] at hs1
   obtain ⟨rfl, -, rfl⟩ := hs1
   have k1 := hc1 j hjn
   clear hc1
   have hnx : (nz ot).getD j 0 = ((ot.getD j 0 : Nat) : Int) := by
    unfold nz
    rw [List.getD_eq_getElem?_getD, List.getElem?_map, List.getD_eq_getElem?_getD, List.getElem?_eq_getElem (by have := hno.out; omega)]; rfl
   rw [hnx] at k1
   have hxb : ot.getD j 0 < 4294967296 := by
    rw [List.getD_eq_getElem?_getD, List.getElem?_eq_getElem (by have := hno.out; omega)]
    exact i5 _ (List.getElem_mem _)
   have hot := othN_take ot j (by have := hno.out; omega)
   generalize ot.getD j 0 = X at *
   have uX : (X : Int) ≤ 4294967295 := by omega
   replace hot := Lib.hid hot
   replace hnx := Lib.hid hnx
   go_wp2_with fail
   refine Calls.mono (put_ok _ (12 + 4 * j) _ 4 X 4 (by decide) (by decide) rfl (by omega) (by omega) wr O.out.sb) ?_
   rintro e wn ⟨v2, rfl, O2, hb⟩
   replace O2 : OB wn wr.heap.size 5 v2 (12 + 4 * (j + 1)) (H ++ othN (ot.take j) ++ putB 4 X) := O2
   rw [List.append_assoc, hot.out] at O2
   obtain ⟨s2, c2, rfl, hc2, hm2⟩ := O2.len
   unfold maxLen at hm2
   have bw : BW wr wn := hb
   have O3 := Lib.hid (O2.up B.out.size)
   have P3 := Lib.hid (P.out.bw bw)
   have N3 := Lib.hid (N.out.bw bw)
   have E3 := Lib.hid (E.out.bw bw)
   have D3 := Lib.hid (D.out.bw bw)
   have B3 := Lib.hid (B.out.trans bw)
   clear hb bw O2 O P N E D B k1
   dsimp only
   go_wp2_with fail
   go_roundg (no - (j + 1))
   case measure => omega
   case rel => exact ⟨j + 1, s2, c2, rfl, by omega, by push_cast; rfl, rfl, by omega, O3, P3, N3, E3, D3, B3⟩
  ·obtain rfl : j = no := by omega
   clear hjn
   obtain ⟨wk, rfl⟩ : ∃ x, x = wr := ⟨_, rfl⟩
   have O1 : Hid (OB wk w.heap.size 5 (.slice s (12 + 4 * j) c) (12 + 4 * j) (H ++ othN ot)) := by
    have := O.out
    rw [List.take_of_length_le (by have := hno.out; omega)] at this
    exact this
   have hm0 : 12 + 4 * j ≤ 72 := by omega
   clear O N E D i5 hj
   generalize 12 + 4 * j = m0 at *
   have z0 := hp_cell (P.out) 0
   have z1 := hp_cell (P.out) 1
   have z2 := hp_cell (P.out) 2
   have z3 := hp_cell (P.out) 3
   have z4 := hp_cell (P.out) 4
   have z5 := hp_cell (P.out) 5
   have z6 := hp_cell (P.out) 6
   have z7 := hp_cell (P.out) 7
   have z8 := hp_cell (P.out) 8
   have z9 := hp_cell (P.out) 9
   have z10 := hp_cell (P.out) 10
   simp only [List.getElem?_toArray, List.getElem?_cons_zero, List.getElem?_cons_succ] at z0 z1 z2 z3 z4 z5 z6 z7 z8 z9 z10
   have hnel : (ne : Int) ≤ 1020 := by omega
   have hpfb : (pf : Int) ≤ 65535 := by omega
   go_upto_if 57 with (fail)
   go_cut [4] (fun v wx => ∃ (m : Nat) (s' : Option Addr) (c' : Nat), v = .slice s' m c' ∧ c' ≤ 9223372036854775807 ∧ m ≤ 2000 ∧ Hid (OB wx w.heap.size 5 (.slice s' m c') m ((H ++ othN ot) ++ XT)) ∧ Hid (PkV wx w.heap.size #[.bool mk, .int .u8 (ty : Nat), .int .u16 (sq : Nat), .int .u32 (st : Nat), .int .u32 (so : Nat), .slice so_ j co, .bool xb, .int .u16 (pf : Nat), .slice se ne ce, .slice sp np cp, .int .u8 (pd : Nat)]) ∧ Hid (BW w wx))
   case first =>
    cases xb
    ·have hX : XT = [] := by rw [hxt.out]; rfl
     replace hX := Lib.hid hX
     go_wp2_with fail
     go_meet
     exact ⟨m0, s, c, rfl, hcc, by omega, by rw [hX.out, List.append_nil]; exact O1.out, P, B⟩
    ·have hX : XT = putB 2 pf ++ (putB 2 (ne / 4) ++ ex) := by rw [hxt.out]; rfl
     replace hX := Lib.hid hX
     go_upto_region 11 with (fail)
     have l7 := fun x : LaterS [] wk => x.cell z7 (by simp)
     have l8 := fun x : LaterS [] wk => x.cell z8 (by simp)
     clear z0 z1 z2 z3 z4 z5 z6 z7 z8 z9 z10
     have q4 : Int.tdiv (ne : Int) 4 = (ne : Int) / 4 := Int.tdiv_eq_ediv_of_nonneg (by omega)
     have q5 : (ne : Int) / 4 ≤ 255 := by omega
     have q6 : (0 : Int) ≤ (ne : Int) / 4 := by omega
     have cq : ∀ (v : Value) (l : List Nat) (wz : World), SB wz v (m0 + 2) l → Hid (Calls Tryz.prog 56 #[v, .int .i64 2, .int .u64 ((ne : Int) / 4)] wz fun e w' => ∃ v', e = .returned v' ∧ OB w' wz.heap.size 5 v' (m0 + 4) (l ++ putB 2 (ne / 4)) ∧ Below wz.heap.size wz w') := fun v l wz hv => by
      have := put_ok v (m0 + 2) l 2 (ne / 4) 2 (by decide) (by decide) rfl (by omega) (by omega) wz hv
      rw [show ((ne / 4 : Nat) : Int) = (ne : Int) / 4 by omega] at this
      exact this
     refine wp_region_gg [] [] [] (by kernel_rfl) ?_
     refine hoist [] [] (a1 := ?_) 0 rfl (by kernel_rfl) (.inl ⟨rfl, rfl⟩) rfl rfl rfl (fun x K hK => ?_) ?_
     rotate_left
     ·go_big_quiet_op
      exact hK
     refine hoist [] [] (a1 := ?_) 1 rfl (by kernel_rfl) (.inl ⟨rfl, rfl⟩) rfl rfl rfl (fun x K hK => ?_) ?_
     rotate_left
     ·go_big_quiet_op
      exact hK
     refine hoist [] [] (a1 := ?_) 2 rfl (by kernel_rfl) (.inl ⟨rfl, rfl⟩) rfl rfl rfl (fun x K hK => ?_) ?_
     rotate_left
     ·go_big_quiet_op
      exact hK
     refine hoist [] [] (a1 := ?_) 3 rfl (by kernel_rfl) (.inl ⟨rfl, rfl⟩) rfl rfl rfl (fun x K hK => ?_) ?_
     rotate_left
     ·go_big_quiet_op
      exact hK
     refine hoist [] [] (a1 := ?_) 5 rfl (by kernel_rfl) (.inl ⟨rfl, rfl⟩) rfl rfl rfl (fun x K hK => ?_) ?_
     rotate_left
     ·go_big_quiet_op
      exact hK
     refine hoist [] [] (a1 := ?_) 6 rfl (by kernel_rfl) (.inl ⟨rfl, rfl⟩) rfl rfl rfl (fun x K hK => ?_) ?_
     rotate_left
     ·go_big_quiet_op
      exact hK
     refine hoist [] [] (a1 := ?_) 7 rfl (by kernel_rfl) (.inl ⟨rfl, rfl⟩) rfl rfl rfl (fun x K hK => ?_) ?_
     rotate_left
     ·go_big_quiet_op
      exact hK
     refine hoist [] [] (a1 := ?_) 8 rfl (by kernel_rfl) (.inl ⟨rfl, rfl⟩) rfl rfl rfl (fun x K hK => ?_) ?_
     rotate_left
     ·go_big_quiet_op
      exact hK
     refine hoist [] [] (a1 := ?_) 9 rfl (by kernel_rfl) (.inl ⟨rfl, rfl⟩) rfl rfl rfl (fun x K hK => ?_) ?_
     rotate_left
     ·go_big_quiet_op
      exact hK
     refine effect 4 rfl (by kernel_rfl) (by kernel_rfl) rfl (fun x4 K hK => ?_)
     go_simp
     refine Calls.mono (put_ok _ m0 _ 2 pf 2 (by decide) (by decide) rfl (by omega) (by omega) x4.now (O1.out.sb.bw x4.bw)) ?_
     rintro e wa ⟨v4, rfl, O4, hb⟩
     obtain ⟨t4, d4, rfl, hc4, hm4⟩ := O4.len
     refine hK _ _ (Still.of_below hb) ?_
     clear hK K
     have A4 := Lib.hid (BW.call x4.bw hb)
     clear hb
     replace O4 := Lib.hid O4
     try simp only [Act.put, List.setIfInBounds_toArray, List.set_cons_succ, List.set_cons_zero]
     refine effect 10 rfl (by kernel_rfl) (by kernel_rfl) rfl (fun x10 K hK => ?_)
     go_simp
     refine Calls.mono (cq _ _ x10.now (O4.out.sb.bw x10.bw)).out ?_
     rintro e wb ⟨v8, rfl, O8, hb⟩
     replace O8 : OB wb x10.now.heap.size 5 v8 (m0 + 4) (((H ++ othN ot) ++ putB 2 pf) ++ putB 2 (ne / 4)) := O8
     obtain ⟨t8, d8, rfl, hc8, hm8⟩ := O8.len
     unfold maxLen at hm8
     refine hK _ _ (Still.of_below hb) ?_
     clear hK K
     have Z8 := Lib.hid (Nat.le_trans (Nat.le_trans B.out.size A4.out.size) x10.bw.size)
     have A8 := Lib.hid (A4.out.trans (BW.call x10.bw hb))
     clear hb A4 O4
     replace O8 := Lib.hid O8
     try simp only [Act.put, List.setIfInBounds_toArray, List.set_cons_succ, List.set_cons_zero]
     refine hoist [] [] (a1 := ?_) 11 rfl (by kernel_rfl) (.inl ⟨rfl, rfl⟩) rfl rfl rfl (fun x K hK => ?_) ?_
     rotate_left
     ·go_big_quiet_op
      exact hK
     refine done (by kernel_rfl) (fun xr => ?_)
     have BA := A8.out.trans xr.bw
     have O9 := Lib.hid ((O8.out.up Z8.out).bw xr.bw)
     have P9 := P.out.bw BA
     have B9 := Lib.hid (B.out.trans BA)
     have z8 := hp_cell P9 8
     simp only [List.getElem?_toArray, List.getElem?_cons_zero, List.getElem?_cons_succ] at z8
     have hni := O9.out.notin P9 (by decide)
     have E9 := Lib.hid (E0.out.bw B9.out)
     replace P9 := Lib.hid P9
     clear BA l7 l8 q4 q5 q6 cq A8 O8 Z8 O1 P B
     generalize xr.now = w9_ at *
     go_wp2_with (at_builtin; go_must (refine wpList_apOB rfl _ _ rfl w.heap.size _ (m0 + 4) _ rfl O9.out _ rfl ne ex E9.out (by omega) B9.out.size ?_; intro s5 c5 w5 hc5 hm5 O5 T5 hb G5; unfold maxLen at hm5; have P5 := Lib.hid (P9.out.still T5 hni); have B5 := Lib.hid (B9.out.step hb (Nat.le_refl _)); replace O5 := Lib.hid O5; clear T5 hb G5 O9 P9 B9 hni E9 z8))
     go_meet
     refine ⟨m0 + 4 + ne, s5, c5, rfl, by omega, by omega, ?_, P5, B5⟩
     have h5 := O5.out
     rw [hX.out]
     simp only [List.append_assoc] at h5 ⊢
     exact h5
   clear z0 z1 z2 z3 z4 z5 z6 z7 z8 z9 z10
   clear O1 P B
   obtain ⟨m, s', c', rfl, hcc', hm2, O, P, B⟩ := hcut
   obtain ⟨wl, rfl⟩ : ∃ x, x = wc := ⟨_, rfl⟩
   have z9 := hp_cell P.out 9
   simp only [List.getElem?_toArray, List.getElem?_cons_zero, List.getElem?_cons_succ] at z9
   have hni := O.out.notin P.out (by decide)
   have D9 := Lib.hid (D0.out.bw B.out)
   have hz5 := B.out.size
   go_upto_if 79 with (at_builtin; go_must (refine wpList_apOB rfl _ _ rfl w.heap.size _ m _ rfl O.out _ rfl np pl D9.out (by omega) hz5 ?_; intro s5 c5 w5 hc5 hm5 O5 T5 hb G5; unfold maxLen at hm5; have P5 := Lib.hid (P.out.still T5 hni); have B5 := Lib.hid (B.out.step hb (Nat.le_refl _)); replace O5 := Lib.hid O5; clear T5 hb G5 O P B hni D9 z9 hz5; have z10 := hp_cell P5.out 10; simp only [List.getElem?_toArray, List.getElem?_cons_zero, List.getElem?_cons_succ] at z10))
   generalize hm5 : m + np = m5 at *
   have hm6 : m5 ≤ 2000000 := by omega
   replace hm5 := Lib.hid hm5
   go_cut [4] (fun v wx => ∃ (m : Nat) (s' : Option Addr) (c' : Nat), v = .slice s' m c' ∧ c' ≤ 9223372036854775807 ∧ Hid (OB wx w.heap.size 5 (.slice s' m c') m BT) ∧ Hid (BW w wx))
   case first =>
    have hni := O5.out.notin P5.out (by decide)
    cases gp
    ·have hp0 : pd = 0 := by simpa using hgp
     have hX : BT = (H ++ othN ot ++ XT ++ pl) := by rw [hbt.out, hp0]; show _ ++ [] = _; rw [List.append_nil]
     replace hX := Lib.hid hX
     clear hp0
     go_wp2_with fail
     go_meet
     exact ⟨m5, s5, c5, rfl, by omega, by rw [hX.out]; exact O5.out, B5⟩
    ·have hp0 : 0 < pd := by simpa using hgp
     have hX : BT = ((H ++ othN ot ++ XT ++ pl) ++ List.replicate (pd - 1) 0) ++ [pd] := by rw [hbt.out]; unfold padN zeros; rw [if_pos hp0, ← List.append_assoc]
     replace hX := Lib.hid hX
     go_upto_region 15 with (fail)
     have l10 := fun x : LaterS (Value.slice s5 m5 c5).ownBlock.toList w5 => x.cell z10 hni
     have l10b := fun x : LaterS [] w5 => x.cell z10 (by simp)
     have q4 : IntKind.u8.wrap ((pd : Int) - 1) = ((pd - 1 : Nat) : Int) := by
      rw [show (pd : Int) - 1 = ((pd - 1 : Nat) : Int) by omega]
      exact IntWalk.u8_in _ (by omega)
     have hS5 : ∀ k ∈ (Value.slice s5 m5 c5).ownBlock.toList, k < w5.heap.size := fun k hk => O5.out.lt' k (by simpa using hk)
     refine wp_region_gg ((Value.slice s5 m5 c5).ownBlock.toList) [4] [8] (by kernel_rfl) ?_
     refine hoist [] [4] (a1 := ?_) 0 rfl (by kernel_rfl) (.inl ⟨rfl, rfl⟩) rfl rfl rfl (fun x K hK => ?_) ?_
     rotate_left
     ·go_big_quiet_op
      exact hK
     refine hoist [] [4] (a1 := ?_) 1 rfl (by kernel_rfl) (.inl ⟨rfl, rfl⟩) rfl rfl rfl (fun x K hK => ?_) ?_
     rotate_left
     ·go_big_quiet_op
      exact hK
     refine hoist [] [4] (a1 := ?_) 2 rfl (by kernel_rfl) (.inl ⟨rfl, rfl⟩) rfl rfl rfl (fun x K hK => ?_) ?_
     rotate_left
     ·go_big_quiet_op
      exact hK
     refine hoist [] [4] (a1 := ?_) 3 rfl (by kernel_rfl) (.inl ⟨rfl, rfl⟩) rfl rfl rfl (fun x K hK => ?_) ?_
     rotate_left
     ·go_big_quiet_op
      exact hK
     refine hoist ((Value.slice s5 m5 c5).ownBlock.toList) [] (a1 := ?_) 5 rfl (by kernel_rfl) (.inr rfl) rfl rfl rfl (fun x K hK => ?_) ?_
     rotate_left
     ·go_big_quiet_op
      exact hK
     refine hoist ((Value.slice s5 m5 c5).ownBlock.toList) [] (a1 := ?_) 6 rfl (by kernel_rfl) (.inr rfl) rfl rfl rfl (fun x K hK => ?_) ?_
     rotate_left
     ·go_big_quiet_op
      exact hK
     refine float 7 (fun g => .slice (some ⟨g, 0, none⟩) 1 1) (.cells #[.int .u8 (pd : Nat)] 5) rfl (by kernel_rfl) (by first | assumption | (intro k hk; cases hk) | omega) rfl (fun x => (by go_simp)) ?_
     refine effect 4 rfl (by kernel_rfl) (by kernel_rfl) rfl (fun x4 K hK => ?_)
     refine wp_apZ8 _ _ rfl w.heap.size _ m5 _ rfl (O5.out.bw x4.bw) (pd - 1) rfl (by omega) (Nat.le_trans B5.out.size x4.bw.size) ?_
     intro s6 c6 w6 hc6 hm6' O6 T6 hb G6
     refine hK _ _ T6 ?_
     clear hK K
     have B6 := Lib.hid ((B5.out.trans x4.bw).step hb (Nat.le_refl _))
     clear T6 hb G6 l10 l10b O5 P5 B5 hni
     replace O6 := Lib.hid O6
     try simp only [Act.put, List.setIfInBounds_toArray, List.set_cons_succ, List.set_cons_zero]
     refine tailF 8 rfl (by kernel_rfl) rfl (fun xr => ?_)
     intro g7 hg7 hG7
     refine fin_nil ?_
     dsimp only at hg7 hG7
     try simp only [Act.put, List.setIfInBounds_toArray, List.set_cons_succ, List.set_cons_zero]
     simp only [List.drop_succ_cons, List.drop_zero]
     have V7 : SB xr.now (.slice (some ⟨g7, 0, none⟩) 1 1) 1 [pd] := SB.mk' rfl (fun x hx => by simp at hx; omega) (Nat.le_refl _) (by decide) (Array.getElem?_eq_some_iff.1 hG7).1 (fun j hj => by
      obtain rfl : j = 0 := by omega
      rw [hp_cell hG7]; rfl)
     have O7 := Lib.hid (O6.out.bw xr.bw)
     have B7 := Lib.hid (B6.out.trans xr.bw)
     have hb7 := B7.out.size
     replace V7 := Lib.hid V7
     clear hG7 hg7 O6 B6
     generalize xr.now = w7 at *
     go_wp2_with (at_builtin; go_must (refine wpList_apOB rfl _ _ rfl w.heap.size _ (m5 + (pd - 1)) _ rfl O7.out _ rfl 1 [pd] V7.out (by omega) hb7 ?_; intro s8 c8 w8 hc8 hm8 O8 T8 hb G8; unfold maxLen at hm8; have B8 := Lib.hid (B7.out.step hb (Nat.le_refl _)); replace O8 := Lib.hid O8; clear T8 hb G8 O7 B7 V7))
     go_meet
     exact ⟨_, s8, c8, rfl, by omega, by rw [hX.out]; exact O8.out, B8⟩
   clear O5 P5 B5
   obtain ⟨m, s', c', rfl, hcc', O, B⟩ := hcut
   obtain ⟨wl, rfl⟩ : ∃ x, x = wc := ⟨_, rfl⟩
   have hl := Lib.hid O.out.1
   by_cases hL : m ≤ 1200
   ·have d : decide ((1200 : Int) < (m : Int)) = false := by simp; omega
    go_wp2_with fail
    go_ret2
    exact ⟨.inl ⟨BT, _, by rw [hwr2.out, if_pos (by rw [hl.out]; exact hL)], rfl, by rw [hl.out]; exact O.out⟩, B.out⟩
   ·have d : decide ((1200 : Int) < (m : Int)) = true := by simp; omega
    go_wp2_with fail
    go_ret2
    exact ⟨.inr ⟨by rw [hwr2.out, if_neg (by rw [hl.out]; exact hL)], rfl⟩, B.out⟩
end Go.Proofs.YtikmhlbpefednaaGreat
