/- The document's example of control packets. No condition. -/
import Derived.Test.YtcempndfbckcaaaGW5
import Derived.Test.YtcempndfbckcaaaRcK
import Derived.Test.YtcempndfbckcaaaArB
namespace Go.Proofs.Ytcempndfbckcaaa
open Go.RowKit
def rcL : List Nat := zeros 28
def rcB : List Nat := 129 :: 201 :: 0 :: 7 :: rcL
def rcC : Ctl := ⟨201, numB (rcL.take 4), 0, 0, 0, 0, 0, (repsN (rcL.drop 4) 1).map repOf, [], [], [], [], 0⟩
theorem rcB_eq : (((zeros 32).set 0 129).set 1 201).set 3 7 = rcB := by decide
theorem rc_part : PartOk rcB rcC :=
 ⟨1, 1, 201, 0, 7, -1, rcL, 133, by decide, rfl, by simp, by decide, by decide, by decide, by decide, by decide, receiver_ok 1 rcL (by decide) (by decide), fun _ _ => by kernel_rfl, rfl, by decide⟩
theorem rc_make (w : World) : (Instr.makeSlice 36 (.int .i64 32) (.int .i64 32)).run Try.prog w = .ok (.slice (some ⟨w.heap.size, 0, none⟩) 32 32) (w.alloc (.cells (ivA .u8 (zeros 32)) 5)) := make_u8 32 (by decide) w
theorem nackN_ex : nackN [(5, 5)] = [5, 6, 8] := by decide
theorem lossN_ex : lossN [5, 6, 8] = [(5, 5)] := by decide
theorem eqC_form {T : TypeId} {w : World} {base : Nat} {sv : Option Addr} {n cap : Nat} {L : List Ctl} (h : EQ EC T w base (.slice sv n cap) n L) (h0 : 0 < n) :
  ∃ g o, sv = some ⟨g, o, none⟩ ∧ base ≤ g ∧ ∀ i (_ : i < L.length), ∃ vr vn vs vl vf, CtlV w base L[i] vr vn vs vl vf ∧ ∀ j, j < 13 → w.cell? ⟨g, o + i * 13 + j, none⟩ = (ctlC L[i] vr vn vs vl vf)[j]? := by
 obtain ⟨g, o, cap', hsl, hb, _, _, _, hce⟩ := h.form h0
 simp only [Value.slice.injEq] at hsl
 refine ⟨g, o, hsl.1, hb, fun i hi => ?_⟩
 obtain ⟨c, ⟨vr, vn, vs, vl, vf, rfl, hC⟩, hcc⟩ := hce i hi
 exact ⟨vr, vn, vs, vl, vf, hC, fun j hj => by rw [← hcc j hj, ← Nat.add_assoc]; rfl⟩
theorem SQ.new {α : Type} {E : Elt α} (w : World) (T : TypeId) (base n : Nat) (l : List α) (xs : List Value) (hl : l.length = n) (hm : n ≤ maxLen) (hx : EL E (w.alloc (.cells xs.toArray T)) base l xs) : SQ E (w.alloc (.cells xs.toArray T)) base (.slice (some ⟨w.heap.size, 0, none⟩) n n) n l := by
 refine ⟨hl, xs, ⟨by rw [hx.len, hl], hm, .inr ⟨_, _, _, rfl, Nat.le_refl _, hm, by simp, fun j hj => ?_⟩⟩, hx⟩
 rw [Nat.zero_add]
 have h0 : HpB (w.alloc (.cells xs.toArray T)) w.heap.size (.cells xs.toArray T) := HpB.new w _
 have h1 := hp_cell h0 j
 rw [h1]
 simp
set_option maxRecDepth 100000 in
set_option maxHeartbeats 8000000 in
theorem rtcp_alive (w : World) : Calls Try.prog 15 #[] w fun e w' => e = .returned (.bool true) ∧ BW w w' := by
 have hmk := rc_make
 have cR := fun wz (g : Nat) (h : AvB wz g 5 rcB) => Lib.hid (Read_ok [(rcB, rcC)] (by intro p hp; simp at hp; subst hp; exact rc_part) (by decide) (by decide) (.slice (some ⟨g, 0, none⟩) 32 32) 32 (by decide) wz (by have := h.sb (by unfold ByL rcB rcL; decide) 32 rfl (by decide); simpa [restB] using this))
 simp only [List.length_singleton, List.map_singleton] at cR
 have B1 : BW w (w.alloc (.cells (ivA .u8 (zeros 32)) 5)) := (BW.refl w).alloc
 have A1 := Lib.hid (AvB.new w 5 (zeros 32))
 have e1 := rcB_eq
 have d0 : (zeros 32).getD 0 0 = 0 := rfl
 have d1 : (zeros 32).getD 1 0 = 0 := rfl
 have d3 : (zeros 32).getD 3 0 = 0 := rfl
 have dl : (zeros 32).length = 32 := rfl
 generalize rcB = LB at *
 generalize zeros 32 = L0 at *
 replace d0 := Lib.hid d0
 replace d1 := Lib.hid d1
 replace d3 := Lib.hid d3
 replace dl := Lib.hid dl
 replace e1 := Lib.hid e1
 replace cR := Lib.hid cR
 go_enter Try.func15, Try.ntmps15
 go_upto_region 2 with (fail)
 clear hmk
 generalize w.alloc (.cells (ivA .u8 L0) 5) = w1 at *
 have hg : w.heap.size ≤ w.heap.size := Nat.le_refl _
 obtain ⟨g, hgg⟩ : ∃ g, g = w.heap.size := ⟨_, rfl⟩
 rw [← hgg] at A1 ⊢
 have hg : w.heap.size ≤ g := by omega
 clear hgg
 have x0 := A1.out.cell 0 (by rw [dl.out]; decide)
 have x1 := A1.out.cell 1 (by rw [dl.out]; decide)
 have x3 := A1.out.cell 3 (by rw [dl.out]; decide)
 rw [d0.out] at x0
 rw [d1.out] at x1
 rw [d3.out] at x3
 have y0 := A1.out.frz 0
 have y1 := A1.out.frz 1
 have y3 := A1.out.frz 3
 have A4 : AvB (((w1.setCell ⟨g, 0, none⟩ (.int .u8 129)).setCell ⟨g, 1, none⟩ (.int .u8 201)).setCell ⟨g, 3, none⟩ (.int .u8 7)) g 5 LB := by
  rw [← e1.out]; exact ((A1.out.set 0 129).set 1 201).set 3 7
 have B4 := Lib.hid (((B1.set hg (o := 0) (v := .int .u8 129)).set hg (o := 1) (v := .int .u8 201)).set hg (o := 3) (v := .int .u8 7))
 replace A4 := Lib.hid A4
 go_upto_region 5 with (fail)
 clear x0 x1 x3 y0 y1 y3 A1 B1
 generalize ((w1.setCell ⟨g, 0, none⟩ (.int .u8 129)).setCell ⟨g, 1, none⟩ (.int .u8 201)).setCell ⟨g, 3, none⟩ (.int .u8 7) = w4 at *
 go_wp2_with fail
 refine Calls.mono (cR.out w4 g A4.out).out ?_
 rintro e w5 ⟨so, co, rfl, Q5, hb⟩
 have B5 := Lib.hid (B4.out.trans hb)
 obtain ⟨gl, ol, rfl, -, hc⟩ := eqC_form Q5 (by decide)
 obtain ⟨vr, vn, vs, vl, vf, CV, hcc⟩ := hc 0 (by decide)
 obtain ⟨sr, cr, rfl, _, _⟩ := CV.r.len
 have c0 : w5.cell? ⟨gl, ol, none⟩ = some (.int .i64 201) := (hcc 0 (by decide)).trans rfl
 have c7 : w5.cell? ⟨gl, ol + 7, none⟩ = some (.slice sr 1 cr) := (hcc 7 (by decide)).trans rfl
 clear hcc hc CV Q5 hb A4 B4 cR
 dsimp only
 have BA : BW w5 (w5.alloc (.cells #[.int .u16 5, .int .u16 5] 30)) := (BW.refl _).alloc
 have S6 : SQ EO (w5.alloc (.cells #[.int .u16 5, .int .u16 5] 30)) 0 (.slice (some ⟨w5.heap.size, 0, none⟩) 1 1) 1 [(5, 5)] := SQ.new w5 30 0 1 [(5, 5)] [.int .u16 5, .int .u16 5] rfl (by decide) ⟨_, _, rfl, rfl, rfl⟩
 have cN := Lib.hid (nacked_ok 0 1 _ [(5, 5)] (by decide) (by simp) _ S6)
 rw [nackN_ex] at cN
 have B6 := Lib.hid (B5.out.trans BA)
 have c0' := BA.cell c0
 have c7' := BA.cell c7
 clear S6 B5
 replace BA := Lib.hid BA
 replace c0 := Lib.hid c0
 replace c7 := Lib.hid c7
 go_upto_region 6 with (fail)
 go_wp2_with fail
 refine Calls.mono cN.out ?_
 rintro e w7 ⟨s7, m7, k7, rfl, Q7, hb⟩
 obtain rfl : m7 = 3 := Q7.1.symm
 obtain ⟨g7, o7, rfl, hc⟩ := sqU_form Q7.sq (by decide)
 have p1 : w7.cell? ⟨g7, o7 + 1, none⟩ = some (.int .u16 6) := hc 1 (by decide)
 have p2 : w7.cell? ⟨g7, o7 + 2, none⟩ = some (.int .u16 8) := hc 2 (by decide)
 have B7 := Lib.hid (B6.out.trans hb)
 have c0 := hb.cell c0'
 have c7 := hb.cell c7'
 clear hc Q7 hb B6 c0' c7' cN BA
 dsimp only
 have BA : BW w7 (w7.alloc (.cells #[.int .u16 5, .int .u16 6, .int .u16 8] 28)) := (BW.refl _).alloc
 have S8 : SQ U1N (w7.alloc (.cells #[.int .u16 5, .int .u16 6, .int .u16 8] 28)) 0 (.slice (some ⟨w7.heap.size, 0, none⟩) 3 3) 3 [5, 6, 8] := SQ.new w7 28 0 3 [5, 6, 8] [.int .u16 5, .int .u16 6, .int .u16 8] rfl (by decide) ⟨_, _, rfl, rfl, _, _, rfl, rfl, _, _, rfl, rfl, rfl⟩
 have cL := Lib.hid (losses_ok 0 3 _ [5, 6, 8] (by decide) (by simp) _ S8)
 rw [lossN_ex] at cL
 have B8 := Lib.hid (B7.out.trans BA)
 have c0' := BA.cell c0
 have c7' := BA.cell c7
 have p1' := BA.cell p1
 have p2' := BA.cell p2
 clear S8 B7
 replace BA := Lib.hid BA
 replace c0 := Lib.hid c0
 replace c7 := Lib.hid c7
 replace p1 := Lib.hid p1
 replace p2 := Lib.hid p2
 go_upto_region 7 with (fail)
 go_wp2_with fail
 refine Calls.mono cL.out ?_
 rintro e w9 ⟨s9, m9, k9, rfl, Q9, hb⟩
 obtain rfl : m9 = 1 := Q9.1.symm
 obtain ⟨g9, o9, rfl, -, hc⟩ := eqO_form Q9 (by decide)
 obtain ⟨r0, r1⟩ := hc 0 (by decide)
 simp only [List.getElem_cons_zero, Nat.zero_mul, Nat.add_zero] at r0 r1
 have B9 := Lib.hid (B8.out.trans hb)
 replace c0 := hb.cell c0'
 replace c7 := hb.cell c7'
 replace p1 := hb.cell p1'
 replace p2 := hb.cell p2'
 clear hc Q9 hb B8 c0' c7' p1' p2' cL BA
 dsimp only
 go_wp2_with fail
 go_ret
 exact ⟨rfl, B9.out⟩
end Go.Proofs.Ytcempndfbckcaaa
