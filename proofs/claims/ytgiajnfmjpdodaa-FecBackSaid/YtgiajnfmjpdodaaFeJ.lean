/- The reference's covers of packets: Text. No condition but the sizes'. -/
import Derived.Test.YtgiajnfmjpdodaaFeI
import Derived.Test.YtgiajnfmjpdodaaRtO
namespace Go.Proofs.Ytgiajnfmjpdodaa
open Go.RowKit

def TextPost (d : RtpD) (w : World) (e : Ending) (w' : World) : Prop :=
  (((writeN d).isSome = true ∧ ∃ v, e = .returned (.tuple #[v, .bool true]) ∧ OB w' w.heap.size 5 v (txN d).length (txN d)) ∨ ((writeN d).isSome = false ∧ e = .returned (.tuple #[.slice none 0 0, .bool false]))) ∧ BW w w'
set_option maxRecDepth 100000 in
set_option maxHeartbeats 8000000 in
theorem refText_any (c : Array Value) (d : RtpD) (w : World) (h : RtpV w c d) (wf : RtpWf d) (hpl : d.payload.length ≤ 1000000) :
    Calls Try.prog 79 #[.agg c] w (TextPost d w) := by
  unfold TextPost
  have cW := fun wz h => Lib.hid (refWrite_any c d wz h wf hpl)
  obtain ⟨hle, hX⟩ : ((writeN d).getD []).length ≤ 1200 ∧ txN d = putB 2 ((writeN d).getD []).length ++ (writeN d).getD [] := ⟨get_le d, rfl⟩
  generalize txN d = X at *
  obtain ⟨so_, co, se, ce, sp, cp, rfl, N, E, D⟩ := h.open
  have hN := N.len
  have hE := E.len
  have hD := D.len
  obtain ⟨mk, ty, sq, st, so, ot, xb, pf, ex, pl, pd⟩ := d
  dsimp only at *
  obtain ⟨_, _, e1, n1, m1⟩ := hN
  obtain ⟨_, _, e2, n2, m2⟩ := hE
  obtain ⟨_, _, e3, n3, m3⟩ := hD
  simp only [Value.slice.injEq, true_and] at e1 e2 e3
  obtain ⟨rfl, rfl⟩ := e1
  obtain ⟨rfl, rfl⟩ := e2
  obtain ⟨rfl, rfl⟩ := e3
  unfold maxLen at m1 m2 m3
  have P1 := Lib.hid (PkV.made w (rtpC mk ty sq st so (.slice so_ ot.length co) xb pf (.slice se ex.length ce) (.slice sp pl.length cp) pd))
  have B1 : Hid (BW w (w.alloc (.cells (rtpC mk ty sq st so (.slice so_ ot.length co) xb pf (.slice se ex.length ce) (.slice sp pl.length cp) pd) 28))) := (BW.refl w).alloc
  have V1 := Lib.hid (h.bw B1.out)
  clear N E D h wf
  unfold RefWritePost at cW
  generalize hWd : writeN ⟨mk, ty, sq, st, so, ot, xb, pf, ex, pl, pd⟩ = Wd at *
  generalize hdd : (⟨mk, ty, sq, st, so, ot, xb, pf, ex, pl, pd⟩ : RtpD) = dd at *
  simp only [rtpC] at *
  generalize ot.length = no at *
  generalize ex.length = ne at *
  generalize pl.length = np at *
  replace hWd := Lib.hid hWd
  replace hdd := Lib.hid hdd
  replace hX := Lib.hid hX
  go_enter Try.func79, Try.ntmps79
  go_upto_region 1 with (fail)
  generalize w.alloc (.cells #[.bool mk, .int .u8 (ty : Nat), .int .u16 (sq : Nat), .int .u32 (st : Nat), .int .u32 (so : Nat), .slice so_ no co, .bool xb, .int .u16 (pf : Nat), .slice se ne ce, .slice sp np cp, .int .u8 (pd : Nat)] 28) = w1 at *
  have z0 := hp_cell (P1.out) 0
  have z1 := hp_cell (P1.out) 1
  have z2 := hp_cell (P1.out) 2
  have z3 := hp_cell (P1.out) 3
  have z4 := hp_cell (P1.out) 4
  have z5 := hp_cell (P1.out) 5
  have z6 := hp_cell (P1.out) 6
  have z7 := hp_cell (P1.out) 7
  have z8 := hp_cell (P1.out) 8
  have z9 := hp_cell (P1.out) 9
  have z10 := hp_cell (P1.out) 10
  simp only [List.getElem?_toArray, List.getElem?_cons_zero, List.getElem?_cons_succ] at z0 z1 z2 z3 z4 z5 z6 z7 z8 z9 z10
  go_wp2_with fail
  refine Calls.mono (cW w1 V1.out).out ?_
  rintro e w2 ⟨hr, hb⟩
  clear z0 z1 z2 z3 z4 z5 z6 z7 z8 z9 z10
  have B2 := Lib.hid (B1.out.trans hb)
  rcases hr with ⟨b, v, rfl, rfl, O2⟩ | ⟨rfl, rfl⟩
  case inr =>
    clear cW V1 P1 B1 hb
    dsimp only
    go_wp2_with fail
    go_ret2
    exact ⟨.inr ⟨rfl, rfl⟩, B2.out⟩
  clear cW V1 P1 B1 hb
  obtain ⟨sb, cb, rfl, hcb, hmb⟩ := O2.len
  unfold maxLen at hmb
  simp only [Option.getD_some] at hX hle
  have S2 := Lib.hid O2.sb
  clear O2
  generalize hbl : b.length = nb at *
  replace hbl := Lib.hid hbl
  dsimp only
  go_upto_region 4 with (fail)
  have hp2 : putB 2 nb = [nb / 256, nb % 256] := by
    simp only [putB, List.range_succ, List.range_zero, List.nil_append, List.map_append, List.map_cons, List.map_nil, List.cons_append]
    simp
    omega
  have hiv : ivA .u8 (putB 2 nb) = #[.int .u8 ((nb : Int) / 256), .int .u8 ((nb : Int) % 256)] := by rw [hp2]; rfl
  have hz2 := B2.out.size
  have O3 := OB.new w2 w.heap.size (putB 2 nb) 2 hz2 (putB_len _ _) (by decide) (putB_byt _ _)
  rw [hiv] at O3
  have BA : BW w2 (w2.alloc (.cells #[.int .u8 ((nb : Int) / 256), .int .u8 ((nb : Int) % 256)] 5)) := (BW.refl _).alloc
  have S3 := Lib.hid (S2.out.bw BA)
  have B3 := Lib.hid (B2.out.trans BA)
  have hz3 := B3.out.size
  clear hiv hp2 S2 B2 hz2
  replace O3 := Lib.hid O3
  replace BA := Lib.hid BA
  go_wp2_with (at_builtin; go_must (refine wpList_apOB rfl _ _ rfl w.heap.size _ 2 _ rfl O3.out _ rfl nb _ S3.out (by omega) hz3 ?_; intro s4 c4 w4 hc4 hm4 O4 T4 B4 G4; unfold maxLen at hm4; replace O4 := Lib.hid O4; replace T4 := Lib.hid T4; clear G4 B4))
  have B5 := Lib.hid (BW.stP B3.out T4.out (fun j hj => O3.out.ge' j (Option.mem_toList.1 hj)))
  clear O3 B3 S3 T4
  go_ret2
  refine ⟨.inl ⟨rfl, _, rfl, ?_⟩, B5.out⟩
  have h1 := O4.out.1
  rw [hX, h1]
  exact O4.out
end Go.Proofs.Ytgiajnfmjpdodaa
