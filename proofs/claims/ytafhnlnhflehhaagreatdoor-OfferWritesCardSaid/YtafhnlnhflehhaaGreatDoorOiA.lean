/- The law OfferWrites: the walk. No condition beyond the row's own. -/
import Derived.Test.YtafhnlnhflehhaaGreatDoorOhZ
namespace Go.Proofs.YtafhnlnhflehhaaGreatDoor
open Go.RowKit
theorem numB_may {d : OffD} (h : MayO d) : NumB d 1048576 := by
 obtain ⟨h1, ⟨h2, -, -, h3⟩, h4, -⟩ := h
 unfold Sm at h1
 refine ⟨Nat.le_refl _, by omega, fun i hi => ?_, fun i hi x hx => ?_, fun i hi => ?_, fun i hi => ?_, fun i hi => ?_⟩
 ·have := (h2 i hi).1; unfold Sm at this; omega
 ·obtain ⟨k, hk, rfl⟩ := List.mem_iff_getElem.1 hx
  exact h3 _ (src_mem hi hk)
 ·have := (h4 i hi).1; unfold Sm at this; omega
 ·have := (h4 i hi).2.1; unfold Sm at this; omega
 ·have := (h4 i hi).2.2.1; omega
set_option maxRecDepth 100000 in
set_option maxHeartbeats 8000000 in
theorem law_writes (cs : Array Value) (w : World) (h : Rd w offTy cs.toList) (hP : PowTab w) (hE : ErrC w) (hSp : SpC w) :
  Calls Tryz.prog 3 #[.agg cs] w fun e w' => e = .returned (.bool true) ∧ Below w.heap.size w w' := by
 obtain ⟨d, sW, cW, sH, cH, hO, -, -, -⟩ := off_of_Rd h
 clear h
 have hH := Lib.hid (show PowTab w ∧ ErrC w ∧ SpC w from ⟨hP, hE, hSp⟩)
 clear hP hE hSp
 have B := (BW.refl w).alloc (o := .cells cs 25)
 have X := HpB.new w (.cells cs 25)
 have hsz : cs.size = 3 := by rw [hO.e]; rfl
 have O := Lib.hid hO
 clear hO
 replace B := Lib.hid B
 replace X := Lib.hid X
 replace hsz := Lib.hid hsz
 go_enter Tryz.func3, Tryz.ntmps3
 go_upto_region 1 with (fail)
 generalize w.alloc _ = w1 at *
 generalize w.heap.size = g at *
 go_wp2_with fail
 refine Calls.mono (alive48 w1) ?_
 rintro e w2 ⟨rfl, hb⟩
 replace X := Lib.hid (X.out.bw hb)
 replace B := Lib.hid (B.out.trans hb)
 clear hb
 dsimp only
 go_wp2_with (refine swLd swOf rfl rfl rfl X.out hsz.out ?_)
 refine Calls.mono (great48_any cs d sW cW sH cH w2 (O.out.bw B.out)) ?_
 rintro e w3 ⟨⟨gb, rfl, hG⟩, hb⟩
 replace X := Lib.hid (X.out.bw hb)
 replace B := Lib.hid (B.out.trans hb)
 clear hb
 dsimp only
 cases gb with
 | true =>
  go_wp2_with fail
  go_ret
  exact ⟨rfl, B.out.bel⟩
 | false =>
  obtain ⟨g1, g2, g3⟩ := hG rfl
  clear hG
  go_wp2_with (refine swLd swOf rfl rfl rfl X.out hsz.out ?_)
  refine Calls.mono (write_any cs d sW cW sH cH 1048576 w3 (O.out.bw B.out) g2 g1 g3 (numC_big w3 (hH.out.1.bw B.out)) numB_may) ?_
  rintro e w4 ⟨hr, hb⟩
  replace X := Lib.hid (X.out.bw hb)
  replace B := Lib.hid (B.out.trans hb)
  clear hb
  have cR := Lib.hid (fun (y : World) (hy : BW w y) => rmay_any cs d sW cW sH cH y (O.out.bw hy))
  rcases hr with ⟨hM, S1, hS1, hs1, rfl⟩ | ⟨hM, rfl⟩
  ·replace hM := Lib.hid hM
   replace hS1 := Lib.hid hS1
   replace hs1 := Lib.hid hs1
   dsimp only
   go_wp2_with (refine swLd swOf rfl rfl rfl X.out hsz.out ?_)
   refine Calls.mono (cR.out w4 B.out) ?_
   rintro e w5 ⟨⟨b, rfl, hb1⟩, hb⟩
   obtain rfl : b = true := hb1.2 hM.out
   replace X := Lib.hid (X.out.bw hb)
   replace B := Lib.hid (B.out.trans hb)
   clear hb hb1 cR
   dsimp only
   go_wp2_with fail
   refine Calls.mono (pread_any S1 (by have := hs1.out; omega) w5 (numC_big w5 (hH.out.1.bw B.out)) (hH.out.2.1.bw B.out) (hH.out.2.2.bw B.out)) ?_
   rintro e w6 ⟨hr, hb⟩
   obtain ⟨cs1, er, d1, sW1, cW1, sH1, cH1, rfl, O1, hc1⟩ := hr.form
   obtain ⟨rfl, rfl⟩ : er = 0 ∧ d1 = d := by
    rcases hc1 with ⟨h1, h2, h3⟩ | ⟨h1, h2, h3⟩
    ·exact ⟨h1, offT_inj h2 hM.out (h3.symm.trans hS1.out)⟩
    ·exact absurd hS1.out (h2 d hM.out)
   obtain ⟨hk1, hk2⟩ := O1.cells
   have X1 := HpB.new w6 (.cells cs1 25)
   have hbA := (BW.refl w6).alloc (o := .cells cs1 25)
   replace B := Lib.hid ((B.out.trans hb).trans hbA)
   replace O1 := Lib.hid (O1.bw hbA)
   replace X := Lib.hid ((X.out.bw hb).bw hbA)
   clear hb hr hbA hc1
   replace X1 := Lib.hid X1
   dsimp only
   go_upto_region 9 with (refine swStN swOf rfl rfl rfl rfl rfl hk1 hk2 ?_)
   replace hk1 := Lib.hid hk1
   clear hk2
   generalize w6.alloc _ = w7 at *
   generalize w6.heap.size = g5 at *
   go_wp2_with (refine swLdG swOf (by rfl) rfl rfl X.out hsz.out ?_)
   refine Calls.mono (rwrite_any cs d1 sW cW sH cH w7 (O.out.bw B.out) hM.out) ?_
   rintro e w8 ⟨⟨S2, hS2, -, rfl⟩, hb⟩
   obtain rfl : S2 = S1 := ba_ext (by rw [hS2, hS1.out])
   have dS : (S2.toList == S2.toList) = true := beq_self_eq_true _
   replace B := Lib.hid (B.out.trans hb)
   replace O1 := Lib.hid (O1.out.bw hb)
   replace X := Lib.hid (X.out.bw hb)
   replace X1 := Lib.hid (X1.out.bw hb)
   have cE := Lib.hid (equal_any cs cs1 d1 sW sW1 sH sH1 cW cW1 cH cH1 w8 (O.out.bw B.out) O1.out)
   clear hb hS2
   dsimp only
   go_wp2_with (first | (refine swLdG swOf (by rfl) rfl rfl X.out hsz.out ?_) | (refine swLdG swOf (by rfl) rfl rfl X1.out hk1.out ?_))
   refine Calls.mono cE.out ?_
   rintro e w9 ⟨rfl, hb⟩
   replace B := Lib.hid (B.out.trans hb)
   clear hb
   dsimp only
   go_wp2_with fail
   go_ret
   exact ⟨rfl, B.out.bel⟩
  ·replace hM := Lib.hid hM
   dsimp only
   go_wp2_with (refine swLd swOf rfl rfl rfl X.out hsz.out ?_)
   refine Calls.mono (cR.out w4 B.out) ?_
   rintro e w5 ⟨⟨b, rfl, hb1⟩, hb⟩
   obtain rfl : b = false := by
    cases b with
    | false => rfl
    | true => exact absurd (hb1.1 rfl) hM.out
   replace B := Lib.hid (B.out.trans hb)
   clear hb hb1 cR
   dsimp only
   go_wp2_with fail
   go_ret
   exact ⟨rfl, B.out.bel⟩
end Go.Proofs.YtafhnlnhflehhaaGreatDoor
