/- The law OfferReads: the walk. No condition beyond the row's own. -/
import Derived.Test.YtafhnlnhflehhaaGreatDoorOhY
import Derived.Test.YtafhnlnhflehhaaGreatDoorOhH
import Derived.Test.YtafhnlnhflehhaaGreatDoorOfZ
import Derived.Test.YtafhnlnhflehhaaGreatDoorOiN
namespace Go.Proofs.YtafhnlnhflehhaaGreatDoor
open Go.RowKit
theorem zero_off (w : World) : OffV w #[.int .i64 0, .slice none 0 0, .slice none 0 0] ⟨0, [], []⟩ none 0 none 0 := ⟨rfl, ewo_ewi (T := 41) (EQ.nil _ _ w 0), ehe_zero (T := 43) (EQ.nil _ _ w 0)⟩
theorem OffV.cells {w : World} {cs : Array Value} {d : OffD} {sW : Option Addr} {cW : Nat} {sH : Option Addr} {cH : Nat} (h : OffV w cs d sW cW sH cH) : cs.size = 3 ∧ cs.all (·.oneCell') = true := by
 obtain ⟨rfl, -, -⟩ := h
 exact ⟨rfl, by simp [offC, Value.oneCell']⟩
theorem RdRes.form {S : ByteArray} {w : World} {e : Ending} (h : RdRes S w e) : ∃ cs er d sW cW sH cH, e = .returned (.tuple #[.agg cs, .int .i64 er]) ∧ OffV w cs d sW cW sH cH ∧ ((er = 0 ∧ MayO d ∧ S.data.toList = offT d) ∨ (er = 3 ∧ (∀ o, MayO o → S.data.toList ≠ offT o) ∧ d = ⟨0, [], []⟩)) := by
 rcases h with ⟨d, cs, sW, cW, sH, cH, h1, h2, h3, rfl⟩ | ⟨h1, rfl⟩
 ·exact ⟨cs, 0, d, sW, cW, sH, cH, rfl, h3, .inl ⟨rfl, h1, h2⟩⟩
 ·exact ⟨_, 3, _, _, _, _, _, rfl, zero_off w, .inr ⟨rfl, h1, rfl⟩⟩
theorem RfRes.form {S : ByteArray} {w : World} {e : Ending} (h : RfRes S w e) : ∃ cs ok d sW cW sH cH, e = .returned (.tuple #[.agg cs, .bool ok]) ∧ OffV w cs d sW cW sH cH ∧ ((ok = true ∧ MayO d ∧ S.data.toList = offT d) ∨ (ok = false ∧ (∀ o, MayO o → S.data.toList ≠ offT o) ∧ d = ⟨0, [], []⟩)) := by
 rcases h with ⟨d, cs, sW, cW, sH, cH, h1, h2, h3, rfl⟩ | ⟨h1, rfl⟩
 ·exact ⟨cs, true, d, sW, cW, sH, cH, rfl, h3, .inl ⟨rfl, h1, h2⟩⟩
 ·exact ⟨_, false, _, _, _, _, _, rfl, zero_off w, .inr ⟨rfl, h1, rfl⟩⟩
theorem rd_both {S : ByteArray} {er : Int} {ok : Bool} {d d' : OffD} (h : (er = 0 ∧ MayO d ∧ S.data.toList = offT d) ∨ (er = 3 ∧ (∀ o, MayO o → S.data.toList ≠ offT o) ∧ d = ⟨0, [], []⟩)) (h' : (ok = true ∧ MayO d' ∧ S.data.toList = offT d') ∨ (ok = false ∧ (∀ o, MayO o → S.data.toList ≠ offT o) ∧ d' = ⟨0, [], []⟩)) : d' = d ∧ ((er = 0 ∧ ok = true) ∨ (er = 3 ∧ ok = false)) := by
 rcases h with ⟨e1, m1, t1⟩ | ⟨e1, n1, z1⟩ <;> rcases h' with ⟨e2, m2, t2⟩ | ⟨e2, n2, z2⟩
 ·exact ⟨offT_inj m2 m1 (t2.symm.trans t1), .inl ⟨e1, e2⟩⟩
 ·exact absurd t1 (n2 d m1)
 ·exact absurd t2 (n1 d' m2)
 ·exact ⟨z2.trans z1.symm, .inr ⟨e1, e2⟩⟩
set_option maxRecDepth 100000 in
set_option maxHeartbeats 8000000 in
theorem law_reads (S : ByteArray) (w : World) (hP : PowTab w) (hE : ErrC w) (hSp : SpC w) :
  Calls Tryz.prog 4 #[.string S] w fun e w' => e = .returned (.bool true) ∧ Below w.heap.size w w' := by
 have hH := Lib.hid (show PowTab w ∧ ErrC w ∧ SpC w from ⟨hP, hE, hSp⟩)
 clear hP hE hSp
 go_enter Tryz.func4, Tryz.ntmps4
 go_wp2_with fail
 refine Calls.mono (alive48 w) ?_
 rintro e w1 ⟨rfl, hb⟩
 have B := Lib.hid hb
 clear hb
 dsimp only
 by_cases hbig : 2000 < S.size
 ·have d : decide ((2000 : Int) < (S.size : Int)) = true := decide_eq_true (by omega)
  go_wp2_with fail
  go_ret
  exact ⟨rfl, B.out.bel⟩
 ·have d : decide ((2000 : Int) < (S.size : Int)) = false := decide_eq_false (by omega)
  have hsz : S.size ≤ 2000 := by omega
  go_wp2_with fail
  refine Calls.mono (pread_any S hsz w1 (numC_big w1 (hH.out.1.bw B.out)) (hH.out.2.1.bw B.out) (hH.out.2.2.bw B.out)) ?_
  rintro e w2 ⟨hr, hb⟩
  obtain ⟨cs1, er, d1, sW1, cW1, sH1, cH1, rfl, O1, hc1⟩ := hr.form
  replace B := Lib.hid (B.out.trans hb)
  have hk1 := O1.cells
  obtain ⟨hk1, hk2⟩ := hk1
  have X1 := HpB.new w2 (.cells cs1 25)
  have hbA := (BW.refl w2).alloc (o := .cells cs1 25)
  replace B := Lib.hid (B.out.trans hbA)
  replace O1 := Lib.hid (O1.bw hbA)
  clear hb hr hbA
  replace hc1 := Lib.hid hc1
  replace X1 := Lib.hid X1
  replace hsz := Lib.hid hsz
  dsimp only
  go_upto_region 6 with (refine swStN swOf rfl rfl rfl rfl rfl hk1 hk2 ?_)
  replace hk1 := Lib.hid hk1
  clear hk2 d
  generalize w2.alloc _ = w3 at *
  generalize w2.heap.size = g1 at *
  go_wp2_with fail
  refine Calls.mono (rread_any S hsz.out w3) ?_
  rintro e w4 ⟨hr, hb⟩
  obtain ⟨cs2, ok, d2, sW2, cW2, sH2, cH2, rfl, O2, hc2⟩ := hr.form
  obtain ⟨rfl, hboth⟩ := rd_both hc1.out hc2
  have hk2 := O2.cells
  obtain ⟨hk2, hk3⟩ := hk2
  have X2 := HpB.new w4 (.cells cs2 25)
  have hbA := (BW.refl w4).alloc (o := .cells cs2 25)
  replace B := Lib.hid ((B.out.trans hb).trans hbA)
  replace O1 := Lib.hid ((O1.out.bw hb).bw hbA)
  replace O2 := Lib.hid (O2.bw hbA)
  replace X1 := Lib.hid ((X1.out.bw hb).bw hbA)
  clear hb hr hbA hc1 hc2
  replace X2 := Lib.hid X2
  dsimp only
  go_upto_region 7 with (refine swStN swOf rfl rfl rfl rfl rfl hk2 hk3 ?_)
  replace hk2 := Lib.hid hk2
  clear hk3
  generalize w4.alloc _ = w5 at *
  generalize w4.heap.size = g2 at *
  have cE := Lib.hid (equal_any cs1 cs2 d2 sW1 sW2 sH1 sH2 cW1 cW2 cH1 cH2 w5 O1.out O2.out)
  rcases hboth with ⟨rfl, rfl⟩ | ⟨rfl, rfl⟩
  ·go_wp2_with (first | (refine swLdG swOf (by rfl) rfl rfl X1.out hk1.out ?_) | (refine swLdG swOf (by rfl) rfl rfl X2.out hk2.out ?_))
   refine Calls.mono cE.out ?_
   rintro e w6 ⟨rfl, hb⟩
   replace B := Lib.hid (B.out.trans hb)
   clear hb
   dsimp only
   go_wp2_with fail
   go_ret
   exact ⟨rfl, B.out.bel⟩
  ·go_wp2_with (first | (refine swLdG swOf (by rfl) rfl rfl X1.out hk1.out ?_) | (refine swLdG swOf (by rfl) rfl rfl X2.out hk2.out ?_))
   refine Calls.mono cE.out ?_
   rintro e w6 ⟨rfl, hb⟩
   replace B := Lib.hid (B.out.trans hb)
   clear hb
   dsimp only
   go_wp2_with fail
   go_ret
   exact ⟨rfl, B.out.bel⟩
end Go.Proofs.YtafhnlnhflehhaaGreatDoor
