/- The law FecBack. No condition. -/
import Derived.Test.YtgiajnfmjpdodaaFeW
namespace Go.Proofs.Ytgiajnfmjpdodaa
open Go.RowKit

set_option maxRecDepth 100000 in
set_option maxHeartbeats 8000000 in
theorem law_fback (a : Option Addr) (len cap : Nat) (at_ : Int) (w : World) (h : Rd w (.loop rtpTy) [.slice a len cap]) (hat : (Lit.int .u8 at_).wf = true) :
    Calls Try.prog 15 #[.slice a len cap, .int .u8 at_] w fun e w' => e = .returned (.bool true) ∧ Below w.heap.size w w' := by
  obtain ⟨D, hv⟩ := rtps_at h
  obtain ⟨_, _, he, hn, hm⟩ := hv.sl
  simp only [Value.slice.injEq, true_and] at he
  obtain ⟨rfl, rfl⟩ := he
  unfold maxLen at hm
  have hb8 := bounds_u8 hat
  obtain ⟨an, rfl⟩ := Int.eq_ofNat_of_zero_le hb8.1
  clear h hat
  have ha := Lib.hid (fec_alive w)
  have hV := Lib.hid hv
  have hdl := Lib.hid hv.dl
  clear hv
  go_enter Try.func15, Try.ntmps15
  go_wp2_with fail
  refine Calls.mono ha.out ?_
  rintro e w1 ⟨rfl, B1⟩
  replace B1 := Lib.hid B1
  clear ha
  have cG := Lib.hid (great_any _ _ _ w1 (hV.out.bw B1.out))
  cases hg : greatB D with
  | true =>
    rw [hg] at cG
    replace hg := Lib.hid hg
    go_wp2_with fail
    refine Calls.mono cG.out ?_
    rintro e w2 ⟨rfl, rfl⟩
    clear cG
    go_wp2_with fail
    go_ret
    exact ⟨rfl, B1.out⟩
  | false =>
    rw [hg] at cG
    obtain ⟨hs1, hs2⟩ := great_small hg
    rw [hdl.out] at hs1
    have hpl : ∀ d ∈ D, d.payload.length ≤ 1000000 := fun d hd => by have := (hs2 d hd).1; omega
    have cM := Lib.hid (make_any _ _ _ w1 (hV.out.bw B1.out) (by omega) hpl)
    unfold MakePost at cM
    have hwf := hV.out.wf
    generalize hR : makeN D = R at *
    replace hg := Lib.hid hg
    replace hs2 := Lib.hid hs2
    replace hpl := Lib.hid hpl
    replace hR := Lib.hid hR
    replace hwf := Lib.hid hwf
    go_wp2_with fail
    refine Calls.mono cG.out ?_
    rintro e w2 ⟨rfl, rfl⟩
    clear cG
    go_wp2_with fail
    refine Calls.mono cM.out ?_
    rintro e w2 ⟨hr, hb⟩
    have B2 := Lib.hid (B1.out.trans hb)
    clear cM hb B1
    rcases hr with ⟨b, v, rfl, rfl, O⟩ | ⟨rfl, rfl⟩
    case inr =>
      dsimp only
      go_wp2_with fail
      go_ret
      exact ⟨rfl, B2.out⟩
    obtain ⟨f, m, C, hbO, hbl⟩ := cov_of hwf.out hR.out
    have h2D := C.two
    rw [hdl.out] at h2D
    obtain ⟨kx, hkx⟩ : ∃ kx : Nat, an % len = kx := ⟨_, rfl⟩
    have hkl : kx < len := by rw [← hkx]; exact Nat.mod_lt _ (by omega)
    have hrem : (an : Int) % (len : Int) = (kx : Int) := by rw [← hkx]; push_cast; rfl
    have hkD : kx < D.length := by rw [hdl.out]; exact hkl
    obtain ⟨s2, c2, rfl, hc2, hm2⟩ := O.len
    unfold maxLen at hm2
    have h6 := C.len6
    obtain ⟨hf1, hf2⟩ := outN_first D C.f16 C.m16
    rw [← hbO] at h6 hf1 hf2
    generalize hbl2 : b.length = nb at *
    have O2 := Lib.hid O
    have hD : D = D.take kx ++ D[kx] :: D.drop (kx + 1) := by
      rw [← List.drop_eq_getElem_cons hkD, List.take_append_drop]
    have hE : D.eraseIdx kx = D.take kx ++ D.drop (kx + 1) := List.eraseIdx_eq_take_drop_succ _ _
    have hmemE : ∀ d ∈ D.eraseIdx kx, d ∈ D := fun d hd => (List.eraseIdx_sublist D kx).mem hd
    have hlE : (D.eraseIdx kx).length ≤ 40 := Nat.le_trans (List.eraseIdx_sublist D kx).length_le (by rw [hdl.out]; exact hs1)
    obtain ⟨hX1, hX2⟩ := CovOf.mend (D1 := D.take kx) (D2 := D.drop (kx + 1)) (x := D[kx]) (by rw [← hD]; exact C)
    have hla := CovOf.lacks (D1 := D.take kx) (D2 := D.drop (kx + 1)) (x := D[kx]) (f := f) (m := m) (by rw [← hD]; exact C)
    rw [← hD, ← hE, ← hbO] at hX1 hX2
    rw [← hE] at hla
    obtain ⟨kk, hd, k1, k2, k3, k4, k5⟩ := mended (hwf.out _ (List.getElem_mem hkD)) (C.ok _ (List.getElem_mem hkD)) hX1 hX2
    have cM1 := fun sa n' cap' wz (h : RL wz (.slice sa n' cap') n' (D.eraseIdx kx)) (hb : BW w2 wz) (hn' : n' ≤ 1000000) => Lib.hid (mend_one w1.heap.size (.slice s2 nb c2) nb b f m sa n' cap' (D.eraseIdx kx) wz (O2.out.bw hb) (by omega) h hn' h6 hf1 hf2 C.f16 C.m16 C.odd C.many (fun d hd => hpl.out d (hmemE d hd)) (fun d hd => C.ok d (hmemE d hd)) (D[kx]).seq hla _ rfl kk hd D[kx] k1 k2 k3 k4 k5 rfl)
    have cM2 := fun wz (h : RL wz (.slice a len cap) len D) (hb : BW w2 wz) => Lib.hid (mend_none w1.heap.size (.slice s2 nb c2) nb b f m a len cap D wz (O2.out.bw hb) (by omega) h (by omega) h6 hf1 hf2 C.f16 C.m16 C.odd C.many C.all)
    unfold MendPost at cM1
    unfold NonePost at cM2
    have hV2 := Lib.hid (hV.out.bw B2.out)
    have E0 : Hid (EQ (RV w2) 28 w2 0 (.slice none 0 0) 0 ((D.take 0).eraseIdx kx)) := Lib.hid (by rw [List.take_zero, List.eraseIdx_nil]; exact EQ.nil _ _ _ _)
    clear hX1 hX2 hla k1 k2 k3 k4 k5 hE hD hf1 hf2 C hbO O hkx h6 hbl
    replace hmemE := Lib.hid hmemE
    replace hlE := Lib.hid hlE
    replace hbl2 := Lib.hid hbl2
    dsimp only
    go_upto_region 11 with (fail)
    rw [hrem]
    clear hrem
    go_loopg [8, 9] len (fun m' ls i wx => ∃ (k r : Nat) (so : Option Addr) (co : Nat), m' = len - k ∧ k ≤ len ∧ ls = .slice so r co ∧ r ≤ k ∧ co ≤ 9223372036854775807 ∧ i = .int .i64 (k : Nat) ∧ Hid (EQ (RV w2) 28 wx 0 (.slice so r co) r ((D.take k).eraseIdx kx)) ∧ Hid (∀ j, (Value.slice so r co).ownBlock = some j → w2.heap.size ≤ j) ∧ Hid (BW w2 wx))
    case atStart => exact ⟨0, 0, none, 0, rfl, by omega, rfl, by omega, by omega, rfl, E0, (fun j hj => by cases hj), BW.refl _⟩
    case round =>
      clear E0
      obtain ⟨k, r, so, co, rfl, hk, rfl, hr, hco, rfl, T, F, B⟩ := hrel
      by_cases hkn : k < len
      · have d : decide ((k : Int) < (len : Int)) = true := by simp; omega
        have hk2 : k < D.length := by rw [hdl.out]; exact hkn
        by_cases hkk : k = kx
        · have q : ((k : Int) != (kx : Int)) = false := by rw [hkk]; simp
          have T2 : EQ (RV w2) 28 wr 0 (.slice so r co) r ((D.take (k + 1)).eraseIdx kx) := by
            have h := T.out
            rw [hkk] at h ⊢
            rw [lf_no hkD]
            exact h
          clear T
          replace hkk := Lib.hid hkk
          replace T2 := Lib.hid T2
          go_wp2_with fail
          go_roundg (len - (k + 1))
          case measure => omega
          case rel => exact ⟨k + 1, r, so, co, rfl, by omega, rfl, by omega, hco, by push_cast; rfl, T2, F, B⟩
        · have q : ((k : Int) != (kx : Int)) = true := by rw [bne_iff_ne]; omega
          have hlf := lf_yes hk2 hkk
          obtain ⟨ba, oa, rfl, hc⟩ := hV2.out.form (by omega)
          obtain ⟨s5, c5, s8, c8, s9, c9, hV0, n1, m1, n2, m2, n3, m3, hcc⟩ := hc k hk2
          have z0 := hcc 0 (by decide)
          have z1 := hcc 1 (by decide)
          have z2 := hcc 2 (by decide)
          have z3 := hcc 3 (by decide)
          have z4 := hcc 4 (by decide)
          have z5 := hcc 5 (by decide)
          have z6 := hcc 6 (by decide)
          have z7 := hcc 7 (by decide)
          have z8 := hcc 8 (by decide)
          have z9 := hcc 9 (by decide)
          have z10 := hcc 10 (by decide)
          simp only [rtpC, List.getElem?_toArray, List.getElem?_cons_zero, List.getElem?_cons_succ, Nat.add_zero] at z0 z1 z2 z3 z4 z5 z6 z7 z8 z9 z10
          replace z0 := B.out.cell z0
          replace z1 := B.out.cell z1
          replace z2 := B.out.cell z2
          replace z3 := B.out.cell z3
          replace z4 := B.out.cell z4
          replace z5 := B.out.cell z5
          replace z6 := B.out.cell z6
          replace z7 := B.out.cell z7
          replace z8 := B.out.cell z8
          replace z9 := B.out.cell z9
          replace z10 := B.out.cell z10
          clear hcc hc
          simp only [rtpC] at hV0
          generalize D[k] = dk at *
          generalize dk.marker = mk_ at *
          generalize dk.typ = ty at *
          generalize dk.seq = sq at *
          generalize dk.stamp = st at *
          generalize dk.source = so_ at *
          generalize dk.others.length = no at *
          generalize dk.ext = xb_ at *
          generalize dk.profile = pf at *
          generalize dk.extra.length = ne at *
          generalize dk.payload.length = np at *
          generalize dk.pad = pd at *
          have BA : BW wr (wr.alloc (.cells #[.bool mk_, .int .u8 (ty : Nat), .int .u16 (sq : Nat), .int .u32 (st : Nat), .int .u32 (so_ : Nat), .slice s5 no c5, .bool xb_, .int .u16 (pf : Nat), .slice s8 ne c8, .slice s9 np c9, .int .u8 (pd : Nat)] 28)) := (BW.refl _).alloc
          have L3 := Lib.hid (Sls.new1 (E := RV w2) wr 28 [.bool mk_, .int .u8 (ty : Nat), .int .u16 (sq : Nat), .int .u32 (st : Nat), .int .u32 (so_ : Nat), .slice s5 no c5, .bool xb_, .int .u16 (pf : Nat), .slice s8 ne c8, .slice s9 np c9, .int .u8 (pd : Nat)] rfl)
          have OT : Hid ((RV w2).R (wr.alloc (.cells #[.bool mk_, .int .u8 (ty : Nat), .int .u16 (sq : Nat), .int .u32 (st : Nat), .int .u32 (so_ : Nat), .slice s5 no c5, .bool xb_, .int .u16 (pf : Nat), .slice s8 ne c8, .slice s9 np c9, .int .u8 (pd : Nat)] 28)) 0 dk [.bool mk_, .int .u8 (ty : Nat), .int .u16 (sq : Nat), .int .u32 (st : Nat), .int .u32 (so_ : Nat), .slice s5 no c5, .bool xb_, .int .u16 (pf : Nat), .slice s8 ne c8, .slice s9 np c9, .int .u8 (pd : Nat)]) := Lib.hid ⟨rfl, B.out.trans BA, _, rfl, hV0⟩
          have T9 := Lib.hid (T.out.bw BA)
          have B9 := Lib.hid (B.out.trans BA)
          have hz9 := B9.out.size
          clear T B hV0
          replace BA := Lib.hid BA
          replace hlf := Lib.hid hlf
          replace hkk := Lib.hid hkk
          go_wp2_with (at_builtin; go_must (refine wpList_apEQ slRtp rfl _ _ rfl 0 (.slice so r co) r ((D.take k).eraseIdx kx) rfl T9.out _ rfl 1 [dk] [.bool mk_, .int .u8 (ty : Nat), .int .u16 (sq : Nat), .int .u32 (st : Nat), .int .u32 (so_ : Nat), .slice s5 no c5, .bool xb_, .int .u16 (pf : Nat), .slice s8 ne c8, .slice s9 np c9, .int .u8 (pd : Nat)] L3.out (EL.single OT.out) rfl (by omega) (Nat.zero_le _) (fun j hj => F.out j (by simpa using hj)) ?_; intro s11 c11 w11 hc11 hm11 O11 T11 hb11 G11; unfold maxLen at hm11; replace O11 := Lib.hid O11; replace T11 := Lib.hid T11; replace G11 := Lib.hid G11; clear hb11))
          have B12 := Lib.hid (BW.stP B9.out T11.out (fun j hj => F.out j (by simpa using hj)))
          rw [← hlf.out] at O11
          have F12 : Hid (∀ j, (Value.slice s11 (r + 1) c11).ownBlock = some j → w2.heap.size ≤ j) := Lib.hid (fun j hj => by
            rcases G11.out j hj with h | h
            · exact F.out j h
            · exact Nat.le_trans hz9 h)
          clear T11 T9 B9 L3 OT G11 hz9 z0 z1 z2 z3 z4 z5 z6 z7 z8 z9 z10
          go_wp2_with fail
          go_roundg (len - (k + 1))
          case measure => omega
          case rel => exact ⟨k + 1, r + 1, s11, c11, rfl, by omega, rfl, by omega, hm11, by push_cast; rfl, O11, F12, B12⟩
      · obtain rfl : k = len := by omega
        have d : decide ((k : Int) < (k : Int)) = false := by simp
        have htk : D.take k = D := List.take_of_length_le (by rw [hdl.out]; exact Nat.le_refl _)
        rw [htk] at T
        have cA := cM1 _ _ _ wr (RL.of_rv T.out (fun d hd => hwf.out d (hmemE.out d hd))) B.out (by omega)
        have hVx := hV2.out
        obtain ⟨ba, oa, rfl, hc⟩ := hVx.form (by omega)
        obtain ⟨s5, c5, s8, c8, s9, c9, hV0, n1, m1, n2, m2, n3, m3, hcc⟩ := hc kx hkD
        have z0 := hcc 0 (by decide)
        have z1 := hcc 1 (by decide)
        have z2 := hcc 2 (by decide)
        have z3 := hcc 3 (by decide)
        have z4 := hcc 4 (by decide)
        have z5 := hcc 5 (by decide)
        have z6 := hcc 6 (by decide)
        have z7 := hcc 7 (by decide)
        have z8 := hcc 8 (by decide)
        have z9 := hcc 9 (by decide)
        have z10 := hcc 10 (by decide)
        simp only [rtpC, List.getElem?_toArray, List.getElem?_cons_zero, List.getElem?_cons_succ, Nat.add_zero] at z0 z1 z2 z3 z4 z5 z6 z7 z8 z9 z10
        clear hcc hc htk T F cM1 hVx
        simp only [rtpC] at hV0
        generalize D[kx] = dk at *
        replace hV0 := Lib.hid hV0
        go_wp2_with fail
        refine Calls.mono cA.out ?_
        rintro e w3 ⟨c, rfl, O3, hb⟩
        obtain ⟨t5, e5, t8, e8, t9, e9, rfl, -, -, -⟩ := O3.open
        have B3 := Lib.hid (B.out.trans hb)
        have V3 := Lib.hid O3.v
        clear cA hb B O3
        simp only [rtpC] at V3 ⊢
        have B4 : Hid (BW w3 (w3.alloc (.cells (rtpC dk.marker dk.typ dk.seq dk.stamp dk.source (.slice t5 dk.others.length e5) dk.ext dk.profile (.slice t8 dk.extra.length e8) (.slice t9 dk.payload.length e9) dk.pad) 28))) := (BW.refl _).alloc
        have P4 := Lib.hid (PkV.made w3 (rtpC dk.marker dk.typ dk.seq dk.stamp dk.source (.slice t5 dk.others.length e5) dk.ext dk.profile (.slice t8 dk.extra.length e8) (.slice t9 dk.payload.length e9) dk.pad))
        simp only [rtpC] at B4 P4
        generalize dk.marker = mk_ at *
        generalize dk.typ = ty at *
        generalize dk.seq = sq at *
        generalize dk.stamp = st at *
        generalize dk.source = so_ at *
        generalize dk.others.length = no at *
        generalize dk.ext = xb_ at *
        generalize dk.profile = pf at *
        generalize dk.extra.length = ne at *
        generalize dk.payload.length = np at *
        generalize dk.pad = pd at *
        go_upto_region 16 with (fail)
        generalize w3.alloc (.cells #[.bool mk_, .int .u8 (ty : Nat), .int .u16 (sq : Nat), .int .u32 (st : Nat), .int .u32 (so_ : Nat), .slice t5 no e5, .bool xb_, .int .u16 (pf : Nat), .slice t8 ne e8, .slice t9 np e9, .int .u8 (pd : Nat)] 28) = w4 at *
        generalize w3.heap.size = g4 at *
        have cB := cM2 w4 (hV2.out.bw (B3.out.trans B4.out)) (B3.out.trans B4.out)
        clear cM2
        go_wp2_with fail
        refine Calls.mono cB.out ?_
        rintro e w5 ⟨rfl, hb⟩
        clear cB
        simp only [zC, rtpC]
        have BA : BW w5 (w5.alloc (.cells #[.bool false, .int .u8 0, .int .u16 0, .int .u32 0, .int .u32 0, .slice none 0 0, .bool false, .int .u16 0, .slice none 0 0, .slice none 0 0, .int .u8 0] 28)) := (BW.refl _).alloc
        have B6 := Lib.hid (((B3.out.trans B4.out).trans hb).trans BA)
        have P6 := Lib.hid ((P4.out.bw hb).bw BA)
        have V6 := Lib.hid (((V3.out.bw B4.out).bw hb).bw BA)
        clear BA hb B3 B4 P4 V3
        go_upto_region 17 with (fail)
        generalize w5.alloc (.cells #[.bool false, .int .u8 0, .int .u16 0, .int .u32 0, .int .u32 0, .slice none 0 0, .bool false, .int .u16 0, .slice none 0 0, .slice none 0 0, .int .u8 0] 28) = w6 at *
        have U6 := Lib.hid (hV0.out.bw B6.out)
        have cS := fun wz (hb : BW w6 wz) => Lib.hid (same_true _ _ dk wz (V6.out.bw hb) (U6.out.bw hb))
        have m0 : ∀ y : LaterS [] w6, _ := fun y => y.bw.cell (B6.out.cell z0)
        have m1' : ∀ y : LaterS [] w6, _ := fun y => y.bw.cell (B6.out.cell z1)
        have m2' : ∀ y : LaterS [] w6, _ := fun y => y.bw.cell (B6.out.cell z2)
        have m3' : ∀ y : LaterS [] w6, _ := fun y => y.bw.cell (B6.out.cell z3)
        have m4' : ∀ y : LaterS [] w6, _ := fun y => y.bw.cell (B6.out.cell z4)
        have m5' : ∀ y : LaterS [] w6, _ := fun y => y.bw.cell (B6.out.cell z5)
        have m6' : ∀ y : LaterS [] w6, _ := fun y => y.bw.cell (B6.out.cell z6)
        have m7' : ∀ y : LaterS [] w6, _ := fun y => y.bw.cell (B6.out.cell z7)
        have m8' : ∀ y : LaterS [] w6, _ := fun y => y.bw.cell (B6.out.cell z8)
        have m9' : ∀ y : LaterS [] w6, _ := fun y => y.bw.cell (B6.out.cell z9)
        have m10' : ∀ y : LaterS [] w6, _ := fun y => y.bw.cell (B6.out.cell z10)
        clear z0 z1 z2 z3 z4 z5 z6 z7 z8 z9 z10 V6 U6
        replace cS := Lib.hid cS
        refine wp_region_gg [] [] [] (by kernel_rfl) ?_
        refine hoist [] [] (a1 := ?_) 0 rfl (by kernel_rfl) (.inl ⟨rfl, rfl⟩) rfl rfl rfl (fun x K hK => ?_) ?_
        rotate_left
        · go_big_quiet_op
          exact hK
        refine hoist [] [] (a1 := ?_) 1 rfl (by kernel_rfl) (.inl ⟨rfl, rfl⟩) rfl rfl rfl (fun x K hK => ?_) ?_
        rotate_left
        · go_big_quiet_op
          exact hK
        refine hoist [] [] (a1 := ?_) 2 rfl (by kernel_rfl) (.inl ⟨rfl, rfl⟩) rfl rfl rfl (fun x K hK => ?_) ?_
        rotate_left
        · go_big_quiet_op
          exact hK
        refine hoist [] [] (a1 := ?_) 3 rfl (by kernel_rfl) (.inl ⟨rfl, rfl⟩) rfl rfl rfl (fun x K hK => ?_) ?_
        rotate_left
        · refine qlR rfl (by rfl) rfl (fun w' hw => by subst hw; exact P6.out.bw x.bw) (by simp only [Act.put, List.setIfInBounds_toArray, List.set_cons_succ, List.set_cons_zero]; rfl) ?_
          exact hK
        refine hoist [] [] (a1 := ?_) 4 rfl (by kernel_rfl) (.inl ⟨rfl, rfl⟩) rfl rfl rfl (fun x K hK => ?_) ?_
        rotate_left
        · go_big_quiet_op
          exact hK
        refine hoist [] [] (a1 := ?_) 5 rfl (by kernel_rfl) (.inl ⟨rfl, rfl⟩) rfl rfl rfl (fun x K hK => ?_) ?_
        rotate_left
        · go_big_quiet_op
          exact hK
        refine hoist [] [] (a1 := ?_) 6 rfl (by kernel_rfl) (.inl ⟨rfl, rfl⟩) rfl rfl rfl (fun x K hK => ?_) ?_
        rotate_left
        · go_big_quiet_op
          exact hK
        refine hoist [] [] (a1 := ?_) 7 rfl (by kernel_rfl) (.inl ⟨rfl, rfl⟩) rfl rfl rfl (fun x K hK => ?_) ?_
        rotate_left
        · go_big_quiet_op
          exact hK
        refine effect 8 rfl (by kernel_rfl) (by kernel_rfl) rfl (fun x8 K hK => ?_)
        go_simp
        refine Calls.mono (cS.out x8.now x8.bw).out ?_
        rintro e w7 ⟨rfl, hb⟩
        refine hK _ _ (Still.of_below hb) ?_
        clear hK K
        have B7 := Lib.hid ((B6.out.trans x8.bw).trans hb)
        clear hb B6
        try simp only [Act.put, List.setIfInBounds_toArray, List.set_cons_succ, List.set_cons_zero]
        refine hoist [] [] (a1 := ?_) 9 rfl (by kernel_rfl) (.inl ⟨rfl, rfl⟩) rfl rfl rfl (fun x K hK => ?_) ?_
        rotate_left
        · go_big_quiet_op
          exact hK
        refine hoist [] [] (a1 := ?_) 10 rfl (by kernel_rfl) (.inl ⟨rfl, rfl⟩) rfl rfl rfl (fun x K hK => ?_) ?_
        rotate_left
        · go_big_quiet_op
          exact hK
        refine hoist [] [] (a1 := ?_) 11 rfl (by kernel_rfl) (.inl ⟨rfl, rfl⟩) rfl rfl rfl (fun x K hK => ?_) ?_
        rotate_left
        · go_big_quiet_op
          exact hK
        refine hoist [] [] (a1 := ?_) 12 rfl (by kernel_rfl) (.inl ⟨rfl, rfl⟩) rfl rfl rfl (fun x K hK => ?_) ?_
        rotate_left
        · go_big_quiet_op
          exact hK
        refine hoist [] [] (a1 := ?_) 13 rfl (by kernel_rfl) (.inl ⟨rfl, rfl⟩) rfl rfl rfl (fun x K hK => ?_) ?_
        rotate_left
        · go_big_quiet_op
          exact hK
        refine hoist [] [] (a1 := ?_) 14 rfl (by kernel_rfl) (.inl ⟨rfl, rfl⟩) rfl rfl rfl (fun x K hK => ?_) ?_
        rotate_left
        · go_big_quiet_op
          exact hK
        refine done (by kernel_rfl) (fun xr => ?_)
        have B8 := Lib.hid ((B2.out.trans B7.out).trans xr.bw)
        go_wp2_with fail
        go_ret
        exact ⟨rfl, B8.out⟩
end Go.Proofs.Ytgiajnfmjpdodaa
