/- The law PacerPlays. No condition. -/
import Derived.Test.YtgiajnfmjpdodaaPaW
import Derived.Test.YtgiajnfmjpdodaaPaK
namespace Go.Proofs.Ytgiajnfmjpdodaa
open Go.RowKit


set_option maxRecDepth 100000 in
set_option maxHeartbeats 8000000 in
theorem law_pplays (r u pk by_ : Int) (a : Option Addr) (len cap : Nat) (w : World) (wr : (Lit.int .u64 r).wf = true) (wu : (Lit.int .u64 u).wf = true) (wp : (Lit.int .i64 pk).wf = true) (wy : (Lit.int .i64 by_).wf = true) (wl : Rd w (.loop popTy) [.slice a len cap]) :
    Calls Try.prog 9 #[.int .u64 r, .int .u64 u, .int .i64 pk, .int .i64 by_, .slice a len cap] w fun e w' => e = .returned (.bool true) ∧ Below w.heap.size w w' := by
  obtain ⟨r0, r1⟩ := bounds_u64 wr
  obtain ⟨u0, u1⟩ := bounds_u64 wu
  obtain ⟨p0, p1⟩ := bounds_i64 wp
  obtain ⟨y0, y1⟩ := bounds_i64 wy
  obtain ⟨hlc, hcm, hops⟩ := pop_at wl
  unfold maxLen at hcm
  clear wr wu wp wy wl
  have ha := Lib.hid (pac_alive w)
  replace hops := Lib.hid hops
  go_enter Try.func9, Try.ntmps9
  go_wp2_with fail
  refine Calls.mono ha.out ?_
  rintro e w1 ⟨rfl, B1⟩
  replace B1 := Lib.hid B1
  clear ha
  dsimp only
  by_cases hno : pk < 1 ∨ by_ < 1
  · have cN := Lib.hid (pnew_no r u pk by_ w1 hno)
    go_wp2_with fail
    refine Calls.mono cN.out ?_
    rintro e w2 ⟨rfl, rfl⟩
    clear cN
    dsimp only
    have hbad : (decide (pk < 1) = true) ∨ (decide (pk < 1) = false ∧ decide (by_ < 1) = true) := by
      by_cases h : pk < 1
      · exact .inl (by simpa using h)
      · exact .inr ⟨by simpa using h, by simp; omega⟩
    rcases hbad with d1 | ⟨d1, d2⟩
    · go_wp2_with fail
      refine Calls.mono (nil_push 1 _ _ 0 (by decide)) ?_
      rintro e w3 ⟨rfl, hb⟩
      have B3 := Lib.hid (B1.out.trans ((BW.refl w1).alloc.trans hb))
      clear hb
      dsimp only
      go_wp2_with fail
      refine Calls.mono (nil_out w3) ?_
      rintro e w4 ⟨rfl, rfl⟩
      dsimp only
      go_wp2_with fail
      refine Calls.mono (nil_len w3) ?_
      rintro e w4 ⟨rfl, rfl⟩
      dsimp only
      go_wp2_with fail
      refine Calls.mono (nil_size w3) ?_
      rintro e w4 ⟨rfl, rfl⟩
      dsimp only
      go_wp2_with fail
      refine Calls.mono (nil_gone w3) ?_
      rintro e w4 ⟨rfl, rfl⟩
      dsimp only
      go_wp2_with fail
      go_ret
      exact ⟨rfl, B3.out⟩
    · go_wp2_with fail
      refine Calls.mono (nil_push 1 _ _ 0 (by decide)) ?_
      rintro e w3 ⟨rfl, hb⟩
      have B3 := Lib.hid (B1.out.trans ((BW.refl w1).alloc.trans hb))
      clear hb
      dsimp only
      go_wp2_with fail
      refine Calls.mono (nil_out w3) ?_
      rintro e w4 ⟨rfl, rfl⟩
      dsimp only
      go_wp2_with fail
      refine Calls.mono (nil_len w3) ?_
      rintro e w4 ⟨rfl, rfl⟩
      dsimp only
      go_wp2_with fail
      refine Calls.mono (nil_size w3) ?_
      rintro e w4 ⟨rfl, rfl⟩
      dsimp only
      go_wp2_with fail
      refine Calls.mono (nil_gone w3) ?_
      rintro e w4 ⟨rfl, rfl⟩
      dsimp only
      go_wp2_with fail
      go_ret
      exact ⟨rfl, B3.out⟩
  have hk1 : 1 ≤ pk := by omega
  have hy1 : 1 ≤ by_ := by omega
  have cN := Lib.hid (pnew_ok r u pk by_ w1 hk1 hy1)
  go_wp2_with fail
  refine Calls.mono cN.out ?_
  rintro e w2 ⟨g, gb, rfl, PV, hg, hgb, hb⟩
  have B2 := Lib.hid (B1.out.trans hb)
  have H2 := Lib.hid (PV w.heap.size)
  have hg2 := Nat.le_trans B1.out.size hg
  have hgb2 := Nat.le_trans B1.out.size hgb
  clear cN hb PV B1
  dsimp only
  have d1 : decide (pk < 1) = false := by simp; omega
  have d2 : decide (by_ < 1) = false := by simp; omega
  have cR := Lib.hid (rnew_any r u pk by_ w2)
  go_wp2_with fail
  refine Calls.mono cR.out ?_
  rintro e w3 ⟨rg, rgb, rfl, RV, RB, hrg, hrgb, hb⟩
  have B3 := Lib.hid (B2.out.trans hb)
  have hrg2 := Nat.le_trans B2.out.size hrg
  have hrgb2 := Nat.le_trans B2.out.size hrgb
  have J3 : Hid (PJ w3 w.heap.size g gb rg rgb nil4 (.slice none 0 0) (newS r u pk by_) []) := Lib.hid ⟨H2.out.bw hb, RV _, RB, fun k _ h => by cases h⟩
  have Q3 : Hid (QL (newS r u pk by_).qs []) := Lib.hid ⟨rfl, (fun p hp => by cases hp), fun c hc => e4_get c⟩
  have K3 : Hid (PcK (newS r u pk by_) (newS r u pk by_)) := Lib.hid ⟨rfl, rfl, rfl, rfl, rfl⟩
  clear cR hb RV RB B2 H2 d1 d2
  dsimp only
  go_upto_region 10 with (fail)
  go_loopg [13] len (fun m' i wx => ∃ (j : Nat) (vk : List Value) (v' : Value) (T : PcS) (L : PL), m' = len - j ∧ j ≤ len ∧ i = .int .i64 (j : Nat) ∧ j ≤ 60 ∧ Hid (PJ wx w.heap.size g gb rg rgb vk v' T L) ∧ Hid (QL T.qs L) ∧ Hid (PcK (newS r u pk by_) T) ∧ (mny T.qs : Int) ≤ pk ∧ (siz T.qs : Int) ≤ by_ ∧ L.length ≤ j ∧ lensL L ≤ 300 * j ∧ T.gone + L.length ≤ j ∧ 0 ≤ T.hav ∧ T.hav ≤ 18446744073709551615 ∧ Hid (BW w wx))
  case atStart => exact ⟨0, nil4, .slice none 0 0, newS r u pk by_, [], by omega, by omega, rfl, by omega, J3, Q3, K3, by show (0 : Int) ≤ pk; omega, by show (0 : Int) ≤ by_; omega, by simp, by simp [lensL], by simp [newS], u0, u1, B3⟩
  case round =>
    clear J3 Q3 K3 B3
    obtain ⟨j, vk, v', T, L, rfl, hj, rfl, hj60, J, Q, KK, hm, hs, hl, hz, hgo, h0, h1, B⟩ := hrel
    by_cases hjl : j < len
    case neg =>
      have d1 : decide ((j : Int) < (len : Int)) = false := by simp; omega
      go_wp2_with fail
      go_ret
      exact ⟨rfl, B.out⟩
    have d1 : decide ((j : Int) < (len : Int)) = true := by simp; omega
    by_cases hj1 : j < 60
    case neg =>
      have d2 : decide ((j : Int) < 60) = false := by simp; omega
      go_wp2_with fail
      go_ret
      exact ⟨rfl, B.out⟩
    have d2 : decide ((j : Int) < 60) = true := by simp; omega
    rcases hops.out with h | ⟨b, o, rfl, hbw, hi⟩
    · omega
    obtain ⟨k, c, sa, n, cp, l, e0, e1, e2, hv, k0, k1, c0, c1⟩ := hi j hjl
    clear hops hi
    have x0 := B.out.cell e0
    have x1 := B.out.cell e1
    have x2 := B.out.cell e2
    replace e0 := Lib.hid e0
    replace e1 := Lib.hid e1
    replace e2 := Lib.hid e2
    replace hv := Lib.hid hv
    go_upto_region 13 with (fail)
    obtain ⟨wx, hwx⟩ : ∃ wx, wx = wr.alloc (.cells #[.int .i64 c, .slice sa n cp] 43) := ⟨_, rfl⟩
    have BX : BW wr wx := by rw [hwx]; exact (BW.refl wr).alloc
    have X1 : Hid (HpB wx wr.heap.size (.cells #[.int .i64 c, .slice sa n cp] 43)) := Lib.hid (by rw [hwx]; exact HpB.new _ _)
    rw [← hwx]
    have JX := Lib.hid (J.out.bw BX)
    have BXX := Lib.hid (B.out.trans BX)
    have hxg : ∀ k ∈ blks vk, k < wr.heap.size := blks_lt J.out.pac
    have hrgl : rg < wr.heap.size := HpB.lt J.out.ref.cells
    have hgl : g < wr.heap.size := HpB.lt J.out.pac.cells
    have x0 := BX.cell x0
    generalize hxb : wr.heap.size = xb at *
    replace hxg := Lib.hid hxg
    clear hwx BX J x1 x2 hxb
    have q0 := hp_cell (X1.out) 0
    have q1 := hp_cell (X1.out) 1
    simp only [List.getElem?_toArray, List.getElem?_cons_zero, List.getElem?_cons_succ] at q0 q1
    by_cases hn : 300 < n
    · have d3 : decide ((300 : Int) < (n : Int)) = true := by simp; omega
      go_wp2_with fail
      go_ret
      exact ⟨rfl, BXX.out⟩
    have d3 : decide ((300 : Int) < (n : Int)) = false := by simp; omega
    go_upto_region 18 with (fail)
    clear d1 d2 d3 x0
    have hB : PcB T := ⟨by rw [Q.out.mny]; omega, by rw [Q.out.siz]; omega, by rw [KK.out.packets]; exact hk1, by rw [KK.out.packets]; exact p1, by rw [KK.out.bytes]; exact hy1, by rw [KK.out.bytes]; exact y1⟩
    by_cases h3 : k % 5 = 3
    · have d4 : (k % 5 == 3) = true := by simpa using h3
      clear h3
      have cO := Lib.hid (out_any w.heap.size g gb vk T wx JX.out.pac hB h0 h1 BXX.out.size)
      have OK_ := outN_keeps T JX.out.pac.ql h0
      have os := out_same T L Q.out
      have mq := Q.out.mny
      have ms := Q.out.siz
      replace os := Lib.hid os
      replace OK_ := Lib.hid OK_
      replace mq := Lib.hid mq
      replace ms := Lib.hid ms
      go_wp2_with fail
      refine Calls.mono cO.out ?_
      rintro e wa ⟨v1, rfl, O1, ⟨v2, H2, hk2⟩, -, TS⟩
      have hRf := JX.out.refSt TS (fun k hk => by simp at hk; rcases hk with h | h; exact .inl h; exact .inr (.inl h))
      obtain ⟨R2, RB2⟩ := hRf
      have Ba := Lib.hid (BW.stP BXX.out TS (by simp; omega))
      have hbl := hxg.out
      have cR := Lib.hid (rout_any w.heap.size rg rgb T.rate T.burst T.hav T.packets T.bytes v' L T.gone wa R2 RB2 h0 h1 (by omega) (by omega) Ba.out.size)
      have hasz := Nat.le_trans (Nat.le_of_lt (HpB.lt X1.out)) TS.size
      replace O1 := Lib.hid O1
      replace H2 := Lib.hid H2
      replace hk2 := Lib.hid hk2
      replace R2 := Lib.hid R2
      replace RB2 := Lib.hid RB2
      replace hbl := Lib.hid hbl
      clear cO TS
      obtain ⟨s1, c1', rfl, hn1, hm1⟩ := O1.out.len
      dsimp only
      go_wp2_with fail
      refine Calls.mono cR.out ?_
      rintro e wb ⟨v2', rfl, O2, ⟨v3, R3, hk3⟩, RB3, -, TS⟩
      have H3 := H2.out.refSt R2.out RB2.out TS (fun k hk => by simpa using hk)
      have O3 := O1.out.refSt R2.out RB2.out TS (fun k hk => by simpa using hk)
      have Bc0 := Lib.hid (BW.stP Ba.out TS (by simp; omega))
      have J2 : Hid (PJ wb w.heap.size g gb rg rgb v2 v3 (outN T).2 (routR (L.length + 1) L T.hav []).2.1) := Lib.hid ⟨H3, by rw [OK_.out.k.packets, OK_.out.k.bytes, OK_.out.gone]; exact R3, by rw [OK_.out.k.rate, OK_.out.k.burst, os.out.2.2]; exact RB3, fun k h1 h2 => by
        rcases hk3 k h2 with h4 | h4
        · exact JX.out.dis k (hk2.out k h1) h4
        · have := hbl.out k (hk2.out k h1); omega⟩
      have Q2 : Hid (QL (outN T).2.qs (routR (L.length + 1) L T.hav []).2.1) := Lib.hid os.out.2.1
      have K2 : Hid (PcK (newS r u pk by_) (outN T).2) := Lib.hid (KK.out.trans OK_.out.k)
      have em : mny (outN T).2.qs ≤ mny T.qs := OK_.out.m
      have es : siz (outN T).2.qs ≤ siz T.qs := OK_.out.s
      have hm2 : (mny (outN T).2.qs : Int) ≤ pk := by omega
      have hs2 : (siz (outN T).2.qs : Int) ≤ by_ := by omega
      have h02 : 0 ≤ (outN T).2.hav := OK_.out.hav
      have hsum := OK_.out.sum
      have h12 : (outN T).2.hav ≤ 18446744073709551615 := by rw [show lensL ([] : PL) = 0 from rfl] at hsum; omega
      have hl2 : (routR (L.length + 1) L T.hav []).2.1.length ≤ j + 1 := by rw [← Q2.out.mny]; have := mq.out; omega
      have hz2 : lensL (routR (L.length + 1) L T.hav []).2.1 ≤ 300 * (j + 1) := by rw [← Q2.out.siz]; have := ms.out; omega
      have hgo2 : (outN T).2.gone + (routR (L.length + 1) L T.hav []).2.1.length ≤ j + 1 := by rw [← Q2.out.mny, OK_.out.gone]; have := mq.out; omega
      rw [← os.out.1] at O2
      clear TS H3 R3 RB3 hk3 cR Ba H2 hk2 R2 RB2 hbl O1 hsum em es Q KK h0 h1 hgo hl hz hm hs hB B JX BXX hxg X1 OK_ os mq ms
      generalize (outN T).2 = T2 at *
      generalize (routR (L.length + 1) L T.hav []).2.1 = L2 at *
      generalize (outN T).1 = OL at *
      obtain ⟨s2, c2', rfl, hn2, hm2'⟩ := O2.len
      unfold maxLen at hm1 hm2'
      generalize hOL : OL.length = n1 at *
      replace O2 := Lib.hid O2
      replace O3 := Lib.hid O3
      replace hOL := Lib.hid hOL
      have t4 : ((n1 : Int) != (n1 : Int)) = false := by simp
      dsimp only
      go_upto_region 23 with (fail)
      clear q0 q1 t4
      go_loopg [17] n1 (fun m' i wx => ∃ q : Nat, m' = n1 - q ∧ q ≤ n1 ∧ i = .int .i64 (q : Nat) ∧ Hid (BW wb wx))
      case atStart => exact ⟨0, by omega, by omega, rfl, BW.refl _⟩
      case round =>
        obtain ⟨q, rfl, hq, rfl, BQ⟩ := hrel
        by_cases hqn : q < n1
        · have d6 : decide ((q : Int) < (n1 : Int)) = true := by simp; omega
          obtain ⟨g1, o1, cc1, hsl, _, _, _, _, hce⟩ := (O3.out.bw BQ.out).form (by omega)
          simp only [Value.slice.injEq] at hsl
          obtain ⟨rfl, -, rfl⟩ := hsl
          obtain ⟨u1, y1, y2, y3⟩ := hce q (by rw [hOL.out]; exact hqn)
          clear hce
          obtain ⟨g2, o2, cc2, hsl, _, _, _, _, hce⟩ := (O2.out.bw BQ.out).form (by omega)
          simp only [Value.slice.injEq] at hsl
          obtain ⟨rfl, -, rfl⟩ := hsl
          obtain ⟨u2, z1, z2, z3⟩ := hce q (by rw [hOL.out]; exact hqn)
          clear hce
          rw [← Nat.add_assoc] at y2 z2
          obtain ⟨su1, cu1, rfl, _, _⟩ := y3.len
          obtain ⟨su2, cu2, rfl, _, _⟩ := z3.len
          generalize (OL[q]'(by rw [hOL.out]; exact hqn)) = p at *
          obtain ⟨pc, px⟩ := p
          dsimp only at y1 y2 y3 z1 z2 z3
          replace y3 := Lib.hid y3
          replace z3 := Lib.hid z3
          have t5 : (pc != pc) = false := by simp
          go_upto_region 25 with (fail)
          have E1 : ∀ y : LaterS [] wr, _ := fun y => conv_sb (y3.out.bw y.bw).sb
          have E2 : ∀ y : LaterS [] wr, _ := fun y => conv_sb (z3.out.bw y.bw).sb
          have l1 := fun y : LaterS [] wr => y.cell y1 (by simp)
          have l2 := fun y : LaterS [] wr => y.cell y2 (by simp)
          have l3 := fun y : LaterS [] wr => y.cell z1 (by simp)
          have l4 := fun y : LaterS [] wr => y.cell z2 (by simp)
          clear y1 y2 z1 z2
          generalize bstr px = S at *
          refine wp_region_gg [] [] [] (by kernel_rfl) ?_
          refine hoist [] [] (a1 := ?_) 0 rfl (by kernel_rfl) (.inl ⟨rfl, rfl⟩) rfl rfl rfl (fun x K hK => ?_) ?_
          rotate_left
          · go_big_quiet_op
            exact hK
          refine hoist [] [] (a1 := ?_) 1 rfl (by kernel_rfl) (.inl ⟨rfl, rfl⟩) rfl rfl rfl (fun x K hK => ?_) ?_
          rotate_left
          · go_big_quiet_op
            exact hK
          refine hoist [] [] (a1 := ?_) 2 rfl (by kernel_rfl) (.inl ⟨rfl, rfl⟩) rfl rfl rfl (fun x K hK => ?_) ?_
          rotate_left
          · go_big_quiet_op
            exact hK
          refine hoist [] [] (a1 := ?_) 3 rfl (by kernel_rfl) (.inl ⟨rfl, rfl⟩) rfl rfl rfl (fun x K hK => ?_) ?_
          rotate_left
          · go_big_quiet_op
            exact hK
          refine hoist [] [] (a1 := ?_) 4 rfl (by kernel_rfl) (.inl ⟨rfl, rfl⟩) rfl rfl rfl (fun x K hK => ?_) ?_
          rotate_left
          · go_big_quiet_op
            exact hK
          refine hoist [] [] (a1 := ?_) 5 rfl (by kernel_rfl) (.inl ⟨rfl, rfl⟩) rfl rfl rfl (fun x K hK => ?_) ?_
          rotate_left
          · go_big_quiet_op
            exact hK
          refine hoist [] [] (a1 := ?_) 6 rfl (by kernel_rfl) (.inl ⟨rfl, rfl⟩) rfl rfl rfl (fun x K hK => ?_) ?_
          rotate_left
          · go_big_quiet_op
            exact hK
          refine hoist [] [] (a1 := ?_) 7 rfl (by kernel_rfl) (.inl ⟨rfl, rfl⟩) rfl rfl rfl (fun x K hK => ?_) ?_
          rotate_left
          · go_big_quiet_op
            exact hK
          refine hoist [] [] (a1 := ?_) 8 rfl (by kernel_rfl) (.inl ⟨rfl, rfl⟩) rfl rfl rfl (fun x K hK => ?_) ?_
          rotate_left
          · go_big_quiet_op
            exact hK
          refine hoist [] [] (a1 := ?_) 9 rfl (by kernel_rfl) (.inl ⟨rfl, rfl⟩) rfl rfl rfl (fun x K hK => ?_) ?_
          rotate_left
          · go_big_quiet_op
            exact hK
          refine hoist [] [] (a1 := ?_) 10 rfl (by kernel_rfl) (.inl ⟨rfl, rfl⟩) rfl rfl rfl (fun x K hK => ?_) ?_
          rotate_left
          · go_big_quiet_op
            exact hK
          refine hoist [] [] (a1 := ?_) 11 rfl (by kernel_rfl) (.inl ⟨rfl, rfl⟩) rfl rfl rfl (fun x K hK => ?_) ?_
          rotate_left
          · go_big_quiet_op
            exact hK
          refine hoist [] [] (a1 := ?_) 12 rfl (by kernel_rfl) (.inl ⟨rfl, rfl⟩) rfl rfl rfl (fun x K hK => ?_) ?_
          rotate_left
          · go_big_quiet_op
            exact hK
          refine hoist [] [] (a1 := ?_) 13 rfl (by kernel_rfl) (.inl ⟨rfl, rfl⟩) rfl rfl rfl (fun x K hK => ?_) ?_
          rotate_left
          · go_big_quiet_op
            exact hK
          refine hoist [] [] (a1 := ?_) 14 rfl (by kernel_rfl) (.inl ⟨rfl, rfl⟩) rfl rfl rfl (fun x K hK => ?_) ?_
          rotate_left
          · go_big_quiet_op
            exact hK
          refine hoist [] [] (a1 := ?_) 15 rfl (by kernel_rfl) (.inl ⟨rfl, rfl⟩) rfl rfl rfl (fun x K hK => ?_) ?_
          rotate_left
          · go_big_quiet_op
            exact hK
          refine hoist [] [] (a1 := ?_) 16 rfl (by kernel_rfl) (.inl ⟨rfl, rfl⟩) rfl rfl rfl (fun x K hK => ?_) ?_
          rotate_left
          · go_big_quiet_op
            exact hK
          refine hoist [] [] (a1 := ?_) 17 rfl (by kernel_rfl) (.inl ⟨rfl, rfl⟩) rfl rfl rfl (fun x K hK => ?_) ?_
          rotate_left
          · go_big_quiet_op
            exact hK
          refine hoist [] [] (a1 := ?_) 18 rfl (by kernel_rfl) (.inl ⟨rfl, rfl⟩) rfl rfl rfl (fun x K hK => ?_) ?_
          rotate_left
          · go_big_quiet_op
            exact hK
          refine hoist [] [] (a1 := ?_) 19 rfl (by kernel_rfl) (.inl ⟨rfl, rfl⟩) rfl rfl rfl (fun x K hK => ?_) ?_
          rotate_left
          · go_big_quiet_op
            exact hK
          refine hoist [] [] (a1 := ?_) 20 rfl (by kernel_rfl) (.inl ⟨rfl, rfl⟩) rfl rfl rfl (fun x K hK => ?_) ?_
          rotate_left
          · go_big_quiet_op
            exact hK
          refine hoist [] [] (a1 := ?_) 21 rfl (by kernel_rfl) (.inl ⟨rfl, rfl⟩) rfl rfl rfl (fun x K hK => ?_) ?_
          rotate_left
          · go_big_quiet_op
            exact hK
          refine hoist [] [] (a1 := ?_) 22 rfl (by kernel_rfl) (.inl ⟨rfl, rfl⟩) rfl rfl rfl (fun x K hK => ?_) ?_
          rotate_left
          · go_big_quiet_op
            exact hK
          refine hoist [] [] (a1 := ?_) 23 rfl (by kernel_rfl) (.inl ⟨rfl, rfl⟩) rfl rfl rfl (fun x K hK => ?_) ?_
          rotate_left
          · go_big_quiet_op
            exact hK
          refine hoist [] [] (a1 := ?_) 24 rfl (by kernel_rfl) (.inl ⟨rfl, rfl⟩) rfl rfl rfl (fun x K hK => ?_) ?_
          rotate_left
          · go_big_quiet_op
            exact hK
          refine hoist [] [] (a1 := ?_) 25 rfl (by kernel_rfl) (.inl ⟨rfl, rfl⟩) rfl rfl rfl (fun x K hK => ?_) ?_
          rotate_left
          · go_big_quiet_op
            exact hK
          refine done (by kernel_rfl) (fun xr => ?_)
          have BY := Lib.hid (BQ.out.trans xr.bw)
          clear E1 E2 l1 l2 l3 l4 t5 d6
          go_wp2_with fail
          go_roundg (n1 - (q + 1))
          case measure => omega
          case rel => exact ⟨q + 1, rfl, by omega, by push_cast; rfl, BY⟩
        · obtain rfl : q = n1 := by omega
          have d6 : decide ((q : Int) < (q : Int)) = false := by simp
          obtain ⟨wz, rfl⟩ : ∃ wz, wz = wr := ⟨_, rfl⟩
          replace J2 := Lib.hid (J2.out.bw BQ.out)
          have Bc := Lib.hid (Bc0.out.trans BQ.out)
          clear O2 O3 Bc0 BQ
          go_upto_region 30 with (fail)
          clear d4 d6
          -- here: wz, J2 : Hid (PJ wz w.heap.size g gb rg rgb v2 v3 T2 L2), Q2 : Hid (QL T2.qs L2), K2, hm2, hs2, bounds hl2 hz2, h02, h12, hgo2, B2
          have eL := Q2.out.mny
          have eS := Q2.out.siz
          have cL := fun wy (hb : BW wz wy) => Lib.hid (len_any w.heap.size g gb v2 T2 wy (J2.out.pac.bw hb) (by omega) (by omega))
          have cS := fun wy (hb : BW wz wy) => Lib.hid (size_any w.heap.size g gb v2 T2 wy (J2.out.pac.bw hb) (by omega) (by omega))
          have cG := fun wy (hb : BW wz wy) => Lib.hid (gone_any w.heap.size g gb v2 T2 wy (J2.out.pac.bw hb))
          have cR := fun wy (hb : BW wz wy) => Lib.hid (rsize_any w.heap.size rg (.pointer (some ⟨rgb, 0, none⟩)) T2.packets T2.bytes v3 L2 T2.gone wy (J2.out.ref.bw hb) (by omega))
          rw [eL] at cL
          rw [eS] at cS
          obtain ⟨s3, c3, hv3, hn3, hc3⟩ := J2.out.ref.pq.len
          have zl : wz.cell? ⟨rg, 3, none⟩ = some v3 := hp_cell J2.out.ref.cells 3
          rw [hv3] at zl
          have zg : wz.cell? ⟨rg, 4, none⟩ = some (.int .i64 (T2.gone : Nat)) := hp_cell J2.out.ref.cells 4
          have ll := fun x : LaterS [] wz => x.cell zl (by simp)
          have lg := fun x : LaterS [] wz => x.cell zg (by simp)
          unfold maxLen at hc3
          generalize hM : L2.length = M at *
          generalize hZ : lensL L2 = Z at *
          generalize hG : T2.gone = G at *
          have t1 : ((M : Int) != (M : Int)) = false := by simp
          have t2 : ((Z : Int) != (Z : Int)) = false := by simp
          have t3 : ((G : Int) != (G : Int)) = false := by simp
          replace hM := Lib.hid hM
          replace hZ := Lib.hid hZ
          replace hG := Lib.hid hG
          replace eL := Lib.hid eL
          replace eS := Lib.hid eS
          replace hv3 := Lib.hid hv3
          clear zl zg
          refine wp_region_gg [] [] [] (by kernel_rfl) ?_
          refine hoist [] [] (a1 := ?_) 0 rfl (by kernel_rfl) (.inl ⟨rfl, rfl⟩) rfl rfl rfl (fun x K hK => ?_) ?_
          rotate_left
          · go_big_quiet_op
            exact hK
          refine hoist [] [] (a1 := ?_) 2 rfl (by kernel_rfl) (.inl ⟨rfl, rfl⟩) rfl rfl rfl (fun x K hK => ?_) ?_
          rotate_left
          · go_big_quiet_op
            exact hK
          refine hoist [] [] (a1 := ?_) 3 rfl (by kernel_rfl) (.inl ⟨rfl, rfl⟩) rfl rfl rfl (fun x K hK => ?_) ?_
          rotate_left
          · go_big_quiet_op
            exact hK
          refine hoist [] [] (a1 := ?_) 4 rfl (by kernel_rfl) (.inl ⟨rfl, rfl⟩) rfl rfl rfl (fun x K hK => ?_) ?_
          rotate_left
          · go_big_quiet_op
            exact hK
          refine hoist [] [] (a1 := ?_) 5 rfl (by kernel_rfl) (.inl ⟨rfl, rfl⟩) rfl rfl rfl (fun x K hK => ?_) ?_
          rotate_left
          · go_big_quiet_op
            exact hK
          refine hoist [] [] (a1 := ?_) 6 rfl (by kernel_rfl) (.inl ⟨rfl, rfl⟩) rfl rfl rfl (fun x K hK => ?_) ?_
          rotate_left
          · go_big_quiet_op
            exact hK
          refine effect 1 rfl (by kernel_rfl) (by kernel_rfl) rfl (fun x1 K hK => ?_)
          go_simp
          refine Calls.mono (cL x1.now x1.bw).out ?_
          rintro e wa ⟨rfl, hb⟩
          refine hK _ _ (Still.of_below hb) ?_
          clear hK K
          have Wa := Lib.hid (BW.call x1.bw hb)
          clear hb
          have lg := fun x : LaterS [] wa => x.cell (Wa.out.cell (hp_cell J2.out.ref.cells 4)) (by simp)
          simp only [List.getElem?_toArray, List.getElem?_cons_succ, List.getElem?_cons_zero, hG.out] at lg
          try simp only [Act.put, List.setIfInBounds_toArray, List.set_cons_succ, List.set_cons_zero]
          refine hoist [] [] (a1 := ?_) 7 rfl (by kernel_rfl) (.inl ⟨rfl, rfl⟩) rfl rfl rfl (fun x K hK => ?_) ?_
          rotate_left
          · go_big_quiet_op
            exact hK
          refine hoist [] [] (a1 := ?_) 8 rfl (by kernel_rfl) (.inl ⟨rfl, rfl⟩) rfl rfl rfl (fun x K hK => ?_) ?_
          rotate_left
          · go_big_quiet_op
            exact hK
          refine hoist [] [] (a1 := ?_) 9 rfl (by kernel_rfl) (.inl ⟨rfl, rfl⟩) rfl rfl rfl (fun x K hK => ?_) ?_
          rotate_left
          · go_big_quiet_op
            exact hK
          refine hoist [] [] (a1 := ?_) 11 rfl (by kernel_rfl) (.inl ⟨rfl, rfl⟩) rfl rfl rfl (fun x K hK => ?_) ?_
          rotate_left
          · go_big_quiet_op
            exact hK
          refine effect 10 rfl (by kernel_rfl) (by kernel_rfl) rfl (fun x10 K hK => ?_)
          go_simp
          refine Calls.mono (cS x10.now (Wa.out.trans x10.bw)).out ?_
          rintro e wb ⟨rfl, hb⟩
          refine hK _ _ (Still.of_below hb) ?_
          clear hK K
          have Wb := Lib.hid (BW.call (Wa.out.trans x10.bw) hb)
          clear hb
          try simp only [Act.put, List.setIfInBounds_toArray, List.set_cons_succ, List.set_cons_zero]
          refine effect 12 rfl (by kernel_rfl) (by kernel_rfl) rfl (fun x12 K hK => ?_)
          go_simp
          refine Calls.mono (cR x12.now (Wb.out.trans x12.bw)).out ?_
          rintro e wc ⟨rfl, rfl⟩
          refine hK _ _ (Still.refl _ _) ?_
          clear hK K
          have Wc := Lib.hid (Wb.out.trans x12.bw)
          have lg := fun x : LaterS [] x12.now => x.cell (Wc.out.cell (hp_cell J2.out.ref.cells 4)) (by simp)
          simp only [List.getElem?_toArray, List.getElem?_cons_succ, List.getElem?_cons_zero, hG.out] at lg
          try simp only [Act.put, List.setIfInBounds_toArray, List.set_cons_succ, List.set_cons_zero]
          refine hoist [] [] (a1 := ?_) 13 rfl (by kernel_rfl) (.inl ⟨rfl, rfl⟩) rfl rfl rfl (fun x K hK => ?_) ?_
          rotate_left
          · go_big_quiet_op
            exact hK
          refine hoist [] [] (a1 := ?_) 14 rfl (by kernel_rfl) (.inl ⟨rfl, rfl⟩) rfl rfl rfl (fun x K hK => ?_) ?_
          rotate_left
          · go_big_quiet_op
            exact hK
          refine hoist [] [] (a1 := ?_) 15 rfl (by kernel_rfl) (.inl ⟨rfl, rfl⟩) rfl rfl rfl (fun x K hK => ?_) ?_
          rotate_left
          · go_big_quiet_op
            exact hK
          refine hoist [] [] (a1 := ?_) 16 rfl (by kernel_rfl) (.inl ⟨rfl, rfl⟩) rfl rfl rfl (fun x K hK => ?_) ?_
          rotate_left
          · go_big_quiet_op
            exact hK
          refine hoist [] [] (a1 := ?_) 18 rfl (by kernel_rfl) (.inl ⟨rfl, rfl⟩) rfl rfl rfl (fun x K hK => ?_) ?_
          rotate_left
          · go_big_quiet_op
            exact hK
          refine hoist [] [] (a1 := ?_) 19 rfl (by kernel_rfl) (.inl ⟨rfl, rfl⟩) rfl rfl rfl (fun x K hK => ?_) ?_
          rotate_left
          · go_big_quiet_op
            exact hK
          refine hoist [] [] (a1 := ?_) 20 rfl (by kernel_rfl) (.inl ⟨rfl, rfl⟩) rfl rfl rfl (fun x K hK => ?_) ?_
          rotate_left
          · go_big_quiet_op
            exact hK
          refine hoist [] [] (a1 := ?_) 21 rfl (by kernel_rfl) (.inl ⟨rfl, rfl⟩) rfl rfl rfl (fun x K hK => ?_) ?_
          rotate_left
          · go_big_quiet_op
            exact hK
          refine effect 17 rfl (by kernel_rfl) (by kernel_rfl) rfl (fun x17 K hK => ?_)
          go_simp
          refine Calls.mono (cG x17.now (Wc.out.trans x17.bw)).out ?_
          rintro e wd ⟨rfl, rfl⟩
          refine hK _ _ (Still.refl _ _) ?_
          clear hK K
          have Wd := Lib.hid (Wc.out.trans x17.bw)
          try simp only [Act.put, List.setIfInBounds_toArray, List.set_cons_succ, List.set_cons_zero]
          refine hoist [] [] (a1 := ?_) 22 rfl (by kernel_rfl) (.inl ⟨rfl, rfl⟩) rfl rfl rfl (fun x K hK => ?_) ?_
          rotate_left
          · go_big_quiet_op
            exact hK
          refine hoist [] [] (a1 := ?_) 23 rfl (by kernel_rfl) (.inl ⟨rfl, rfl⟩) rfl rfl rfl (fun x K hK => ?_) ?_
          rotate_left
          · go_big_quiet_op
            exact hK
          refine done (by kernel_rfl) (fun xr => ?_)
          have WW := Lib.hid (Wd.out.trans xr.bw)
          have J9 := Lib.hid (J2.out.bw WW.out)
          have B9 := Lib.hid (Bc.out.trans WW.out)
          clear cL cS cG cR ll lg t1 t2 t3
          go_wp2_with fail
          go_roundg (len - (j + 1))
          case measure => omega
          case rel => exact ⟨j + 1, v2, v3, T2, L2, rfl, by omega, by push_cast; rfl, by omega, J9, Q2, K2, hm2, hs2, by rw [hM.out]; omega, by rw [hZ.out]; omega, by rw [hM.out, hG.out]; omega, h02, h12, B9⟩
    have d4 : (k % 5 == 3) = false := by simpa using h3
    by_cases h4 : k % 5 = 4
    · have d5 : (k % 5 == 4) = true := by simpa using h4
      clear h4
      have er : T.rate = r := KK.out.rate
      have eu : T.burst = u := KK.out.burst
      have cT := Lib.hid (ptick_any w.heap.size g gb vk T wx JX.out.pac (by rw [er]; exact r0) h0 h1)
      have gbd := give_bound T.burst T.hav T.rate h0 (by rw [er]; exact r0)
      replace er := Lib.hid er
      replace eu := Lib.hid eu
      go_wp2_with fail
      refine Calls.mono cT.out ?_
      rintro e wa ⟨rfl, H2, TS⟩
      have hRf := JX.out.refSt TS (fun k hk => .inr (.inl (by simpa using hk)))
      obtain ⟨R2, RB2⟩ := hRf
      have Ba := Lib.hid (BW.stP BXX.out TS (by simp; omega))
      have cG := rgive_any rgb T.rate T.burst T.hav r wa RB2 h0 h1 r0 r1
      rw [show giveN T.burst T.hav r = giveN T.burst T.hav T.rate by rw [er.out]] at cG
      have z0 : wa.cell? ⟨rg, 0, none⟩ = some (.pointer (some ⟨rgb, 0, none⟩)) := hp_cell R2.cells 0
      replace cG := Lib.hid cG
      replace H2 := Lib.hid H2
      replace R2 := Lib.hid R2
      replace RB2 := Lib.hid RB2
      clear cT TS
      dsimp only
      go_wp2_with fail
      refine Calls.mono cG.out ?_
      rintro e wz ⟨rfl, RB3, TS⟩
      have H3 := H2.out.refSt R2.out RB2.out TS (fun k hk => .inr (by simpa using hk))
      have R3 := R2.out.still TS RB2.out.noB (fun hm => by have := hp_ne R2.out.cells RB2.out (by decide); simp at hm; exact this hm) (fun k hk hm => by have := R2.out.pq.ne RB2.out (by decide) k hk; simp at hm; exact this hm)
      have Bc := Lib.hid (BW.stP Ba.out TS (by simp; omega))
      have J2 : Hid (PJ wz w.heap.size g gb rg rgb vk v' { T with hav := giveN T.burst T.hav T.rate } L) := Lib.hid ⟨H3, R3, RB3, JX.out.dis⟩
      have Q2 : Hid (QL ({ T with hav := giveN T.burst T.hav T.rate } : PcS).qs L) := Q
      have K2 : Hid (PcK (newS r u pk by_) { T with hav := giveN T.burst T.hav T.rate }) := Lib.hid ⟨KK.out.rate, KK.out.burst, KK.out.packets, KK.out.bytes, KK.out.ql⟩
      have hm2 : (mny ({ T with hav := giveN T.burst T.hav T.rate } : PcS).qs : Int) ≤ pk := hm
      have hs2 : (siz ({ T with hav := giveN T.burst T.hav T.rate } : PcS).qs : Int) ≤ by_ := hs
      have h02 : 0 ≤ ({ T with hav := giveN T.burst T.hav T.rate } : PcS).hav := gbd.2.2 (by rw [eu.out]; exact u0)
      have h12 : ({ T with hav := giveN T.burst T.hav T.rate } : PcS).hav ≤ 18446744073709551615 := Int.le_trans gbd.2.1 (by rw [eu.out]; exact u1)
      have hgo2 : ({ T with hav := giveN T.burst T.hav T.rate } : PcS).gone + L.length ≤ j + 1 := by show T.gone + _ ≤ _; omega
      clear RB3 TS H3 R3 cG H2 R2 RB2 Ba gbd er eu Q KK h0 h1 hm hs hgo hB z0 JX BXX B X1 hxg
      generalize ({ T with hav := giveN T.burst T.hav T.rate } : PcS) = T2 at *
      obtain ⟨L2, rfl⟩ : ∃ L2, L2 = L := ⟨_, rfl⟩
      obtain ⟨v2, rfl⟩ : ∃ v2, v2 = vk := ⟨_, rfl⟩
      obtain ⟨v3, rfl⟩ : ∃ v3, v3 = v' := ⟨_, rfl⟩
      have hl2 := hl
      have hz2 := hz
      dsimp only
      go_upto_region 30 with (fail)
      clear d4 d5 q0 q1
      -- here: wz, J2 : Hid (PJ wz w.heap.size g gb rg rgb v2 v3 T2 L2), Q2 : Hid (QL T2.qs L2), K2, hm2, hs2, bounds hl2 hz2, h02, h12, hgo2, B2
      have eL := Q2.out.mny
      have eS := Q2.out.siz
      have cL := fun wy (hb : BW wz wy) => Lib.hid (len_any w.heap.size g gb v2 T2 wy (J2.out.pac.bw hb) (by omega) (by omega))
      have cS := fun wy (hb : BW wz wy) => Lib.hid (size_any w.heap.size g gb v2 T2 wy (J2.out.pac.bw hb) (by omega) (by omega))
      have cG := fun wy (hb : BW wz wy) => Lib.hid (gone_any w.heap.size g gb v2 T2 wy (J2.out.pac.bw hb))
      have cR := fun wy (hb : BW wz wy) => Lib.hid (rsize_any w.heap.size rg (.pointer (some ⟨rgb, 0, none⟩)) T2.packets T2.bytes v3 L2 T2.gone wy (J2.out.ref.bw hb) (by omega))
      rw [eL] at cL
      rw [eS] at cS
      obtain ⟨s3, c3, hv3, hn3, hc3⟩ := J2.out.ref.pq.len
      have zl : wz.cell? ⟨rg, 3, none⟩ = some v3 := hp_cell J2.out.ref.cells 3
      rw [hv3] at zl
      have zg : wz.cell? ⟨rg, 4, none⟩ = some (.int .i64 (T2.gone : Nat)) := hp_cell J2.out.ref.cells 4
      have ll := fun x : LaterS [] wz => x.cell zl (by simp)
      have lg := fun x : LaterS [] wz => x.cell zg (by simp)
      unfold maxLen at hc3
      generalize hM : L2.length = M at *
      generalize hZ : lensL L2 = Z at *
      generalize hG : T2.gone = G at *
      have t1 : ((M : Int) != (M : Int)) = false := by simp
      have t2 : ((Z : Int) != (Z : Int)) = false := by simp
      have t3 : ((G : Int) != (G : Int)) = false := by simp
      replace hM := Lib.hid hM
      replace hZ := Lib.hid hZ
      replace hG := Lib.hid hG
      replace eL := Lib.hid eL
      replace eS := Lib.hid eS
      replace hv3 := Lib.hid hv3
      clear zl zg
      refine wp_region_gg [] [] [] (by kernel_rfl) ?_
      refine hoist [] [] (a1 := ?_) 0 rfl (by kernel_rfl) (.inl ⟨rfl, rfl⟩) rfl rfl rfl (fun x K hK => ?_) ?_
      rotate_left
      · go_big_quiet_op
        exact hK
      refine hoist [] [] (a1 := ?_) 2 rfl (by kernel_rfl) (.inl ⟨rfl, rfl⟩) rfl rfl rfl (fun x K hK => ?_) ?_
      rotate_left
      · go_big_quiet_op
        exact hK
      refine hoist [] [] (a1 := ?_) 3 rfl (by kernel_rfl) (.inl ⟨rfl, rfl⟩) rfl rfl rfl (fun x K hK => ?_) ?_
      rotate_left
      · go_big_quiet_op
        exact hK
      refine hoist [] [] (a1 := ?_) 4 rfl (by kernel_rfl) (.inl ⟨rfl, rfl⟩) rfl rfl rfl (fun x K hK => ?_) ?_
      rotate_left
      · go_big_quiet_op
        exact hK
      refine hoist [] [] (a1 := ?_) 5 rfl (by kernel_rfl) (.inl ⟨rfl, rfl⟩) rfl rfl rfl (fun x K hK => ?_) ?_
      rotate_left
      · go_big_quiet_op
        exact hK
      refine hoist [] [] (a1 := ?_) 6 rfl (by kernel_rfl) (.inl ⟨rfl, rfl⟩) rfl rfl rfl (fun x K hK => ?_) ?_
      rotate_left
      · go_big_quiet_op
        exact hK
      refine effect 1 rfl (by kernel_rfl) (by kernel_rfl) rfl (fun x1 K hK => ?_)
      go_simp
      refine Calls.mono (cL x1.now x1.bw).out ?_
      rintro e wa ⟨rfl, hb⟩
      refine hK _ _ (Still.of_below hb) ?_
      clear hK K
      have Wa := Lib.hid (BW.call x1.bw hb)
      clear hb
      have lg := fun x : LaterS [] wa => x.cell (Wa.out.cell (hp_cell J2.out.ref.cells 4)) (by simp)
      simp only [List.getElem?_toArray, List.getElem?_cons_succ, List.getElem?_cons_zero, hG.out] at lg
      try simp only [Act.put, List.setIfInBounds_toArray, List.set_cons_succ, List.set_cons_zero]
      refine hoist [] [] (a1 := ?_) 7 rfl (by kernel_rfl) (.inl ⟨rfl, rfl⟩) rfl rfl rfl (fun x K hK => ?_) ?_
      rotate_left
      · go_big_quiet_op
        exact hK
      refine hoist [] [] (a1 := ?_) 8 rfl (by kernel_rfl) (.inl ⟨rfl, rfl⟩) rfl rfl rfl (fun x K hK => ?_) ?_
      rotate_left
      · go_big_quiet_op
        exact hK
      refine hoist [] [] (a1 := ?_) 9 rfl (by kernel_rfl) (.inl ⟨rfl, rfl⟩) rfl rfl rfl (fun x K hK => ?_) ?_
      rotate_left
      · go_big_quiet_op
        exact hK
      refine hoist [] [] (a1 := ?_) 11 rfl (by kernel_rfl) (.inl ⟨rfl, rfl⟩) rfl rfl rfl (fun x K hK => ?_) ?_
      rotate_left
      · go_big_quiet_op
        exact hK
      refine effect 10 rfl (by kernel_rfl) (by kernel_rfl) rfl (fun x10 K hK => ?_)
      go_simp
      refine Calls.mono (cS x10.now (Wa.out.trans x10.bw)).out ?_
      rintro e wb ⟨rfl, hb⟩
      refine hK _ _ (Still.of_below hb) ?_
      clear hK K
      have Wb := Lib.hid (BW.call (Wa.out.trans x10.bw) hb)
      clear hb
      try simp only [Act.put, List.setIfInBounds_toArray, List.set_cons_succ, List.set_cons_zero]
      refine effect 12 rfl (by kernel_rfl) (by kernel_rfl) rfl (fun x12 K hK => ?_)
      go_simp
      refine Calls.mono (cR x12.now (Wb.out.trans x12.bw)).out ?_
      rintro e wc ⟨rfl, rfl⟩
      refine hK _ _ (Still.refl _ _) ?_
      clear hK K
      have Wc := Lib.hid (Wb.out.trans x12.bw)
      have lg := fun x : LaterS [] x12.now => x.cell (Wc.out.cell (hp_cell J2.out.ref.cells 4)) (by simp)
      simp only [List.getElem?_toArray, List.getElem?_cons_succ, List.getElem?_cons_zero, hG.out] at lg
      try simp only [Act.put, List.setIfInBounds_toArray, List.set_cons_succ, List.set_cons_zero]
      refine hoist [] [] (a1 := ?_) 13 rfl (by kernel_rfl) (.inl ⟨rfl, rfl⟩) rfl rfl rfl (fun x K hK => ?_) ?_
      rotate_left
      · go_big_quiet_op
        exact hK
      refine hoist [] [] (a1 := ?_) 14 rfl (by kernel_rfl) (.inl ⟨rfl, rfl⟩) rfl rfl rfl (fun x K hK => ?_) ?_
      rotate_left
      · go_big_quiet_op
        exact hK
      refine hoist [] [] (a1 := ?_) 15 rfl (by kernel_rfl) (.inl ⟨rfl, rfl⟩) rfl rfl rfl (fun x K hK => ?_) ?_
      rotate_left
      · go_big_quiet_op
        exact hK
      refine hoist [] [] (a1 := ?_) 16 rfl (by kernel_rfl) (.inl ⟨rfl, rfl⟩) rfl rfl rfl (fun x K hK => ?_) ?_
      rotate_left
      · go_big_quiet_op
        exact hK
      refine hoist [] [] (a1 := ?_) 18 rfl (by kernel_rfl) (.inl ⟨rfl, rfl⟩) rfl rfl rfl (fun x K hK => ?_) ?_
      rotate_left
      · go_big_quiet_op
        exact hK
      refine hoist [] [] (a1 := ?_) 19 rfl (by kernel_rfl) (.inl ⟨rfl, rfl⟩) rfl rfl rfl (fun x K hK => ?_) ?_
      rotate_left
      · go_big_quiet_op
        exact hK
      refine hoist [] [] (a1 := ?_) 20 rfl (by kernel_rfl) (.inl ⟨rfl, rfl⟩) rfl rfl rfl (fun x K hK => ?_) ?_
      rotate_left
      · go_big_quiet_op
        exact hK
      refine hoist [] [] (a1 := ?_) 21 rfl (by kernel_rfl) (.inl ⟨rfl, rfl⟩) rfl rfl rfl (fun x K hK => ?_) ?_
      rotate_left
      · go_big_quiet_op
        exact hK
      refine effect 17 rfl (by kernel_rfl) (by kernel_rfl) rfl (fun x17 K hK => ?_)
      go_simp
      refine Calls.mono (cG x17.now (Wc.out.trans x17.bw)).out ?_
      rintro e wd ⟨rfl, rfl⟩
      refine hK _ _ (Still.refl _ _) ?_
      clear hK K
      have Wd := Lib.hid (Wc.out.trans x17.bw)
      try simp only [Act.put, List.setIfInBounds_toArray, List.set_cons_succ, List.set_cons_zero]
      refine hoist [] [] (a1 := ?_) 22 rfl (by kernel_rfl) (.inl ⟨rfl, rfl⟩) rfl rfl rfl (fun x K hK => ?_) ?_
      rotate_left
      · go_big_quiet_op
        exact hK
      refine hoist [] [] (a1 := ?_) 23 rfl (by kernel_rfl) (.inl ⟨rfl, rfl⟩) rfl rfl rfl (fun x K hK => ?_) ?_
      rotate_left
      · go_big_quiet_op
        exact hK
      refine done (by kernel_rfl) (fun xr => ?_)
      have WW := Lib.hid (Wd.out.trans xr.bw)
      have J9 := Lib.hid (J2.out.bw WW.out)
      have B9 := Lib.hid (Bc.out.trans WW.out)
      clear cL cS cG cR ll lg t1 t2 t3
      go_wp2_with fail
      go_roundg (len - (j + 1))
      case measure => omega
      case rel => exact ⟨j + 1, v2, v3, T2, L2, rfl, by omega, by push_cast; rfl, by omega, J9, Q2, K2, hm2, hs2, by rw [hM.out]; omega, by rw [hZ.out]; omega, by rw [hM.out, hG.out]; omega, h02, h12, B9⟩
    have d5 : (k % 5 == 4) = false := by simpa using h4
    go_upto_region 16 with (fail)
    have hlen := hv.out.1
    have hps := push_same T L Q.out c l
    have hle := rpush_le T.burst T.packets T.bytes L T.gone c l
    have PL := pushN_keeps T c l JX.out.pac.ql (by rw [KK.out.packets]; exact hm) (by rw [KK.out.bytes]; exact hs)
    have hxS : xb ∉ g :: rg :: blks vk := fun h => by
      rcases List.mem_cons.1 h with h | h
      · omega
      rcases List.mem_cons.1 h with h | h
      · omega
      · have := hxg.out xb h; omega
    have hGE := Lib.hid JX.out.pac.ge
    have hvl := Lib.hid JX.out.ref.pq.lt'
    have mq := Q.out.mny
    clear q0 q1
    replace hxS := Lib.hid hxS
    replace hps := Lib.hid hps
    replace hle := Lib.hid hle
    replace PL := Lib.hid PL
    replace mq := Lib.hid mq
    refine wp_region_gg (g :: rg :: blks vk) [2, 5] [] (by kernel_rfl) ?_
    refine hoist [] [2, 5] (a1 := ?_) 0 rfl (by kernel_rfl) (.inl ⟨rfl, rfl⟩) rfl rfl rfl (fun x K hK => ?_) ?_
    rotate_left
    · go_big_quiet_op
      exact hK
    refine hoist [] [2, 5] (a1 := ?_) 1 rfl (by kernel_rfl) (.inl ⟨rfl, rfl⟩) rfl rfl rfl (fun x K hK => ?_) ?_
    rotate_left
    · refine qlPc rfl (by rfl) rfl (fun w' hw => by subst hw; exact X1.out.bw x.bw) (by simp only [Act.put, List.setIfInBounds_toArray, List.set_cons_succ, List.set_cons_zero]; rfl) ?_
      exact hK
    refine hoist (g :: rg :: blks vk) [] (a1 := ?_) 3 rfl (by kernel_rfl) (.inr rfl) rfl rfl rfl (fun x K hK => ?_) ?_
    rotate_left
    · go_big_quiet_op
      exact hK
    refine hoist (g :: rg :: blks vk) [] (a1 := ?_) 4 rfl (by kernel_rfl) (.inr rfl) rfl rfl rfl (fun x K hK => ?_) ?_
    rotate_left
    · refine qlPc rfl (by rfl) rfl (fun w' hw => by subst hw; exact X1.out.st x.ok hxS.out) (by simp only [Act.put, List.setIfInBounds_toArray, List.set_cons_succ, List.set_cons_zero]; rfl) ?_
      exact hK
    refine effect 2 rfl (by kernel_rfl) (by kernel_rfl) rfl (fun x2 K hK => ?_)
    go_simp
    have hbx := x2.bw
    have hbw2 := BXX.out.trans hbx
    refine Calls.mono (push_any w.heap.size g gb vk T c (.slice sa n cp) l x2.now (JX.out.pac.bw hbx) hB (by rw [KK.out.burst]; exact u0) (by rw [KK.out.burst]; exact u1) hbw2.size (by rw [hlen]; exact hv.out.bw hbw2) (by omega) c0 c1 (by rw [mq.out]; omega) (fun h0 k hk hm => by
      have h1 := sb_lt hv.out (by omega) k hk
      rcases List.mem_cons.1 hm with rfl | hm
      · omega
      · have := hGE.out k hm; omega)) ?_
    rintro e wa ⟨rfl, ⟨v2, H2, hk2⟩, TS⟩
    refine hK _ _ (TS.weaken sub_mid) ?_
    clear hK K
    have hRf := (JX.out.bw hbx).refSt TS mem_or3
    obtain ⟨R2, RB2⟩ := hRf
    have Ba := Lib.hid (BW.stP hbw2 TS (fun k hm => by
      rcases List.mem_cons.1 hm with rfl | hm
      · omega
      · exact hGE.out k hm))
    have hszx := hbx.size
    have hsz2 := TS.size
    have hbl2 := blks_lt H2
    clear TS hbx hbw2
    replace H2 := Lib.hid H2
    replace hk2 := Lib.hid hk2
    replace R2 := Lib.hid R2
    replace RB2 := Lib.hid RB2
    replace hbl2 := Lib.hid hbl2
    try simp only [Act.put, List.setIfInBounds_toArray, List.set_cons_succ, List.set_cons_zero]
    refine effect 5 rfl (by kernel_rfl) (by kernel_rfl) rfl (fun x5 K hK => ?_)
    go_simp
    have hbx := x5.bw
    have hbw5 := Ba.out.trans hbx
    refine Calls.mono (rpush_any w.heap.size rg rgb T.rate T.burst T.hav T.packets T.bytes v' L T.gone c (.slice sa n cp) l x5.now (R2.out.bw hbx) (RB2.out.bw hbx) (by omega) (by omega) (by omega) hbw5.size (by rw [hlen]; exact hv.out.bw hbw5) (by omega) c0 c1 (by rw [KK.out.burst]; exact u0) (by rw [KK.out.burst]; exact u1)) ?_
    rintro e wb ⟨rfl, ⟨v3, R3, hk3⟩, TS⟩
    refine hK _ _ (TS.weaken sub_one) ?_
    clear hK K
    have H3 := (H2.out.bw hbx).refSt (R2.out.bw hbx) (RB2.out.bw hbx) TS (fun k hk => .inl (by simpa using hk))
    have RB3 := (RB2.out.bw hbx).st TS (fun hm => by have := hp_ne R2.out.cells RB2.out (by decide); simp at hm; exact this hm.symm)
    have Bb := Lib.hid (BW.stP hbw5 TS (by simp; omega))
    have hsz5 := hbx.size
    have J3 : Hid (PJ wb w.heap.size g gb rg rgb v2 v3 (pushN T c l).2 (rpushN T.burst T.packets T.bytes L T.gone c l).2.1) := Lib.hid ⟨H3, by rw [PL.out.k.packets, PL.out.k.bytes, hps.out.2.2]; exact R3, by rw [PL.out.k.rate, PL.out.k.burst, PL.out.hav]; exact RB3, fun k h1 h2 => by
      rcases hk2.out k h1 with h3 | h3 <;> rcases hk3 k h2 with h4 | h4
      · exact JX.out.dis k h3 h4
      · have := hxg.out k h3; have := HpB.lt X1.out; omega
      · have := hvl.out k h4; omega
      · have := hbl2.out k h1; omega⟩
    rw [← hps.out.1]
    clear TS hbx hbw5 H3 R3 RB3 hk3 Ba H2 hk2 R2 RB2 hbl2
    have t4 : (((pushN T c l).1 : Int) != ((pushN T c l).1 : Int)) = false := by simp
    try simp only [Act.put, List.setIfInBounds_toArray, List.set_cons_succ, List.set_cons_zero]
    refine hoist [] [2, 5] (a1 := ?_) 6 rfl (by kernel_rfl) (.inl ⟨rfl, rfl⟩) rfl rfl rfl (fun x K hK => ?_) ?_
    rotate_left
    · go_big_quiet_op
      exact hK
    refine done (by kernel_rfl) (fun xr => ?_)
    have Bc := Lib.hid (Bb.out.trans xr.bw)
    have J2 := Lib.hid (J3.out.bw xr.bw)
    have Q2 : Hid (QL (pushN T c l).2.qs (rpushN T.burst T.packets T.bytes L T.gone c l).2.1) := Lib.hid hps.out.2.1
    have K2 : Hid (PcK (newS r u pk by_) (pushN T c l).2) := Lib.hid (KK.out.trans PL.out.k)
    have hm2 : (mny (pushN T c l).2.qs : Int) ≤ pk := by have := PL.out.m; rw [KK.out.packets] at this; exact this
    have hs2 : (siz (pushN T c l).2.qs : Int) ≤ by_ := by have := PL.out.s; rw [KK.out.bytes] at this; exact this
    have h02 : 0 ≤ (pushN T c l).2.hav := by rw [PL.out.hav]; exact h0
    have h12 : (pushN T c l).2.hav ≤ 18446744073709551615 := by rw [PL.out.hav]; exact h1
    have hgo2 : (pushN T c l).2.gone + (rpushN T.burst T.packets T.bytes L T.gone c l).2.1.length ≤ j + 1 := by rw [hps.out.2.2]; have := hle.out.2.2; omega
    have hl2 : (rpushN T.burst T.packets T.bytes L T.gone c l).2.1.length ≤ j + 1 := by have := hle.out.1; omega
    have hz2 : lensL (rpushN T.burst T.packets T.bytes L T.gone c l).2.1 ≤ 300 * (j + 1) := by have := hle.out.2.1; omega
    clear J3 hps hle PL Q KK h0 h1 hgo hl hz hm hs hB hGE hvl Bb B JX BXX hxS hxg mq X1
    generalize (pushN T c l).2 = T2 at *
    generalize (rpushN T.burst T.packets T.bytes L T.gone c l).2.1 = L2 at *
    generalize (pushN T c l).1 = en at *
    generalize xr.now = wz at *
    go_upto_region 30 with (fail)
    clear t4 d4 d5
    -- here: wz, J2 : Hid (PJ wz w.heap.size g gb rg rgb v2 v3 T2 L2), Q2 : Hid (QL T2.qs L2), K2, hm2, hs2, bounds hl2 hz2, h02, h12, hgo2, B2
    have eL := Q2.out.mny
    have eS := Q2.out.siz
    have cL := fun wy (hb : BW wz wy) => Lib.hid (len_any w.heap.size g gb v2 T2 wy (J2.out.pac.bw hb) (by omega) (by omega))
    have cS := fun wy (hb : BW wz wy) => Lib.hid (size_any w.heap.size g gb v2 T2 wy (J2.out.pac.bw hb) (by omega) (by omega))
    have cG := fun wy (hb : BW wz wy) => Lib.hid (gone_any w.heap.size g gb v2 T2 wy (J2.out.pac.bw hb))
    have cR := fun wy (hb : BW wz wy) => Lib.hid (rsize_any w.heap.size rg (.pointer (some ⟨rgb, 0, none⟩)) T2.packets T2.bytes v3 L2 T2.gone wy (J2.out.ref.bw hb) (by omega))
    rw [eL] at cL
    rw [eS] at cS
    obtain ⟨s3, c3, hv3, hn3, hc3⟩ := J2.out.ref.pq.len
    have zl : wz.cell? ⟨rg, 3, none⟩ = some v3 := hp_cell J2.out.ref.cells 3
    rw [hv3] at zl
    have zg : wz.cell? ⟨rg, 4, none⟩ = some (.int .i64 (T2.gone : Nat)) := hp_cell J2.out.ref.cells 4
    have ll := fun x : LaterS [] wz => x.cell zl (by simp)
    have lg := fun x : LaterS [] wz => x.cell zg (by simp)
    unfold maxLen at hc3
    generalize hM : L2.length = M at *
    generalize hZ : lensL L2 = Z at *
    generalize hG : T2.gone = G at *
    have t1 : ((M : Int) != (M : Int)) = false := by simp
    have t2 : ((Z : Int) != (Z : Int)) = false := by simp
    have t3 : ((G : Int) != (G : Int)) = false := by simp
    replace hM := Lib.hid hM
    replace hZ := Lib.hid hZ
    replace hG := Lib.hid hG
    replace eL := Lib.hid eL
    replace eS := Lib.hid eS
    replace hv3 := Lib.hid hv3
    clear zl zg
    refine wp_region_gg [] [] [] (by kernel_rfl) ?_
    refine hoist [] [] (a1 := ?_) 0 rfl (by kernel_rfl) (.inl ⟨rfl, rfl⟩) rfl rfl rfl (fun x K hK => ?_) ?_
    rotate_left
    · go_big_quiet_op
      exact hK
    refine hoist [] [] (a1 := ?_) 2 rfl (by kernel_rfl) (.inl ⟨rfl, rfl⟩) rfl rfl rfl (fun x K hK => ?_) ?_
    rotate_left
    · go_big_quiet_op
      exact hK
    refine hoist [] [] (a1 := ?_) 3 rfl (by kernel_rfl) (.inl ⟨rfl, rfl⟩) rfl rfl rfl (fun x K hK => ?_) ?_
    rotate_left
    · go_big_quiet_op
      exact hK
    refine hoist [] [] (a1 := ?_) 4 rfl (by kernel_rfl) (.inl ⟨rfl, rfl⟩) rfl rfl rfl (fun x K hK => ?_) ?_
    rotate_left
    · go_big_quiet_op
      exact hK
    refine hoist [] [] (a1 := ?_) 5 rfl (by kernel_rfl) (.inl ⟨rfl, rfl⟩) rfl rfl rfl (fun x K hK => ?_) ?_
    rotate_left
    · go_big_quiet_op
      exact hK
    refine hoist [] [] (a1 := ?_) 6 rfl (by kernel_rfl) (.inl ⟨rfl, rfl⟩) rfl rfl rfl (fun x K hK => ?_) ?_
    rotate_left
    · go_big_quiet_op
      exact hK
    refine effect 1 rfl (by kernel_rfl) (by kernel_rfl) rfl (fun x1 K hK => ?_)
    go_simp
    refine Calls.mono (cL x1.now x1.bw).out ?_
    rintro e wa ⟨rfl, hb⟩
    refine hK _ _ (Still.of_below hb) ?_
    clear hK K
    have Wa := Lib.hid (BW.call x1.bw hb)
    clear hb
    have lg := fun x : LaterS [] wa => x.cell (Wa.out.cell (hp_cell J2.out.ref.cells 4)) (by simp)
    simp only [List.getElem?_toArray, List.getElem?_cons_succ, List.getElem?_cons_zero, hG.out] at lg
    try simp only [Act.put, List.setIfInBounds_toArray, List.set_cons_succ, List.set_cons_zero]
    refine hoist [] [] (a1 := ?_) 7 rfl (by kernel_rfl) (.inl ⟨rfl, rfl⟩) rfl rfl rfl (fun x K hK => ?_) ?_
    rotate_left
    · go_big_quiet_op
      exact hK
    refine hoist [] [] (a1 := ?_) 8 rfl (by kernel_rfl) (.inl ⟨rfl, rfl⟩) rfl rfl rfl (fun x K hK => ?_) ?_
    rotate_left
    · go_big_quiet_op
      exact hK
    refine hoist [] [] (a1 := ?_) 9 rfl (by kernel_rfl) (.inl ⟨rfl, rfl⟩) rfl rfl rfl (fun x K hK => ?_) ?_
    rotate_left
    · go_big_quiet_op
      exact hK
    refine hoist [] [] (a1 := ?_) 11 rfl (by kernel_rfl) (.inl ⟨rfl, rfl⟩) rfl rfl rfl (fun x K hK => ?_) ?_
    rotate_left
    · go_big_quiet_op
      exact hK
    refine effect 10 rfl (by kernel_rfl) (by kernel_rfl) rfl (fun x10 K hK => ?_)
    go_simp
    refine Calls.mono (cS x10.now (Wa.out.trans x10.bw)).out ?_
    rintro e wb ⟨rfl, hb⟩
    refine hK _ _ (Still.of_below hb) ?_
    clear hK K
    have Wb := Lib.hid (BW.call (Wa.out.trans x10.bw) hb)
    clear hb
    try simp only [Act.put, List.setIfInBounds_toArray, List.set_cons_succ, List.set_cons_zero]
    refine effect 12 rfl (by kernel_rfl) (by kernel_rfl) rfl (fun x12 K hK => ?_)
    go_simp
    refine Calls.mono (cR x12.now (Wb.out.trans x12.bw)).out ?_
    rintro e wc ⟨rfl, rfl⟩
    refine hK _ _ (Still.refl _ _) ?_
    clear hK K
    have Wc := Lib.hid (Wb.out.trans x12.bw)
    have lg := fun x : LaterS [] x12.now => x.cell (Wc.out.cell (hp_cell J2.out.ref.cells 4)) (by simp)
    simp only [List.getElem?_toArray, List.getElem?_cons_succ, List.getElem?_cons_zero, hG.out] at lg
    try simp only [Act.put, List.setIfInBounds_toArray, List.set_cons_succ, List.set_cons_zero]
    refine hoist [] [] (a1 := ?_) 13 rfl (by kernel_rfl) (.inl ⟨rfl, rfl⟩) rfl rfl rfl (fun x K hK => ?_) ?_
    rotate_left
    · go_big_quiet_op
      exact hK
    refine hoist [] [] (a1 := ?_) 14 rfl (by kernel_rfl) (.inl ⟨rfl, rfl⟩) rfl rfl rfl (fun x K hK => ?_) ?_
    rotate_left
    · go_big_quiet_op
      exact hK
    refine hoist [] [] (a1 := ?_) 15 rfl (by kernel_rfl) (.inl ⟨rfl, rfl⟩) rfl rfl rfl (fun x K hK => ?_) ?_
    rotate_left
    · go_big_quiet_op
      exact hK
    refine hoist [] [] (a1 := ?_) 16 rfl (by kernel_rfl) (.inl ⟨rfl, rfl⟩) rfl rfl rfl (fun x K hK => ?_) ?_
    rotate_left
    · go_big_quiet_op
      exact hK
    refine hoist [] [] (a1 := ?_) 18 rfl (by kernel_rfl) (.inl ⟨rfl, rfl⟩) rfl rfl rfl (fun x K hK => ?_) ?_
    rotate_left
    · go_big_quiet_op
      exact hK
    refine hoist [] [] (a1 := ?_) 19 rfl (by kernel_rfl) (.inl ⟨rfl, rfl⟩) rfl rfl rfl (fun x K hK => ?_) ?_
    rotate_left
    · go_big_quiet_op
      exact hK
    refine hoist [] [] (a1 := ?_) 20 rfl (by kernel_rfl) (.inl ⟨rfl, rfl⟩) rfl rfl rfl (fun x K hK => ?_) ?_
    rotate_left
    · go_big_quiet_op
      exact hK
    refine hoist [] [] (a1 := ?_) 21 rfl (by kernel_rfl) (.inl ⟨rfl, rfl⟩) rfl rfl rfl (fun x K hK => ?_) ?_
    rotate_left
    · go_big_quiet_op
      exact hK
    refine effect 17 rfl (by kernel_rfl) (by kernel_rfl) rfl (fun x17 K hK => ?_)
    go_simp
    refine Calls.mono (cG x17.now (Wc.out.trans x17.bw)).out ?_
    rintro e wd ⟨rfl, rfl⟩
    refine hK _ _ (Still.refl _ _) ?_
    clear hK K
    have Wd := Lib.hid (Wc.out.trans x17.bw)
    try simp only [Act.put, List.setIfInBounds_toArray, List.set_cons_succ, List.set_cons_zero]
    refine hoist [] [] (a1 := ?_) 22 rfl (by kernel_rfl) (.inl ⟨rfl, rfl⟩) rfl rfl rfl (fun x K hK => ?_) ?_
    rotate_left
    · go_big_quiet_op
      exact hK
    refine hoist [] [] (a1 := ?_) 23 rfl (by kernel_rfl) (.inl ⟨rfl, rfl⟩) rfl rfl rfl (fun x K hK => ?_) ?_
    rotate_left
    · go_big_quiet_op
      exact hK
    refine done (by kernel_rfl) (fun xr => ?_)
    have WW := Lib.hid (Wd.out.trans xr.bw)
    have J9 := Lib.hid (J2.out.bw WW.out)
    have B9 := Lib.hid (Bc.out.trans WW.out)
    clear cL cS cG cR ll lg t1 t2 t3
    go_wp2_with fail
    go_roundg (len - (j + 1))
    case measure => omega
    case rel => exact ⟨j + 1, v2, v3, T2, L2, rfl, by omega, by push_cast; rfl, by omega, J9, Q2, K2, hm2, hs2, by rw [hM.out]; omega, by rw [hZ.out]; omega, by rw [hM.out, hG.out]; omega, h02, h12, B9⟩
end Go.Proofs.Ytgiajnfmjpdodaa
