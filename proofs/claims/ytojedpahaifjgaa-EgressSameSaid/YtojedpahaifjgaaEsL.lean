/- The law EgressSame (printed by wip/gen/genEsL.py). No condition. -/
import Derived.Test.YtojedpahaifjgaaEsM
import Derived.Test.YtojedpahaifjgaaSwh
import Derived.Test.YtojedpahaifjgaaRg3
import Derived.Test.YtojedpahaifjgaaBst
import Derived.Test.YtojedpahaifjgaaStr
namespace Go.Proofs.Ytojedpahaifjgaa
open Go.RowKit
theorem swOp : SwT 41 17 := ⟨⟨_, Try.underlying41, rfl, rfl⟩, by kernel_rfl⟩
theorem swSn : SwT 60 13 := ⟨⟨_, Try.underlying60, rfl, rfl⟩, by kernel_rfl⟩
theorem swAr : SwT 38 13 := ⟨⟨_, Try.underlying38, rfl, rfl⟩, by kernel_rfl⟩
theorem swRt : SwT 36 11 := ⟨⟨_, Try.underlying36, rfl, rfl⟩, by kernel_rfl⟩
def rtC (mk : Bool) (ty sq st so : Int) (oth : Value) (xb : Bool) (pf : Int) (ex pay : Value) (pd : Int) : Array Value :=
 #[.bool mk, .int .u8 ty, .int .u16 sq, .int .u32 st, .int .u32 so, oth, .bool xb, .int .u16 pf, ex, pay, .int .u8 pd]
set_option maxRecDepth 100000 in
set_option maxHeartbeats 8000000 in
theorem law_same (p : Int) (sa : Option Addr) (ln cp_ : Nat) (w : World) (hp : (Lit.int .u8 p).wf = true) (hA : Rd w (.loop egTy) [.slice sa ln cp_]) :
  Calls Try.prog 3 #[.int .u8 p, .slice sa ln cp_] w fun e w' => e = .returned (.bool true) ∧ Below w.heap.size w w' := by
 obtain ⟨p0, p1⟩ := bounds_u8 hp
 obtain ⟨hlc, hcm, hops⟩ := egop_at hA
 unfold maxLen at hcm
 clear hp hA
 obtain ⟨c, hc⟩ : ∃ c : Nat, p % 3 = (c : Int) := ⟨(p % 3).toNat, by omega⟩
 have hc3 : c < 3 := by omega
 have ha := Lib.hid (es_alive w)
 replace hops := Lib.hid hops
 go_enter Try.func3, Try.ntmps3
 go_wp2_with fail
 refine Calls.mono ha.out ?_
 rintro e w1 ⟨rfl, B1⟩
 replace B1 := Lib.hid B1
 clear ha
 dsimp only
 have cN := egnew_c c hc3 77 4 0 4 100 0 (by omega) (by omega) (by omega) (by omega) (by omega) w1
 unfold limC at cN
 replace cN := Lib.hid cN
 go_wp2_with fail
 refine Calls.mono cN.out ?_
 rintro e w2 ⟨g, gc, gr, gb, rfl, hge, E1, hb⟩
 have Hc := Lib.hid E1.hp
 have Cc := Lib.hid E1.ch
 have hgc := hp_ne E1.ch E1.hp (by decide)
 have hgw : w.heap.size ≤ g ∧ w.heap.size ≤ gc := ⟨Nat.le_trans B1.out.size hge.1, Nat.le_trans B1.out.size hge.2.1⟩
 have Bc := Lib.hid (B1.out.trans hb)
 replace hgw := Lib.hid hgw
 replace hgc := Lib.hid hgc
 clear hb cN E1 B1 hge
 dsimp only
 go_upto_region 7 with (fail)
 rw [hc]
 go_loopg [6] ln (fun m' i wx => ∃ (k : Nat) (wanted goes : Int) (W : Wr), m' = ln - k ∧ k ≤ ln ∧ k ≤ 40 ∧ i = .int .i64 (k : Nat) ∧ Hid (W.OkK k) ∧ Hid (HpB wx g (.cells (egW gc (fnV (fkC c)) (fnV (fpC c)) 77 0 W gr gb) 57)) ∧ Hid (HpB wx gc (.cells (chC 4 wanted goes) 112)) ∧ Hid (BW w wx))
 case atStart => exact ⟨0, -1, -1, Wr.zero, by omega, by omega, by omega, rfl, okK_zero, Hc, Cc, Bc⟩
 case round =>
  clear Hc Cc Bc
  obtain ⟨k, wanted, goes, W, rfl, hk, hk40, rfl, hW, Hc, Cc, Bc⟩ := hrel
  by_cases hkn : k < ln
  ·have d1 : decide ((k : Int) < (ln : Int)) = true := by simp; omega
   by_cases hk4 : k < 40
   ·have d2 : decide ((k : Int) < 40) = true := by simp; omega
    obtain ⟨gq, oq, rfl, hgq, hi⟩ : ∃ b o, sa = some ⟨b, o, none⟩ ∧ b < w.heap.size ∧ _ := by
     rcases hops.out with h0 | h
     ·omega
     ·exact h
    obtain ⟨ko, ly, pl, ix, mk, ty, sq, st, so, so_, no, co, xb, pf, se, ne, ce, sp, np, cp, pd, sz, sl, nl, cl_, lp, le, hcells, SP, SE, hko, hix, hly, hoc, hlc2, hst, hsz, -⟩ := hi k hkn
    obtain ⟨_, _, he, hpc, hpm⟩ := SP.len
    cases he
    obtain ⟨_, _, he, hec, hem⟩ := SE.len
    cases he
    unfold maxLen at hpm hem hoc hlc2
    have hby := Lib.hid SP.2.1
    replace SP := Lib.hid SP
    replace SE := Lib.hid SE
    have hR := Lib.hid (rangeAt_bw (rangeAt_of hcells rfl) Bc.out)
    clear hcells hi
    as_aux_lemma =>
    have BA : BW wr (wr.alloc (.cells (opA ko ly pl ix mk ty sq st so so_ no co xb pf se ne ce sp np cp pd sz sl nl cl_) 41)) := (BW.refl wr).alloc
    have Xc := Lib.hid (HpB.new wr (.cells (opA ko ly pl ix mk ty sq st so so_ no co xb pf se ne ce sp np cp pd sz sl nl cl_) 41))
    replace Hc := Lib.hid (Hc.out.bw BA)
    replace Cc := Lib.hid (Cc.out.bw BA)
    replace Bc := Lib.hid (Bc.out.trans BA)
    clear BA
    go_upto_region 10 with (first | (refine swLdC swOp rfl rfl rfl hR.out rfl ?_) | (refine swStN swOp rfl rfl rfl rfl rfl rfl (by kernel_rfl) ?_))
    generalize wr.alloc _ = w3 at *
    generalize wr.heap.size = go at *
    clear hR
    have cG := great_any ko ly pl ix mk ty sq st so so_ no co xb pf se ne ce sp np cp pd sz sl nl cl_ w3
    obtain ⟨G, hG⟩ : ∃ G, greatN no ne np nl ix = G := ⟨_, rfl⟩
    rw [hG] at cG
    replace cG := Lib.hid cG
    replace hG := Lib.hid hG
    as_aux_lemma =>
    go_wp2_with (refine swLd swOp rfl rfl rfl Xc.out rfl ?_)
    refine Calls.mono cG.out ?_
    rintro e w4 ⟨rfl, hb⟩
    replace Hc := Lib.hid (Hc.out.bw hb)
    replace Cc := Lib.hid (Cc.out.bw hb)
    replace Xc := Lib.hid (Xc.out.bw hb)
    try replace Yc := Lib.hid (Yc.out.bw hb)
    try replace G1 := Lib.hid (G1.out.bw hb)
    try replace G2 := Lib.hid (G2.out.bw hb)
    try replace V1 := Lib.hid (V1.out.bw hb)
    try replace PV := Lib.hid (PV.out.bw hb)
    replace Bc := Lib.hid (Bc.out.trans hb)
    clear hb
    clear cG
    dsimp only
    cases G with
    | true =>
     go_wp2_with fail
     go_ret
     exact ⟨rfl, Bc.out⟩
    | false =>
     obtain ⟨hno6, hne, hnp, hnl, hix2⟩ := greatN_no hG.out
     have q0 := (hp_cell Xc.out 0).trans (show _ = some (.int .u8 ko) from rfl)
     by_cases hk3 : ko % 6 = 3
     ·have d3 : (ko % 6 == 3) = true := beq_iff_eq.2 hk3
      replace hk3 := Lib.hid hk3
      go_upto_region 13 with (fail)
      have q1 := (hp_cell Xc.out 1).trans (show _ = some (.int .i64 ly) from rfl)
      have h0 := (hp_cell Hc.out 0).trans (show _ = some (.pointer (some ⟨gc, 0, none⟩)) from rfl)
      have m1 : ∀ y : LaterS [] w4, _ := fun y => y.bw.cell q1
      have m0 : ∀ y : LaterS [] w4, _ := fun y => y.bw.cell h0
      clear q0 q1 h0
      as_aux_lemma =>
      refine wp_region_gg ([gc]) [6] [] (by kernel_rfl) ?_
      refine hoist [] [6] (a1 := ?_) 0 rfl (by kernel_rfl) (.inl ⟨rfl, rfl⟩) rfl rfl rfl (fun x K hK => ?_) ?_
      rotate_left
      ·go_big_quiet_op
       exact hK
      refine hoist [] [6] (a1 := ?_) 1 rfl (by kernel_rfl) (.inl ⟨rfl, rfl⟩) rfl rfl rfl (fun x K hK => ?_) ?_
      rotate_left
      ·go_big_quiet_op
       exact hK
      refine hoist [] [6] (a1 := ?_) 2 rfl (by kernel_rfl) (.inl ⟨rfl, rfl⟩) rfl rfl rfl (fun x K hK => ?_) ?_
      rotate_left
      ·go_big_quiet_op
       exact hK
      refine hoist [] [6] (a1 := ?_) 3 rfl (by kernel_rfl) (.inl ⟨rfl, rfl⟩) rfl rfl rfl (fun x K hK => ?_) ?_
      rotate_left
      ·go_big_quiet_op
       exact hK
      refine hoist [] [6] (a1 := ?_) 4 rfl (by kernel_rfl) (.inl ⟨rfl, rfl⟩) rfl rfl rfl (fun x K hK => ?_) ?_
      rotate_left
      ·go_big_quiet_op
       exact hK
      refine hoist [] [6] (a1 := ?_) 5 rfl (by kernel_rfl) (.inl ⟨rfl, rfl⟩) rfl rfl rfl (fun x K hK => ?_) ?_
      rotate_left
      ·go_big_quiet_op
       exact hK
      refine effect 6 rfl (by kernel_rfl) (by kernel_rfl) rfl (fun x6 K hK => ?_)
      have hb := x6.bw
      replace Hc := Lib.hid (Hc.out.bw hb)
      replace Cc := Lib.hid (Cc.out.bw hb)
      replace Xc := Lib.hid (Xc.out.bw hb)
      try replace Yc := Lib.hid (Yc.out.bw hb)
      try replace G1 := Lib.hid (G1.out.bw hb)
      try replace G2 := Lib.hid (G2.out.bw hb)
      try replace V1 := Lib.hid (V1.out.bw hb)
      try replace PV := Lib.hid (PV.out.bw hb)
      replace Bc := Lib.hid (Bc.out.trans hb)
      clear hb
      go_simp
      refine Calls.mono (want_any gc 4 wanted goes ly x6.now Cc.out) ?_
      rintro e w5 ⟨rfl, C5, T5⟩
      refine hK _ _ T5 ?_
      clear hK K m0 m1
      replace Hc := Lib.hid (Hc.out.st T5 (by simpa using fun e => hgc.out e.symm))
      replace Xc := Lib.hid (Xc.out.st T5 (by simpa using (hp_ne Xc.out Cc.out (by decide))))
      replace Bc := Lib.hid (BW.stP Bc.out T5 (fun k hk => by obtain rfl : k = gc := (by simpa using hk); exact hgw.out.2))
      clear Cc
      have Cc := Lib.hid C5
      clear C5 T5
      try simp only [Act.put, List.setIfInBounds_toArray, List.set_cons_succ, List.set_cons_zero]
      refine done (by kernel_rfl) (fun xr => ?_)
      have hb := xr.bw
      replace Hc := Lib.hid (Hc.out.bw hb)
      replace Cc := Lib.hid (Cc.out.bw hb)
      replace Xc := Lib.hid (Xc.out.bw hb)
      try replace Yc := Lib.hid (Yc.out.bw hb)
      try replace G1 := Lib.hid (G1.out.bw hb)
      try replace G2 := Lib.hid (G2.out.bw hb)
      try replace V1 := Lib.hid (V1.out.bw hb)
      try replace PV := Lib.hid (PV.out.bw hb)
      replace Bc := Lib.hid (Bc.out.trans hb)
      clear hb
      generalize xr.now = w6 at *
      have hWN := Lib.hid (okK_up hW.out)
      generalize (wantN 4 wanted goes ly).2.1 = wanted2 at *
      generalize (wantN 4 wanted goes ly).2.2 = gl at *
      go_wp2_with fail
      go_roundg (ln - (k + 1))
      case measure => omega
      case rel => exact ⟨k + 1, wanted2, gl, W, rfl, by omega, by omega, by first | rfl | (push_cast; rfl), hWN, Hc, Cc, Bc⟩
     ·have d3 : (ko % 6 == 3) = false := beq_eq_false_iff_ne.2 hk3
      replace hk3 := Lib.hid hk3
      have h0 := (hp_cell Hc.out 0).trans (show _ = some (.pointer (some ⟨gc, 0, none⟩)) from rfl)
      have cGo := Lib.hid (goes_w gc 4 wanted goes w4 Cc.out)
      as_aux_lemma =>
      go_wp2_with fail
      refine Calls.mono cGo.out ?_
      rintro e w5 ⟨rfl, rfl⟩
      clear cGo h0 q0
      dsimp only
      obtain ⟨key, hkey0⟩ : ∃ b, keyC c lp = b := ⟨_, rfl⟩
      obtain ⟨has, hhas0⟩ : ∃ b, hasC c lp = b := ⟨_, rfl⟩
      obtain ⟨pic, hpic0⟩ : ∃ b, picC c lp = b := ⟨_, rfl⟩
      have cP := push_any g gc gr gb (fkC c) (fpC c) 77 0 4 wanted goes ly key has pic (TVq w4.heap.size (lI lp) (vWide (lI lp))) W pl ix mk ty sq st so so_ no co xb pf se ne ce sp np cp pd (by omega) (okK_ok hW.out hk40) w4 hgc.out Hc.out Cc.out (fkC_enter c hc3) (fpC_enter c hc3) (fun y hy => by rw [← hkey0]; exact cK_any c hc3 sp np cp lp y (SP.out.bw (Bc.out.trans hy)) (by omega)) (fun y hy => by rw [← hpic0, ← hhas0]; exact cP_any c hc3 sp np cp lp y (SP.out.bw (BW.stP Bc.out hy (fun k hk => by obtain rfl : k = gc := (by simpa using hk); exact hgw.out.2)))) (fun hh y q hy h1 h2 => cT_any c sp np cp lp (hhas0.trans hh) q h1 h2 (by omega) w4.heap.size y hy.size (SP.out.bw (BW.stP Bc.out hy (fun k hk => by rcases (by simpa using hk : k = gc ∨ k = g) with rfl | rfl; exact hgw.out.2; exact hgw.out.1)))) (fun q y y' v S h hs hS => OwnB.stN h hs hS)
      obtain ⟨⟨t, tu, gl0⟩, hT⟩ : ∃ t, takeN 4 wanted goes ly key = t := ⟨_, rfl⟩
      obtain ⟨⟨r, tuN, gl, WN⟩, hN⟩ : ∃ N, pushN 4 wanted goes ly key 0 W ix st pic = N := ⟨_, rfl⟩
      have hWN := Lib.hid (okK_push hW.out (by omega) hN)
      have hKN := push_key hN
      rw [hN] at cP
      dsimp only at cP
      clear hT
      replace cP := Lib.hid cP
      replace hN := Lib.hid hN
      replace hKN := Lib.hid hKN
      replace hkey0 := Lib.hid hkey0
      replace hhas0 := Lib.hid hhas0
      replace hpic0 := Lib.hid hpic0
      have q1 := (hp_cell Xc.out 1).trans (show _ = some (.int .i64 ly) from rfl)
      as_aux_lemma =>
      go_wp2_with (refine swLdC swAr rfl rfl rfl (Xc.out.range 2 (arC pl ix mk ty sq st so (.slice so_ no co) xb pf (.slice se ne ce) (.slice sp np cp) pd).toList rfl) rfl ?_)
      refine Calls.mono cP.out ?_
      rintro e w6 ⟨hE, H6, C6, T6⟩
      have B6 := Lib.hid (BW.stP Bc.out T6 (fun k hk => by rcases (by simpa using hk : k = gc ∨ k = g) with rfl | rfl; exact hgw.out.2; exact hgw.out.1))
      have X6 := Lib.hid (Xc.out.st T6 (by
       have h1 := hp_ne Xc.out Cc.out (by decide)
       have h2 := hp_ne Xc.out Hc.out (by decide)
       simp [h1, h2]))
      clear Hc Cc Bc Xc cP T6 q1
      have Hc := Lib.hid H6
      have Cc := Lib.hid C6
      have Bc := B6
      have Xc := X6
      clear H6 C6 B6 X6
      rcases hE with ⟨hr, rfl⟩ | ⟨y, n1, n2, v, hr, rfl, hv0, hv1⟩
      ·dsimp only
       have BA : BW w6 (w6.alloc (.cells (snC 0 false 0 0 0 0 (.slice none 0 0) false 0 (.slice none 0 0) (.slice none 0 0) 0 false) 60)) := (BW.refl _).alloc
       have hb := BA
       replace Hc := Lib.hid (Hc.out.bw hb)
       replace Cc := Lib.hid (Cc.out.bw hb)
       replace Xc := Lib.hid (Xc.out.bw hb)
       try replace Yc := Lib.hid (Yc.out.bw hb)
       try replace G1 := Lib.hid (G1.out.bw hb)
       try replace G2 := Lib.hid (G2.out.bw hb)
       try replace V1 := Lib.hid (V1.out.bw hb)
       try replace PV := Lib.hid (PV.out.bw hb)
       replace Bc := Lib.hid (Bc.out.trans hb)
       clear hb
       replace BA := Lib.hid BA
       replace hr := Lib.hid hr
       as_aux_lemma =>
       go_upto_region 17 with (refine swStN swSn rfl rfl rfl rfl rfl rfl (by kernel_rfl) ?_)
       generalize w6.alloc _ = w7 at *
       generalize w6.heap.size = ga2 at *
       have h0 := (hp_cell Hc.out 0).trans (show _ = some (.pointer (some ⟨gc, 0, none⟩)) from rfl)
       have cGo := Lib.hid (goes_w gc 4 wanted gl w7 Cc.out)
       by_cases hgl : gl = goes
       ·have d4 : (gl != goes) = false := by simpa using hgl
        replace hgl := Lib.hid hgl
        go_wp2_with fail
        refine Calls.mono cGo.out ?_
        rintro e w8 ⟨rfl, rfl⟩
        clear cGo
        dsimp only
        go_wp2_with fail
        go_roundg (ln - (k + 1))
        case measure => omega
        case rel => exact ⟨k + 1, wanted, gl, WN, rfl, by omega, by omega, by first | rfl | (push_cast; rfl), hWN, Hc, Cc, Bc⟩
       ·have d4 : (gl != goes) = true := by simpa using hgl
        have hk := hKN.out.1 hgl
        have cR := rkey28_any c hc3 sp np cp lp w7 (SP.out.bw Bc.out) (by omega)
        rw [hkey0.out, hk] at cR
        have q13 := (hp_cell Xc.out 13).trans (show _ = some (.slice sp np cp) from rfl)
        replace hgl := Lib.hid hgl
        replace cR := Lib.hid cR
        go_wp2_with fail
        refine Calls.mono cGo.out ?_
        rintro e w8 ⟨rfl, rfl⟩
        clear cGo
        dsimp only
        go_wp2_with fail
        refine Calls.mono cR.out ?_
        rintro e w8 ⟨rfl, hb⟩
        replace Hc := Lib.hid (Hc.out.bw hb)
        replace Cc := Lib.hid (Cc.out.bw hb)
        replace Xc := Lib.hid (Xc.out.bw hb)
        try replace Yc := Lib.hid (Yc.out.bw hb)
        try replace G1 := Lib.hid (G1.out.bw hb)
        try replace G2 := Lib.hid (G2.out.bw hb)
        try replace V1 := Lib.hid (V1.out.bw hb)
        try replace PV := Lib.hid (PV.out.bw hb)
        replace Bc := Lib.hid (Bc.out.trans hb)
        clear hb
        clear cR h0 q13
        dsimp only
        go_wp2_with fail
        go_roundg (ln - (k + 1))
        case measure => omega
        case rel => exact ⟨k + 1, wanted, gl, WN, rfl, by omega, by omega, by first | rfl | (push_cast; rfl), hWN, Hc, Cc, Bc⟩
      ·obtain ⟨sv, nv, cv, L', PV, rfl, hL⟩ := pay_form hby.out SP.out Bc.out hhas0.out (pic_ok hN.out hr) hv0 hv1
       obtain ⟨f0, f1, f2, f3, f4, f5, f6, f7, f8, hF⟩ := rout_form L' PV
       replace PV := Lib.hid PV
       replace hL := Lib.hid hL
       replace hF := Lib.hid hF
       have hkk := hKN.out.2 (by rw [hr]; rfl)
       clear hv0 hv1
       generalize IntKind.u16.wrap y = sy at *
       obtain ⟨hgl0, hkt, hkf⟩ := hkk
       have hgl := hgl0.symm
       clear hgl0
       subst hgl
       replace hr := Lib.hid hr
       generalize hww : w6 = wc at *
       clear hww
       dsimp only
       as_aux_lemma =>
       have BA : BW wc (wc.alloc (.cells (snC y mk ty sy n1 77 (.slice none 0 0) xb pf (.slice se ne ce) (.slice sv nv cv) pd tuN) 60)) := (BW.refl _).alloc
       have Yc := Lib.hid (HpB.new wc (.cells (snC y mk ty sy n1 77 (.slice none 0 0) xb pf (.slice se ne ce) (.slice sv nv cv) pd tuN) 60))
       have hb := BA
       replace Hc := Lib.hid (Hc.out.bw hb)
       replace Cc := Lib.hid (Cc.out.bw hb)
       replace Xc := Lib.hid (Xc.out.bw hb)
       replace PV := Lib.hid (PV.out.bw hb)
       replace Bc := Lib.hid (Bc.out.trans hb)
       clear hb
       replace BA := Lib.hid BA
       go_upto_region 19 with (refine swStN swSn rfl rfl rfl rfl rfl rfl (by kernel_rfl) ?_)
       generalize wc.alloc _ = wd at *
       generalize wc.heap.size = ga2 at *
       go_cut [11, 12] (fun y11 y12 wz => ∃ g1 g2 : Nat, y11 = .pointer (some ⟨g1, 0, none⟩) ∧ y12 = .pointer (some ⟨g2, 0, none⟩) ∧ Hid (HpB wz g1 (.cells (rtC mk ty sy n1 77 (.slice none 0 0) xb pf (.slice se ne ce) (.slice sv nv cv) pd) 36)) ∧ Hid (HpB wz g2 (.cells (rtC mk ty sq st so (.slice so_ no co) xb pf (.slice se ne ce) (.slice sp np cp) pd) 36)) ∧ Hid (HpB wz g (.cells (egW gc (fnV (fkC c)) (fnV (fpC c)) 77 0 WN gr gb) 57)) ∧ Hid (HpB wz gc (.cells (chC 4 wanted ly) 112)) ∧ Hid (HpB wz go (.cells (opA ko ly pl ix mk ty sq st so so_ no co xb pf se ne ce sp np cp pd sz sl nl cl_) 41)) ∧ Hid (HpB wz ga2 (.cells (snC y mk ty sy n1 77 (.slice none 0 0) xb pf (.slice se ne ce) (.slice sv nv cv) pd tuN) 60)) ∧ Hid (PayAt w wz sv nv cv L') ∧ Hid (BW w wz))
       case first =>
        refine wp_region_gl [] [] [] [7, 8] (by kernel_rfl) ?_
        refine hoist [] [] (a1 := ?_) 0 rfl (by kernel_rfl) (.inl ⟨rfl, rfl⟩) rfl rfl rfl (fun x K hK => ?_) ?_
        rotate_left
        ·go_big_quiet_op
         exact hK
        refine hoist [] [] (a1 := ?_) 1 rfl (by kernel_rfl) (.inl ⟨rfl, rfl⟩) rfl rfl rfl (fun x K hK => ?_) ?_
        rotate_left
        ·refine swQlC swRt rfl (by rfl) rfl (fun w' hw => by subst hw; exact (Yc.out.bw x.bw).range 1 (rtC mk ty sy n1 77 (.slice none 0 0) xb pf (.slice se ne ce) (.slice sv nv cv) pd).toList rfl) (by simp only [Act.put, List.setIfInBounds_toArray, List.set_cons_succ, List.set_cons_zero]; rfl) ?_
         exact hK
        refine hoistP (a1 := ?_) 2 rfl (by kernel_rfl) rfl (fun x => rfl) ?_ ?_
        rotate_left
        ·simp only [Act.put, List.setIfInBounds_toArray, List.set_cons_succ, List.set_cons_zero]; rfl
        refine hoistP (a1 := ?_) 3 rfl (by kernel_rfl) rfl (fun x => rfl) ?_ ?_
        rotate_left
        ·simp only [Act.put, List.setIfInBounds_toArray, List.set_cons_succ, List.set_cons_zero]; rfl
        refine effectM [4, 5, 6] (by kernel_rfl) (by simp) (by kernel_rfl) (mem3 ⟨_, rfl, rfl, fun x4 K hK => ?_⟩ ⟨_, rfl, rfl, fun x5 K hK => ?_⟩ ⟨_, rfl, rfl, fun x6 K hK => ?_⟩)
        ·skip
         have hb := x4.bw
         replace Hc := Lib.hid (Hc.out.bw hb)
         replace Cc := Lib.hid (Cc.out.bw hb)
         replace Xc := Lib.hid (Xc.out.bw hb)
         try replace Yc := Lib.hid (Yc.out.bw hb)
         try replace G1 := Lib.hid (G1.out.bw hb)
         try replace G2 := Lib.hid (G2.out.bw hb)
         try replace V1 := Lib.hid (V1.out.bw hb)
         try replace PV := Lib.hid (PV.out.bw hb)
         replace Bc := Lib.hid (Bc.out.trans hb)
         clear hb
         refine swLdOC swRt rfl rfl (Xc.out.range 4 (rtC mk ty sq st so (.slice so_ no co) xb pf (.slice se ne ce) (.slice sp np cp) pd).toList rfl) rfl ?_
         refine hK _ _ (Still.refl _ _) ?_
         clear hK K
         try simp only [Act.put, List.setIfInBounds_toArray, List.set_cons_succ, List.set_cons_zero]
         refine effect2 5 6 rfl rfl (by kernel_rfl) (by kernel_rfl) (by kernel_rfl) rfl rfl (fun x5 K hK => ?_) (fun x6 K hK => ?_)
         ·skip
          go_simp
          refine hK _ _ (Still.of_below ((Below.refl _ _).alloc (Nat.le_refl _) _)) ?_
          clear hK K
          have hb0 := x5.bw
          try have hne := Lib.hid (Nat.ne_of_gt (G2.out.bw hb0).lt)
          have hzG1 := Lib.hid (Nat.le_trans Bc.out.size hb0.size)
          have hb := hb0.trans ((BW.refl x5.now).alloc (o := .cells #[.bool false, .int .u8 0, .int .u16 0, .int .u32 0, .int .u32 0, .slice none 0 0, .bool false, .int .u16 0, .slice none 0 0, .slice none 0 0, .int .u8 0] 36))
          clear hb0
          replace Hc := Lib.hid (Hc.out.bw hb)
          replace Cc := Lib.hid (Cc.out.bw hb)
          replace Xc := Lib.hid (Xc.out.bw hb)
          try replace Yc := Lib.hid (Yc.out.bw hb)
          try replace G1 := Lib.hid (G1.out.bw hb)
          try replace G2 := Lib.hid (G2.out.bw hb)
          try replace V1 := Lib.hid (V1.out.bw hb)
          try replace PV := Lib.hid (PV.out.bw hb)
          replace Bc := Lib.hid (Bc.out.trans hb)
          clear hb
          have G1 := Lib.hid (HpB.new x5.now (.cells #[.bool false, .int .u8 0, .int .u16 0, .int .u32 0, .int .u32 0, .slice none 0 0, .bool false, .int .u16 0, .slice none 0 0, .slice none 0 0, .int .u8 0] 36))
          generalize x5.now.alloc (.cells #[.bool false, .int .u8 0, .int .u16 0, .int .u32 0, .int .u32 0, .slice none 0 0, .bool false, .int .u16 0, .slice none 0 0, .slice none 0 0, .int .u8 0] 36) = wn5 at *
          generalize x5.now.heap.size = g1 at *
          try simp only [Act.put, List.setIfInBounds_toArray, List.set_cons_succ, List.set_cons_zero]
          refine effect 6 rfl (by kernel_rfl) (by kernel_rfl) rfl (fun x6 K hK => ?_)
          go_simp
          refine hK _ _ (Still.of_below ((Below.refl _ _).alloc (Nat.le_refl _) _)) ?_
          clear hK K
          have hb0 := x6.bw
          try have hne := Lib.hid (Nat.ne_of_lt (G1.out.bw hb0).lt)
          have hzG2 := Lib.hid (Nat.le_trans Bc.out.size hb0.size)
          have hb := hb0.trans ((BW.refl x6.now).alloc (o := .cells #[.bool false, .int .u8 0, .int .u16 0, .int .u32 0, .int .u32 0, .slice none 0 0, .bool false, .int .u16 0, .slice none 0 0, .slice none 0 0, .int .u8 0] 36))
          clear hb0
          replace Hc := Lib.hid (Hc.out.bw hb)
          replace Cc := Lib.hid (Cc.out.bw hb)
          replace Xc := Lib.hid (Xc.out.bw hb)
          try replace Yc := Lib.hid (Yc.out.bw hb)
          try replace G1 := Lib.hid (G1.out.bw hb)
          try replace G2 := Lib.hid (G2.out.bw hb)
          try replace V1 := Lib.hid (V1.out.bw hb)
          try replace PV := Lib.hid (PV.out.bw hb)
          replace Bc := Lib.hid (Bc.out.trans hb)
          clear hb
          have G2 := Lib.hid (HpB.new x6.now (.cells #[.bool false, .int .u8 0, .int .u16 0, .int .u32 0, .int .u32 0, .slice none 0 0, .bool false, .int .u16 0, .slice none 0 0, .slice none 0 0, .int .u8 0] 36))
          generalize x6.now.alloc (.cells #[.bool false, .int .u8 0, .int .u16 0, .int .u32 0, .int .u32 0, .slice none 0 0, .bool false, .int .u16 0, .slice none 0 0, .slice none 0 0, .int .u8 0] 36) = wn6 at *
          generalize x6.now.heap.size = g2 at *
          try simp only [Act.put, List.setIfInBounds_toArray, List.set_cons_succ, List.set_cons_zero]
          refine effectL 7 rfl (by kernel_rfl) rfl (by kernel_rfl) rfl (fun x7 K hK => ?_)
          have hb := x7.bw
          replace Hc := Lib.hid (Hc.out.bw hb)
          replace Cc := Lib.hid (Cc.out.bw hb)
          replace Xc := Lib.hid (Xc.out.bw hb)
          try replace Yc := Lib.hid (Yc.out.bw hb)
          try replace G1 := Lib.hid (G1.out.bw hb)
          try replace G2 := Lib.hid (G2.out.bw hb)
          try replace V1 := Lib.hid (V1.out.bw hb)
          try replace PV := Lib.hid (PV.out.bw hb)
          replace Bc := Lib.hid (Bc.out.trans hb)
          clear hb
          have hst9 := still_rowS x7.now g1 (rtC mk ty sy n1 77 (.slice none 0 0) xb pf (.slice se ne ce) (.slice sv nv cv) pd)
          have H9 := Lib.hid (Hc.out.st hst9 (by simpa using (hp_ne Hc.out G1.out (by decide))))
          have C9 := Lib.hid (Cc.out.st hst9 (by simpa using (hp_ne Cc.out G1.out (by decide))))
          have X9 := Lib.hid (Xc.out.st hst9 (by simpa using (hp_ne Xc.out G1.out (by decide))))
          have Y9 := Lib.hid (Yc.out.st hst9 (by simpa using (hp_ne Yc.out G1.out (by decide))))
          have O9 := Lib.hid (G2.out.st hst9 (by simpa using (fun e => hne.out e.symm)))
          have P9 := Lib.hid (PayAt.stN PV.out hst9 (fun k hk => by obtain rfl : k = g1 := (by simpa using hk); exact ⟨hzG1.out, _, _, _, G1.out, by decide⟩))
          have B9 := Lib.hid (BW.stP Bc.out hst9 (fun k hk => by obtain rfl : k = g1 := (by simpa using hk); exact hzG1.out))
          have N9 := Lib.hid (G1.out.rowS (rtC mk ty sy n1 77 (.slice none 0 0) xb pf (.slice se ne ce) (.slice sv nv cv) pd))
          have Gold := G1
          clear hst9 Hc Cc Xc Yc G1 G2 PV Bc
          have Hc := H9
          have Cc := C9
          have Xc := X9
          have Yc := Y9
          have G2 := O9
          have G1 := N9
          have PV := P9
          have Bc := B9
          clear H9 C9 X9 Y9 O9 N9 P9 B9
          refine swStO swRt rfl rfl rfl Gold.out rfl rfl (by kernel_rfl) ?_
          refine hK _ _ ?_
          clear hK K Gold
          generalize x7.now.setRow g1 (rtC mk ty sy n1 77 (.slice none 0 0) xb pf (.slice se ne ce) (.slice sv nv cv) pd) = wk7 at *
          try simp only [Act.put, List.setIfInBounds_toArray, List.set_cons_succ, List.set_cons_zero]
          refine effectL 8 rfl (by kernel_rfl) rfl (by kernel_rfl) rfl (fun x8 K hK => ?_)
          have hb := x8.bw
          replace Hc := Lib.hid (Hc.out.bw hb)
          replace Cc := Lib.hid (Cc.out.bw hb)
          replace Xc := Lib.hid (Xc.out.bw hb)
          try replace Yc := Lib.hid (Yc.out.bw hb)
          try replace G1 := Lib.hid (G1.out.bw hb)
          try replace G2 := Lib.hid (G2.out.bw hb)
          try replace V1 := Lib.hid (V1.out.bw hb)
          try replace PV := Lib.hid (PV.out.bw hb)
          replace Bc := Lib.hid (Bc.out.trans hb)
          clear hb
          have hst9 := still_rowS x8.now g2 (rtC mk ty sq st so (.slice so_ no co) xb pf (.slice se ne ce) (.slice sp np cp) pd)
          have H9 := Lib.hid (Hc.out.st hst9 (by simpa using (hp_ne Hc.out G2.out (by decide))))
          have C9 := Lib.hid (Cc.out.st hst9 (by simpa using (hp_ne Cc.out G2.out (by decide))))
          have X9 := Lib.hid (Xc.out.st hst9 (by simpa using (hp_ne Xc.out G2.out (by decide))))
          have Y9 := Lib.hid (Yc.out.st hst9 (by simpa using (hp_ne Yc.out G2.out (by decide))))
          have O9 := Lib.hid (G1.out.st hst9 (by simpa using (fun e => hne.out e)))
          have P9 := Lib.hid (PayAt.stN PV.out hst9 (fun k hk => by obtain rfl : k = g2 := (by simpa using hk); exact ⟨hzG2.out, _, _, _, G2.out, by decide⟩))
          have B9 := Lib.hid (BW.stP Bc.out hst9 (fun k hk => by obtain rfl : k = g2 := (by simpa using hk); exact hzG2.out))
          have N9 := Lib.hid (G2.out.rowS (rtC mk ty sq st so (.slice so_ no co) xb pf (.slice se ne ce) (.slice sp np cp) pd))
          have Gold := G2
          clear hst9 Hc Cc Xc Yc G1 G2 PV Bc
          have Hc := H9
          have Cc := C9
          have Xc := X9
          have Yc := Y9
          have G1 := O9
          have G2 := N9
          have PV := P9
          have Bc := B9
          clear H9 C9 X9 Y9 O9 N9 P9 B9
          refine swStO swRt rfl rfl rfl Gold.out rfl rfl (by kernel_rfl) ?_
          refine hK _ _ ?_
          clear hK K Gold
          generalize x8.now.setRow g2 (rtC mk ty sq st so (.slice so_ no co) xb pf (.slice se ne ce) (.slice sp np cp) pd) = wk8 at *
          try simp only [Act.put, List.setIfInBounds_toArray, List.set_cons_succ, List.set_cons_zero]
          refine done (by kernel_rfl) (fun xr => ?_)
          have hb := xr.bw
          replace Hc := Lib.hid (Hc.out.bw hb)
          replace Cc := Lib.hid (Cc.out.bw hb)
          replace Xc := Lib.hid (Xc.out.bw hb)
          replace Yc := Lib.hid (Yc.out.bw hb)
          replace G1 := Lib.hid (G1.out.bw hb)
          replace G2 := Lib.hid (G2.out.bw hb)
          replace PV := Lib.hid (PV.out.bw hb)
          replace Bc := Lib.hid (Bc.out.trans hb)
          clear hb
          go_wp2_with fail
          go_meet
          exact ⟨g1, g2, rfl, rfl, G1, G2, Hc, Cc, Xc, Yc, PV, Bc⟩
         ·skip
          go_simp
          refine hK _ _ (Still.of_below ((Below.refl _ _).alloc (Nat.le_refl _) _)) ?_
          clear hK K
          have hb0 := x6.bw
          try have hne := Lib.hid (Nat.ne_of_lt (G1.out.bw hb0).lt)
          have hzG2 := Lib.hid (Nat.le_trans Bc.out.size hb0.size)
          have hb := hb0.trans ((BW.refl x6.now).alloc (o := .cells #[.bool false, .int .u8 0, .int .u16 0, .int .u32 0, .int .u32 0, .slice none 0 0, .bool false, .int .u16 0, .slice none 0 0, .slice none 0 0, .int .u8 0] 36))
          clear hb0
          replace Hc := Lib.hid (Hc.out.bw hb)
          replace Cc := Lib.hid (Cc.out.bw hb)
          replace Xc := Lib.hid (Xc.out.bw hb)
          try replace Yc := Lib.hid (Yc.out.bw hb)
          try replace G1 := Lib.hid (G1.out.bw hb)
          try replace G2 := Lib.hid (G2.out.bw hb)
          try replace V1 := Lib.hid (V1.out.bw hb)
          try replace PV := Lib.hid (PV.out.bw hb)
          replace Bc := Lib.hid (Bc.out.trans hb)
          clear hb
          have G2 := Lib.hid (HpB.new x6.now (.cells #[.bool false, .int .u8 0, .int .u16 0, .int .u32 0, .int .u32 0, .slice none 0 0, .bool false, .int .u16 0, .slice none 0 0, .slice none 0 0, .int .u8 0] 36))
          generalize x6.now.alloc (.cells #[.bool false, .int .u8 0, .int .u16 0, .int .u32 0, .int .u32 0, .slice none 0 0, .bool false, .int .u16 0, .slice none 0 0, .slice none 0 0, .int .u8 0] 36) = wn6 at *
          generalize x6.now.heap.size = g2 at *
          try simp only [Act.put, List.setIfInBounds_toArray, List.set_cons_succ, List.set_cons_zero]
          refine effect 5 rfl (by kernel_rfl) (by kernel_rfl) rfl (fun x5 K hK => ?_)
          go_simp
          refine hK _ _ (Still.of_below ((Below.refl _ _).alloc (Nat.le_refl _) _)) ?_
          clear hK K
          have hb0 := x5.bw
          try have hne := Lib.hid (Nat.ne_of_gt (G2.out.bw hb0).lt)
          have hzG1 := Lib.hid (Nat.le_trans Bc.out.size hb0.size)
          have hb := hb0.trans ((BW.refl x5.now).alloc (o := .cells #[.bool false, .int .u8 0, .int .u16 0, .int .u32 0, .int .u32 0, .slice none 0 0, .bool false, .int .u16 0, .slice none 0 0, .slice none 0 0, .int .u8 0] 36))
          clear hb0
          replace Hc := Lib.hid (Hc.out.bw hb)
          replace Cc := Lib.hid (Cc.out.bw hb)
          replace Xc := Lib.hid (Xc.out.bw hb)
          try replace Yc := Lib.hid (Yc.out.bw hb)
          try replace G1 := Lib.hid (G1.out.bw hb)
          try replace G2 := Lib.hid (G2.out.bw hb)
          try replace V1 := Lib.hid (V1.out.bw hb)
          try replace PV := Lib.hid (PV.out.bw hb)
          replace Bc := Lib.hid (Bc.out.trans hb)
          clear hb
          have G1 := Lib.hid (HpB.new x5.now (.cells #[.bool false, .int .u8 0, .int .u16 0, .int .u32 0, .int .u32 0, .slice none 0 0, .bool false, .int .u16 0, .slice none 0 0, .slice none 0 0, .int .u8 0] 36))
          generalize x5.now.alloc (.cells #[.bool false, .int .u8 0, .int .u16 0, .int .u32 0, .int .u32 0, .slice none 0 0, .bool false, .int .u16 0, .slice none 0 0, .slice none 0 0, .int .u8 0] 36) = wn5 at *
          generalize x5.now.heap.size = g1 at *
          try simp only [Act.put, List.setIfInBounds_toArray, List.set_cons_succ, List.set_cons_zero]
          refine effectL 7 rfl (by kernel_rfl) rfl (by kernel_rfl) rfl (fun x7 K hK => ?_)
          have hb := x7.bw
          replace Hc := Lib.hid (Hc.out.bw hb)
          replace Cc := Lib.hid (Cc.out.bw hb)
          replace Xc := Lib.hid (Xc.out.bw hb)
          try replace Yc := Lib.hid (Yc.out.bw hb)
          try replace G1 := Lib.hid (G1.out.bw hb)
          try replace G2 := Lib.hid (G2.out.bw hb)
          try replace V1 := Lib.hid (V1.out.bw hb)
          try replace PV := Lib.hid (PV.out.bw hb)
          replace Bc := Lib.hid (Bc.out.trans hb)
          clear hb
          have hst9 := still_rowS x7.now g1 (rtC mk ty sy n1 77 (.slice none 0 0) xb pf (.slice se ne ce) (.slice sv nv cv) pd)
          have H9 := Lib.hid (Hc.out.st hst9 (by simpa using (hp_ne Hc.out G1.out (by decide))))
          have C9 := Lib.hid (Cc.out.st hst9 (by simpa using (hp_ne Cc.out G1.out (by decide))))
          have X9 := Lib.hid (Xc.out.st hst9 (by simpa using (hp_ne Xc.out G1.out (by decide))))
          have Y9 := Lib.hid (Yc.out.st hst9 (by simpa using (hp_ne Yc.out G1.out (by decide))))
          have O9 := Lib.hid (G2.out.st hst9 (by simpa using (fun e => hne.out e.symm)))
          have P9 := Lib.hid (PayAt.stN PV.out hst9 (fun k hk => by obtain rfl : k = g1 := (by simpa using hk); exact ⟨hzG1.out, _, _, _, G1.out, by decide⟩))
          have B9 := Lib.hid (BW.stP Bc.out hst9 (fun k hk => by obtain rfl : k = g1 := (by simpa using hk); exact hzG1.out))
          have N9 := Lib.hid (G1.out.rowS (rtC mk ty sy n1 77 (.slice none 0 0) xb pf (.slice se ne ce) (.slice sv nv cv) pd))
          have Gold := G1
          clear hst9 Hc Cc Xc Yc G1 G2 PV Bc
          have Hc := H9
          have Cc := C9
          have Xc := X9
          have Yc := Y9
          have G2 := O9
          have G1 := N9
          have PV := P9
          have Bc := B9
          clear H9 C9 X9 Y9 O9 N9 P9 B9
          refine swStO swRt rfl rfl rfl Gold.out rfl rfl (by kernel_rfl) ?_
          refine hK _ _ ?_
          clear hK K Gold
          generalize x7.now.setRow g1 (rtC mk ty sy n1 77 (.slice none 0 0) xb pf (.slice se ne ce) (.slice sv nv cv) pd) = wk7 at *
          try simp only [Act.put, List.setIfInBounds_toArray, List.set_cons_succ, List.set_cons_zero]
          refine effectL 8 rfl (by kernel_rfl) rfl (by kernel_rfl) rfl (fun x8 K hK => ?_)
          have hb := x8.bw
          replace Hc := Lib.hid (Hc.out.bw hb)
          replace Cc := Lib.hid (Cc.out.bw hb)
          replace Xc := Lib.hid (Xc.out.bw hb)
          try replace Yc := Lib.hid (Yc.out.bw hb)
          try replace G1 := Lib.hid (G1.out.bw hb)
          try replace G2 := Lib.hid (G2.out.bw hb)
          try replace V1 := Lib.hid (V1.out.bw hb)
          try replace PV := Lib.hid (PV.out.bw hb)
          replace Bc := Lib.hid (Bc.out.trans hb)
          clear hb
          have hst9 := still_rowS x8.now g2 (rtC mk ty sq st so (.slice so_ no co) xb pf (.slice se ne ce) (.slice sp np cp) pd)
          have H9 := Lib.hid (Hc.out.st hst9 (by simpa using (hp_ne Hc.out G2.out (by decide))))
          have C9 := Lib.hid (Cc.out.st hst9 (by simpa using (hp_ne Cc.out G2.out (by decide))))
          have X9 := Lib.hid (Xc.out.st hst9 (by simpa using (hp_ne Xc.out G2.out (by decide))))
          have Y9 := Lib.hid (Yc.out.st hst9 (by simpa using (hp_ne Yc.out G2.out (by decide))))
          have O9 := Lib.hid (G1.out.st hst9 (by simpa using (fun e => hne.out e)))
          have P9 := Lib.hid (PayAt.stN PV.out hst9 (fun k hk => by obtain rfl : k = g2 := (by simpa using hk); exact ⟨hzG2.out, _, _, _, G2.out, by decide⟩))
          have B9 := Lib.hid (BW.stP Bc.out hst9 (fun k hk => by obtain rfl : k = g2 := (by simpa using hk); exact hzG2.out))
          have N9 := Lib.hid (G2.out.rowS (rtC mk ty sq st so (.slice so_ no co) xb pf (.slice se ne ce) (.slice sp np cp) pd))
          have Gold := G2
          clear hst9 Hc Cc Xc Yc G1 G2 PV Bc
          have Hc := H9
          have Cc := C9
          have Xc := X9
          have Yc := Y9
          have G1 := O9
          have G2 := N9
          have PV := P9
          have Bc := B9
          clear H9 C9 X9 Y9 O9 N9 P9 B9
          refine swStO swRt rfl rfl rfl Gold.out rfl rfl (by kernel_rfl) ?_
          refine hK _ _ ?_
          clear hK K Gold
          generalize x8.now.setRow g2 (rtC mk ty sq st so (.slice so_ no co) xb pf (.slice se ne ce) (.slice sp np cp) pd) = wk8 at *
          try simp only [Act.put, List.setIfInBounds_toArray, List.set_cons_succ, List.set_cons_zero]
          refine done (by kernel_rfl) (fun xr => ?_)
          have hb := xr.bw
          replace Hc := Lib.hid (Hc.out.bw hb)
          replace Cc := Lib.hid (Cc.out.bw hb)
          replace Xc := Lib.hid (Xc.out.bw hb)
          replace Yc := Lib.hid (Yc.out.bw hb)
          replace G1 := Lib.hid (G1.out.bw hb)
          replace G2 := Lib.hid (G2.out.bw hb)
          replace PV := Lib.hid (PV.out.bw hb)
          replace Bc := Lib.hid (Bc.out.trans hb)
          clear hb
          go_wp2_with fail
          go_meet
          exact ⟨g1, g2, rfl, rfl, G1, G2, Hc, Cc, Xc, Yc, PV, Bc⟩
        ·skip
         go_simp
         refine hK _ _ (Still.of_below ((Below.refl _ _).alloc (Nat.le_refl _) _)) ?_
         clear hK K
         have hb0 := x5.bw
         try have hne := Lib.hid (Nat.ne_of_gt (G2.out.bw hb0).lt)
         have hzG1 := Lib.hid (Nat.le_trans Bc.out.size hb0.size)
         have hb := hb0.trans ((BW.refl x5.now).alloc (o := .cells #[.bool false, .int .u8 0, .int .u16 0, .int .u32 0, .int .u32 0, .slice none 0 0, .bool false, .int .u16 0, .slice none 0 0, .slice none 0 0, .int .u8 0] 36))
         clear hb0
         replace Hc := Lib.hid (Hc.out.bw hb)
         replace Cc := Lib.hid (Cc.out.bw hb)
         replace Xc := Lib.hid (Xc.out.bw hb)
         try replace Yc := Lib.hid (Yc.out.bw hb)
         try replace G1 := Lib.hid (G1.out.bw hb)
         try replace G2 := Lib.hid (G2.out.bw hb)
         try replace V1 := Lib.hid (V1.out.bw hb)
         try replace PV := Lib.hid (PV.out.bw hb)
         replace Bc := Lib.hid (Bc.out.trans hb)
         clear hb
         have G1 := Lib.hid (HpB.new x5.now (.cells #[.bool false, .int .u8 0, .int .u16 0, .int .u32 0, .int .u32 0, .slice none 0 0, .bool false, .int .u16 0, .slice none 0 0, .slice none 0 0, .int .u8 0] 36))
         generalize x5.now.alloc (.cells #[.bool false, .int .u8 0, .int .u16 0, .int .u32 0, .int .u32 0, .slice none 0 0, .bool false, .int .u16 0, .slice none 0 0, .slice none 0 0, .int .u8 0] 36) = wn5 at *
         generalize x5.now.heap.size = g1 at *
         try simp only [Act.put, List.setIfInBounds_toArray, List.set_cons_succ, List.set_cons_zero]
         refine effect2 4 6 rfl rfl (by kernel_rfl) (by kernel_rfl) (by kernel_rfl) rfl rfl (fun x4 K hK => ?_) (fun x6 K hK => ?_)
         ·skip
          have hb := x4.bw
          replace Hc := Lib.hid (Hc.out.bw hb)
          replace Cc := Lib.hid (Cc.out.bw hb)
          replace Xc := Lib.hid (Xc.out.bw hb)
          try replace Yc := Lib.hid (Yc.out.bw hb)
          try replace G1 := Lib.hid (G1.out.bw hb)
          try replace G2 := Lib.hid (G2.out.bw hb)
          try replace V1 := Lib.hid (V1.out.bw hb)
          try replace PV := Lib.hid (PV.out.bw hb)
          replace Bc := Lib.hid (Bc.out.trans hb)
          clear hb
          refine swLdOC swRt rfl rfl (Xc.out.range 4 (rtC mk ty sq st so (.slice so_ no co) xb pf (.slice se ne ce) (.slice sp np cp) pd).toList rfl) rfl ?_
          refine hK _ _ (Still.refl _ _) ?_
          clear hK K
          try simp only [Act.put, List.setIfInBounds_toArray, List.set_cons_succ, List.set_cons_zero]
          refine effect 6 rfl (by kernel_rfl) (by kernel_rfl) rfl (fun x6 K hK => ?_)
          go_simp
          refine hK _ _ (Still.of_below ((Below.refl _ _).alloc (Nat.le_refl _) _)) ?_
          clear hK K
          have hb0 := x6.bw
          try have hne := Lib.hid (Nat.ne_of_lt (G1.out.bw hb0).lt)
          have hzG2 := Lib.hid (Nat.le_trans Bc.out.size hb0.size)
          have hb := hb0.trans ((BW.refl x6.now).alloc (o := .cells #[.bool false, .int .u8 0, .int .u16 0, .int .u32 0, .int .u32 0, .slice none 0 0, .bool false, .int .u16 0, .slice none 0 0, .slice none 0 0, .int .u8 0] 36))
          clear hb0
          replace Hc := Lib.hid (Hc.out.bw hb)
          replace Cc := Lib.hid (Cc.out.bw hb)
          replace Xc := Lib.hid (Xc.out.bw hb)
          try replace Yc := Lib.hid (Yc.out.bw hb)
          try replace G1 := Lib.hid (G1.out.bw hb)
          try replace G2 := Lib.hid (G2.out.bw hb)
          try replace V1 := Lib.hid (V1.out.bw hb)
          try replace PV := Lib.hid (PV.out.bw hb)
          replace Bc := Lib.hid (Bc.out.trans hb)
          clear hb
          have G2 := Lib.hid (HpB.new x6.now (.cells #[.bool false, .int .u8 0, .int .u16 0, .int .u32 0, .int .u32 0, .slice none 0 0, .bool false, .int .u16 0, .slice none 0 0, .slice none 0 0, .int .u8 0] 36))
          generalize x6.now.alloc (.cells #[.bool false, .int .u8 0, .int .u16 0, .int .u32 0, .int .u32 0, .slice none 0 0, .bool false, .int .u16 0, .slice none 0 0, .slice none 0 0, .int .u8 0] 36) = wn6 at *
          generalize x6.now.heap.size = g2 at *
          try simp only [Act.put, List.setIfInBounds_toArray, List.set_cons_succ, List.set_cons_zero]
          refine effectL 7 rfl (by kernel_rfl) rfl (by kernel_rfl) rfl (fun x7 K hK => ?_)
          have hb := x7.bw
          replace Hc := Lib.hid (Hc.out.bw hb)
          replace Cc := Lib.hid (Cc.out.bw hb)
          replace Xc := Lib.hid (Xc.out.bw hb)
          try replace Yc := Lib.hid (Yc.out.bw hb)
          try replace G1 := Lib.hid (G1.out.bw hb)
          try replace G2 := Lib.hid (G2.out.bw hb)
          try replace V1 := Lib.hid (V1.out.bw hb)
          try replace PV := Lib.hid (PV.out.bw hb)
          replace Bc := Lib.hid (Bc.out.trans hb)
          clear hb
          have hst9 := still_rowS x7.now g1 (rtC mk ty sy n1 77 (.slice none 0 0) xb pf (.slice se ne ce) (.slice sv nv cv) pd)
          have H9 := Lib.hid (Hc.out.st hst9 (by simpa using (hp_ne Hc.out G1.out (by decide))))
          have C9 := Lib.hid (Cc.out.st hst9 (by simpa using (hp_ne Cc.out G1.out (by decide))))
          have X9 := Lib.hid (Xc.out.st hst9 (by simpa using (hp_ne Xc.out G1.out (by decide))))
          have Y9 := Lib.hid (Yc.out.st hst9 (by simpa using (hp_ne Yc.out G1.out (by decide))))
          have O9 := Lib.hid (G2.out.st hst9 (by simpa using (fun e => hne.out e.symm)))
          have P9 := Lib.hid (PayAt.stN PV.out hst9 (fun k hk => by obtain rfl : k = g1 := (by simpa using hk); exact ⟨hzG1.out, _, _, _, G1.out, by decide⟩))
          have B9 := Lib.hid (BW.stP Bc.out hst9 (fun k hk => by obtain rfl : k = g1 := (by simpa using hk); exact hzG1.out))
          have N9 := Lib.hid (G1.out.rowS (rtC mk ty sy n1 77 (.slice none 0 0) xb pf (.slice se ne ce) (.slice sv nv cv) pd))
          have Gold := G1
          clear hst9 Hc Cc Xc Yc G1 G2 PV Bc
          have Hc := H9
          have Cc := C9
          have Xc := X9
          have Yc := Y9
          have G2 := O9
          have G1 := N9
          have PV := P9
          have Bc := B9
          clear H9 C9 X9 Y9 O9 N9 P9 B9
          refine swStO swRt rfl rfl rfl Gold.out rfl rfl (by kernel_rfl) ?_
          refine hK _ _ ?_
          clear hK K Gold
          generalize x7.now.setRow g1 (rtC mk ty sy n1 77 (.slice none 0 0) xb pf (.slice se ne ce) (.slice sv nv cv) pd) = wk7 at *
          try simp only [Act.put, List.setIfInBounds_toArray, List.set_cons_succ, List.set_cons_zero]
          refine effectL 8 rfl (by kernel_rfl) rfl (by kernel_rfl) rfl (fun x8 K hK => ?_)
          have hb := x8.bw
          replace Hc := Lib.hid (Hc.out.bw hb)
          replace Cc := Lib.hid (Cc.out.bw hb)
          replace Xc := Lib.hid (Xc.out.bw hb)
          try replace Yc := Lib.hid (Yc.out.bw hb)
          try replace G1 := Lib.hid (G1.out.bw hb)
          try replace G2 := Lib.hid (G2.out.bw hb)
          try replace V1 := Lib.hid (V1.out.bw hb)
          try replace PV := Lib.hid (PV.out.bw hb)
          replace Bc := Lib.hid (Bc.out.trans hb)
          clear hb
          have hst9 := still_rowS x8.now g2 (rtC mk ty sq st so (.slice so_ no co) xb pf (.slice se ne ce) (.slice sp np cp) pd)
          have H9 := Lib.hid (Hc.out.st hst9 (by simpa using (hp_ne Hc.out G2.out (by decide))))
          have C9 := Lib.hid (Cc.out.st hst9 (by simpa using (hp_ne Cc.out G2.out (by decide))))
          have X9 := Lib.hid (Xc.out.st hst9 (by simpa using (hp_ne Xc.out G2.out (by decide))))
          have Y9 := Lib.hid (Yc.out.st hst9 (by simpa using (hp_ne Yc.out G2.out (by decide))))
          have O9 := Lib.hid (G1.out.st hst9 (by simpa using (fun e => hne.out e)))
          have P9 := Lib.hid (PayAt.stN PV.out hst9 (fun k hk => by obtain rfl : k = g2 := (by simpa using hk); exact ⟨hzG2.out, _, _, _, G2.out, by decide⟩))
          have B9 := Lib.hid (BW.stP Bc.out hst9 (fun k hk => by obtain rfl : k = g2 := (by simpa using hk); exact hzG2.out))
          have N9 := Lib.hid (G2.out.rowS (rtC mk ty sq st so (.slice so_ no co) xb pf (.slice se ne ce) (.slice sp np cp) pd))
          have Gold := G2
          clear hst9 Hc Cc Xc Yc G1 G2 PV Bc
          have Hc := H9
          have Cc := C9
          have Xc := X9
          have Yc := Y9
          have G1 := O9
          have G2 := N9
          have PV := P9
          have Bc := B9
          clear H9 C9 X9 Y9 O9 N9 P9 B9
          refine swStO swRt rfl rfl rfl Gold.out rfl rfl (by kernel_rfl) ?_
          refine hK _ _ ?_
          clear hK K Gold
          generalize x8.now.setRow g2 (rtC mk ty sq st so (.slice so_ no co) xb pf (.slice se ne ce) (.slice sp np cp) pd) = wk8 at *
          try simp only [Act.put, List.setIfInBounds_toArray, List.set_cons_succ, List.set_cons_zero]
          refine done (by kernel_rfl) (fun xr => ?_)
          have hb := xr.bw
          replace Hc := Lib.hid (Hc.out.bw hb)
          replace Cc := Lib.hid (Cc.out.bw hb)
          replace Xc := Lib.hid (Xc.out.bw hb)
          replace Yc := Lib.hid (Yc.out.bw hb)
          replace G1 := Lib.hid (G1.out.bw hb)
          replace G2 := Lib.hid (G2.out.bw hb)
          replace PV := Lib.hid (PV.out.bw hb)
          replace Bc := Lib.hid (Bc.out.trans hb)
          clear hb
          go_wp2_with fail
          go_meet
          exact ⟨g1, g2, rfl, rfl, G1, G2, Hc, Cc, Xc, Yc, PV, Bc⟩
         ·skip
          go_simp
          refine hK _ _ (Still.of_below ((Below.refl _ _).alloc (Nat.le_refl _) _)) ?_
          clear hK K
          have hb0 := x6.bw
          try have hne := Lib.hid (Nat.ne_of_lt (G1.out.bw hb0).lt)
          have hzG2 := Lib.hid (Nat.le_trans Bc.out.size hb0.size)
          have hb := hb0.trans ((BW.refl x6.now).alloc (o := .cells #[.bool false, .int .u8 0, .int .u16 0, .int .u32 0, .int .u32 0, .slice none 0 0, .bool false, .int .u16 0, .slice none 0 0, .slice none 0 0, .int .u8 0] 36))
          clear hb0
          replace Hc := Lib.hid (Hc.out.bw hb)
          replace Cc := Lib.hid (Cc.out.bw hb)
          replace Xc := Lib.hid (Xc.out.bw hb)
          try replace Yc := Lib.hid (Yc.out.bw hb)
          try replace G1 := Lib.hid (G1.out.bw hb)
          try replace G2 := Lib.hid (G2.out.bw hb)
          try replace V1 := Lib.hid (V1.out.bw hb)
          try replace PV := Lib.hid (PV.out.bw hb)
          replace Bc := Lib.hid (Bc.out.trans hb)
          clear hb
          have G2 := Lib.hid (HpB.new x6.now (.cells #[.bool false, .int .u8 0, .int .u16 0, .int .u32 0, .int .u32 0, .slice none 0 0, .bool false, .int .u16 0, .slice none 0 0, .slice none 0 0, .int .u8 0] 36))
          generalize x6.now.alloc (.cells #[.bool false, .int .u8 0, .int .u16 0, .int .u32 0, .int .u32 0, .slice none 0 0, .bool false, .int .u16 0, .slice none 0 0, .slice none 0 0, .int .u8 0] 36) = wn6 at *
          generalize x6.now.heap.size = g2 at *
          try simp only [Act.put, List.setIfInBounds_toArray, List.set_cons_succ, List.set_cons_zero]
          refine effectM [4, 7] (by kernel_rfl) (by simp) (by kernel_rfl) (mem2 ⟨_, rfl, rfl, fun x4 K hK => ?_⟩ ⟨_, rfl, rfl, fun x7 K hK => ?_⟩)
          ·skip
           have hb := x4.bw
           replace Hc := Lib.hid (Hc.out.bw hb)
           replace Cc := Lib.hid (Cc.out.bw hb)
           replace Xc := Lib.hid (Xc.out.bw hb)
           try replace Yc := Lib.hid (Yc.out.bw hb)
           try replace G1 := Lib.hid (G1.out.bw hb)
           try replace G2 := Lib.hid (G2.out.bw hb)
           try replace V1 := Lib.hid (V1.out.bw hb)
           try replace PV := Lib.hid (PV.out.bw hb)
           replace Bc := Lib.hid (Bc.out.trans hb)
           clear hb
           refine swLdOC swRt rfl rfl (Xc.out.range 4 (rtC mk ty sq st so (.slice so_ no co) xb pf (.slice se ne ce) (.slice sp np cp) pd).toList rfl) rfl ?_
           refine hK _ _ (Still.refl _ _) ?_
           clear hK K
           try simp only [Act.put, List.setIfInBounds_toArray, List.set_cons_succ, List.set_cons_zero]
           refine effectL 7 rfl (by kernel_rfl) rfl (by kernel_rfl) rfl (fun x7 K hK => ?_)
           have hb := x7.bw
           replace Hc := Lib.hid (Hc.out.bw hb)
           replace Cc := Lib.hid (Cc.out.bw hb)
           replace Xc := Lib.hid (Xc.out.bw hb)
           try replace Yc := Lib.hid (Yc.out.bw hb)
           try replace G1 := Lib.hid (G1.out.bw hb)
           try replace G2 := Lib.hid (G2.out.bw hb)
           try replace V1 := Lib.hid (V1.out.bw hb)
           try replace PV := Lib.hid (PV.out.bw hb)
           replace Bc := Lib.hid (Bc.out.trans hb)
           clear hb
           have hst9 := still_rowS x7.now g1 (rtC mk ty sy n1 77 (.slice none 0 0) xb pf (.slice se ne ce) (.slice sv nv cv) pd)
           have H9 := Lib.hid (Hc.out.st hst9 (by simpa using (hp_ne Hc.out G1.out (by decide))))
           have C9 := Lib.hid (Cc.out.st hst9 (by simpa using (hp_ne Cc.out G1.out (by decide))))
           have X9 := Lib.hid (Xc.out.st hst9 (by simpa using (hp_ne Xc.out G1.out (by decide))))
           have Y9 := Lib.hid (Yc.out.st hst9 (by simpa using (hp_ne Yc.out G1.out (by decide))))
           have O9 := Lib.hid (G2.out.st hst9 (by simpa using (fun e => hne.out e.symm)))
           have P9 := Lib.hid (PayAt.stN PV.out hst9 (fun k hk => by obtain rfl : k = g1 := (by simpa using hk); exact ⟨hzG1.out, _, _, _, G1.out, by decide⟩))
           have B9 := Lib.hid (BW.stP Bc.out hst9 (fun k hk => by obtain rfl : k = g1 := (by simpa using hk); exact hzG1.out))
           have N9 := Lib.hid (G1.out.rowS (rtC mk ty sy n1 77 (.slice none 0 0) xb pf (.slice se ne ce) (.slice sv nv cv) pd))
           have Gold := G1
           clear hst9 Hc Cc Xc Yc G1 G2 PV Bc
           have Hc := H9
           have Cc := C9
           have Xc := X9
           have Yc := Y9
           have G2 := O9
           have G1 := N9
           have PV := P9
           have Bc := B9
           clear H9 C9 X9 Y9 O9 N9 P9 B9
           refine swStO swRt rfl rfl rfl Gold.out rfl rfl (by kernel_rfl) ?_
           refine hK _ _ ?_
           clear hK K Gold
           generalize x7.now.setRow g1 (rtC mk ty sy n1 77 (.slice none 0 0) xb pf (.slice se ne ce) (.slice sv nv cv) pd) = wk7 at *
           try simp only [Act.put, List.setIfInBounds_toArray, List.set_cons_succ, List.set_cons_zero]
           refine effectL 8 rfl (by kernel_rfl) rfl (by kernel_rfl) rfl (fun x8 K hK => ?_)
           have hb := x8.bw
           replace Hc := Lib.hid (Hc.out.bw hb)
           replace Cc := Lib.hid (Cc.out.bw hb)
           replace Xc := Lib.hid (Xc.out.bw hb)
           try replace Yc := Lib.hid (Yc.out.bw hb)
           try replace G1 := Lib.hid (G1.out.bw hb)
           try replace G2 := Lib.hid (G2.out.bw hb)
           try replace V1 := Lib.hid (V1.out.bw hb)
           try replace PV := Lib.hid (PV.out.bw hb)
           replace Bc := Lib.hid (Bc.out.trans hb)
           clear hb
           have hst9 := still_rowS x8.now g2 (rtC mk ty sq st so (.slice so_ no co) xb pf (.slice se ne ce) (.slice sp np cp) pd)
           have H9 := Lib.hid (Hc.out.st hst9 (by simpa using (hp_ne Hc.out G2.out (by decide))))
           have C9 := Lib.hid (Cc.out.st hst9 (by simpa using (hp_ne Cc.out G2.out (by decide))))
           have X9 := Lib.hid (Xc.out.st hst9 (by simpa using (hp_ne Xc.out G2.out (by decide))))
           have Y9 := Lib.hid (Yc.out.st hst9 (by simpa using (hp_ne Yc.out G2.out (by decide))))
           have O9 := Lib.hid (G1.out.st hst9 (by simpa using (fun e => hne.out e)))
           have P9 := Lib.hid (PayAt.stN PV.out hst9 (fun k hk => by obtain rfl : k = g2 := (by simpa using hk); exact ⟨hzG2.out, _, _, _, G2.out, by decide⟩))
           have B9 := Lib.hid (BW.stP Bc.out hst9 (fun k hk => by obtain rfl : k = g2 := (by simpa using hk); exact hzG2.out))
           have N9 := Lib.hid (G2.out.rowS (rtC mk ty sq st so (.slice so_ no co) xb pf (.slice se ne ce) (.slice sp np cp) pd))
           have Gold := G2
           clear hst9 Hc Cc Xc Yc G1 G2 PV Bc
           have Hc := H9
           have Cc := C9
           have Xc := X9
           have Yc := Y9
           have G1 := O9
           have G2 := N9
           have PV := P9
           have Bc := B9
           clear H9 C9 X9 Y9 O9 N9 P9 B9
           refine swStO swRt rfl rfl rfl Gold.out rfl rfl (by kernel_rfl) ?_
           refine hK _ _ ?_
           clear hK K Gold
           generalize x8.now.setRow g2 (rtC mk ty sq st so (.slice so_ no co) xb pf (.slice se ne ce) (.slice sp np cp) pd) = wk8 at *
           try simp only [Act.put, List.setIfInBounds_toArray, List.set_cons_succ, List.set_cons_zero]
           refine done (by kernel_rfl) (fun xr => ?_)
           have hb := xr.bw
           replace Hc := Lib.hid (Hc.out.bw hb)
           replace Cc := Lib.hid (Cc.out.bw hb)
           replace Xc := Lib.hid (Xc.out.bw hb)
           replace Yc := Lib.hid (Yc.out.bw hb)
           replace G1 := Lib.hid (G1.out.bw hb)
           replace G2 := Lib.hid (G2.out.bw hb)
           replace PV := Lib.hid (PV.out.bw hb)
           replace Bc := Lib.hid (Bc.out.trans hb)
           clear hb
           go_wp2_with fail
           go_meet
           exact ⟨g1, g2, rfl, rfl, G1, G2, Hc, Cc, Xc, Yc, PV, Bc⟩
          ·skip
           replace hK := fun a' w' hg => hK a' w' trivial hg
           have hb := x7.bw
           replace Hc := Lib.hid (Hc.out.bw hb)
           replace Cc := Lib.hid (Cc.out.bw hb)
           replace Xc := Lib.hid (Xc.out.bw hb)
           try replace Yc := Lib.hid (Yc.out.bw hb)
           try replace G1 := Lib.hid (G1.out.bw hb)
           try replace G2 := Lib.hid (G2.out.bw hb)
           try replace V1 := Lib.hid (V1.out.bw hb)
           try replace PV := Lib.hid (PV.out.bw hb)
           replace Bc := Lib.hid (Bc.out.trans hb)
           clear hb
           have hst9 := still_rowS x7.now g1 (rtC mk ty sy n1 77 (.slice none 0 0) xb pf (.slice se ne ce) (.slice sv nv cv) pd)
           have H9 := Lib.hid (Hc.out.st hst9 (by simpa using (hp_ne Hc.out G1.out (by decide))))
           have C9 := Lib.hid (Cc.out.st hst9 (by simpa using (hp_ne Cc.out G1.out (by decide))))
           have X9 := Lib.hid (Xc.out.st hst9 (by simpa using (hp_ne Xc.out G1.out (by decide))))
           have Y9 := Lib.hid (Yc.out.st hst9 (by simpa using (hp_ne Yc.out G1.out (by decide))))
           have O9 := Lib.hid (G2.out.st hst9 (by simpa using (fun e => hne.out e.symm)))
           have P9 := Lib.hid (PayAt.stN PV.out hst9 (fun k hk => by obtain rfl : k = g1 := (by simpa using hk); exact ⟨hzG1.out, _, _, _, G1.out, by decide⟩))
           have B9 := Lib.hid (BW.stP Bc.out hst9 (fun k hk => by obtain rfl : k = g1 := (by simpa using hk); exact hzG1.out))
           have N9 := Lib.hid (G1.out.rowS (rtC mk ty sy n1 77 (.slice none 0 0) xb pf (.slice se ne ce) (.slice sv nv cv) pd))
           have Gold := G1
           clear hst9 Hc Cc Xc Yc G1 G2 PV Bc
           have Hc := H9
           have Cc := C9
           have Xc := X9
           have Yc := Y9
           have G2 := O9
           have G1 := N9
           have PV := P9
           have Bc := B9
           clear H9 C9 X9 Y9 O9 N9 P9 B9
           refine swStO swRt rfl rfl rfl Gold.out rfl rfl (by kernel_rfl) ?_
           refine hK _ _ ?_
           clear hK K Gold
           generalize x7.now.setRow g1 (rtC mk ty sy n1 77 (.slice none 0 0) xb pf (.slice se ne ce) (.slice sv nv cv) pd) = wk7 at *
           try simp only [Act.put, List.setIfInBounds_toArray, List.set_cons_succ, List.set_cons_zero]
           refine effect 4 rfl (by kernel_rfl) (by kernel_rfl) rfl (fun x4 K hK => ?_)
           have hb := x4.bw
           replace Hc := Lib.hid (Hc.out.bw hb)
           replace Cc := Lib.hid (Cc.out.bw hb)
           replace Xc := Lib.hid (Xc.out.bw hb)
           try replace Yc := Lib.hid (Yc.out.bw hb)
           try replace G1 := Lib.hid (G1.out.bw hb)
           try replace G2 := Lib.hid (G2.out.bw hb)
           try replace V1 := Lib.hid (V1.out.bw hb)
           try replace PV := Lib.hid (PV.out.bw hb)
           replace Bc := Lib.hid (Bc.out.trans hb)
           clear hb
           refine swLdOC swRt rfl rfl (Xc.out.range 4 (rtC mk ty sq st so (.slice so_ no co) xb pf (.slice se ne ce) (.slice sp np cp) pd).toList rfl) rfl ?_
           refine hK _ _ (Still.refl _ _) ?_
           clear hK K
           try simp only [Act.put, List.setIfInBounds_toArray, List.set_cons_succ, List.set_cons_zero]
           refine effectL 8 rfl (by kernel_rfl) rfl (by kernel_rfl) rfl (fun x8 K hK => ?_)
           have hb := x8.bw
           replace Hc := Lib.hid (Hc.out.bw hb)
           replace Cc := Lib.hid (Cc.out.bw hb)
           replace Xc := Lib.hid (Xc.out.bw hb)
           try replace Yc := Lib.hid (Yc.out.bw hb)
           try replace G1 := Lib.hid (G1.out.bw hb)
           try replace G2 := Lib.hid (G2.out.bw hb)
           try replace V1 := Lib.hid (V1.out.bw hb)
           try replace PV := Lib.hid (PV.out.bw hb)
           replace Bc := Lib.hid (Bc.out.trans hb)
           clear hb
           have hst9 := still_rowS x8.now g2 (rtC mk ty sq st so (.slice so_ no co) xb pf (.slice se ne ce) (.slice sp np cp) pd)
           have H9 := Lib.hid (Hc.out.st hst9 (by simpa using (hp_ne Hc.out G2.out (by decide))))
           have C9 := Lib.hid (Cc.out.st hst9 (by simpa using (hp_ne Cc.out G2.out (by decide))))
           have X9 := Lib.hid (Xc.out.st hst9 (by simpa using (hp_ne Xc.out G2.out (by decide))))
           have Y9 := Lib.hid (Yc.out.st hst9 (by simpa using (hp_ne Yc.out G2.out (by decide))))
           have O9 := Lib.hid (G1.out.st hst9 (by simpa using (fun e => hne.out e)))
           have P9 := Lib.hid (PayAt.stN PV.out hst9 (fun k hk => by obtain rfl : k = g2 := (by simpa using hk); exact ⟨hzG2.out, _, _, _, G2.out, by decide⟩))
           have B9 := Lib.hid (BW.stP Bc.out hst9 (fun k hk => by obtain rfl : k = g2 := (by simpa using hk); exact hzG2.out))
           have N9 := Lib.hid (G2.out.rowS (rtC mk ty sq st so (.slice so_ no co) xb pf (.slice se ne ce) (.slice sp np cp) pd))
           have Gold := G2
           clear hst9 Hc Cc Xc Yc G1 G2 PV Bc
           have Hc := H9
           have Cc := C9
           have Xc := X9
           have Yc := Y9
           have G1 := O9
           have G2 := N9
           have PV := P9
           have Bc := B9
           clear H9 C9 X9 Y9 O9 N9 P9 B9
           refine swStO swRt rfl rfl rfl Gold.out rfl rfl (by kernel_rfl) ?_
           refine hK _ _ ?_
           clear hK K Gold
           generalize x8.now.setRow g2 (rtC mk ty sq st so (.slice so_ no co) xb pf (.slice se ne ce) (.slice sp np cp) pd) = wk8 at *
           try simp only [Act.put, List.setIfInBounds_toArray, List.set_cons_succ, List.set_cons_zero]
           refine done (by kernel_rfl) (fun xr => ?_)
           have hb := xr.bw
           replace Hc := Lib.hid (Hc.out.bw hb)
           replace Cc := Lib.hid (Cc.out.bw hb)
           replace Xc := Lib.hid (Xc.out.bw hb)
           replace Yc := Lib.hid (Yc.out.bw hb)
           replace G1 := Lib.hid (G1.out.bw hb)
           replace G2 := Lib.hid (G2.out.bw hb)
           replace PV := Lib.hid (PV.out.bw hb)
           replace Bc := Lib.hid (Bc.out.trans hb)
           clear hb
           go_wp2_with fail
           go_meet
           exact ⟨g1, g2, rfl, rfl, G1, G2, Hc, Cc, Xc, Yc, PV, Bc⟩
        ·skip
         go_simp
         refine hK _ _ (Still.of_below ((Below.refl _ _).alloc (Nat.le_refl _) _)) ?_
         clear hK K
         have hb0 := x6.bw
         try have hne := Lib.hid (Nat.ne_of_lt (G1.out.bw hb0).lt)
         have hzG2 := Lib.hid (Nat.le_trans Bc.out.size hb0.size)
         have hb := hb0.trans ((BW.refl x6.now).alloc (o := .cells #[.bool false, .int .u8 0, .int .u16 0, .int .u32 0, .int .u32 0, .slice none 0 0, .bool false, .int .u16 0, .slice none 0 0, .slice none 0 0, .int .u8 0] 36))
         clear hb0
         replace Hc := Lib.hid (Hc.out.bw hb)
         replace Cc := Lib.hid (Cc.out.bw hb)
         replace Xc := Lib.hid (Xc.out.bw hb)
         try replace Yc := Lib.hid (Yc.out.bw hb)
         try replace G1 := Lib.hid (G1.out.bw hb)
         try replace G2 := Lib.hid (G2.out.bw hb)
         try replace V1 := Lib.hid (V1.out.bw hb)
         try replace PV := Lib.hid (PV.out.bw hb)
         replace Bc := Lib.hid (Bc.out.trans hb)
         clear hb
         have G2 := Lib.hid (HpB.new x6.now (.cells #[.bool false, .int .u8 0, .int .u16 0, .int .u32 0, .int .u32 0, .slice none 0 0, .bool false, .int .u16 0, .slice none 0 0, .slice none 0 0, .int .u8 0] 36))
         generalize x6.now.alloc (.cells #[.bool false, .int .u8 0, .int .u16 0, .int .u32 0, .int .u32 0, .slice none 0 0, .bool false, .int .u16 0, .slice none 0 0, .slice none 0 0, .int .u8 0] 36) = wn6 at *
         generalize x6.now.heap.size = g2 at *
         try simp only [Act.put, List.setIfInBounds_toArray, List.set_cons_succ, List.set_cons_zero]
         refine effect2 4 5 rfl rfl (by kernel_rfl) (by kernel_rfl) (by kernel_rfl) rfl rfl (fun x4 K hK => ?_) (fun x5 K hK => ?_)
         ·skip
          have hb := x4.bw
          replace Hc := Lib.hid (Hc.out.bw hb)
          replace Cc := Lib.hid (Cc.out.bw hb)
          replace Xc := Lib.hid (Xc.out.bw hb)
          try replace Yc := Lib.hid (Yc.out.bw hb)
          try replace G1 := Lib.hid (G1.out.bw hb)
          try replace G2 := Lib.hid (G2.out.bw hb)
          try replace V1 := Lib.hid (V1.out.bw hb)
          try replace PV := Lib.hid (PV.out.bw hb)
          replace Bc := Lib.hid (Bc.out.trans hb)
          clear hb
          refine swLdOC swRt rfl rfl (Xc.out.range 4 (rtC mk ty sq st so (.slice so_ no co) xb pf (.slice se ne ce) (.slice sp np cp) pd).toList rfl) rfl ?_
          refine hK _ _ (Still.refl _ _) ?_
          clear hK K
          try simp only [Act.put, List.setIfInBounds_toArray, List.set_cons_succ, List.set_cons_zero]
          refine effect 5 rfl (by kernel_rfl) (by kernel_rfl) rfl (fun x5 K hK => ?_)
          go_simp
          refine hK _ _ (Still.of_below ((Below.refl _ _).alloc (Nat.le_refl _) _)) ?_
          clear hK K
          have hb0 := x5.bw
          try have hne := Lib.hid (Nat.ne_of_gt (G2.out.bw hb0).lt)
          have hzG1 := Lib.hid (Nat.le_trans Bc.out.size hb0.size)
          have hb := hb0.trans ((BW.refl x5.now).alloc (o := .cells #[.bool false, .int .u8 0, .int .u16 0, .int .u32 0, .int .u32 0, .slice none 0 0, .bool false, .int .u16 0, .slice none 0 0, .slice none 0 0, .int .u8 0] 36))
          clear hb0
          replace Hc := Lib.hid (Hc.out.bw hb)
          replace Cc := Lib.hid (Cc.out.bw hb)
          replace Xc := Lib.hid (Xc.out.bw hb)
          try replace Yc := Lib.hid (Yc.out.bw hb)
          try replace G1 := Lib.hid (G1.out.bw hb)
          try replace G2 := Lib.hid (G2.out.bw hb)
          try replace V1 := Lib.hid (V1.out.bw hb)
          try replace PV := Lib.hid (PV.out.bw hb)
          replace Bc := Lib.hid (Bc.out.trans hb)
          clear hb
          have G1 := Lib.hid (HpB.new x5.now (.cells #[.bool false, .int .u8 0, .int .u16 0, .int .u32 0, .int .u32 0, .slice none 0 0, .bool false, .int .u16 0, .slice none 0 0, .slice none 0 0, .int .u8 0] 36))
          generalize x5.now.alloc (.cells #[.bool false, .int .u8 0, .int .u16 0, .int .u32 0, .int .u32 0, .slice none 0 0, .bool false, .int .u16 0, .slice none 0 0, .slice none 0 0, .int .u8 0] 36) = wn5 at *
          generalize x5.now.heap.size = g1 at *
          try simp only [Act.put, List.setIfInBounds_toArray, List.set_cons_succ, List.set_cons_zero]
          refine effectL 7 rfl (by kernel_rfl) rfl (by kernel_rfl) rfl (fun x7 K hK => ?_)
          have hb := x7.bw
          replace Hc := Lib.hid (Hc.out.bw hb)
          replace Cc := Lib.hid (Cc.out.bw hb)
          replace Xc := Lib.hid (Xc.out.bw hb)
          try replace Yc := Lib.hid (Yc.out.bw hb)
          try replace G1 := Lib.hid (G1.out.bw hb)
          try replace G2 := Lib.hid (G2.out.bw hb)
          try replace V1 := Lib.hid (V1.out.bw hb)
          try replace PV := Lib.hid (PV.out.bw hb)
          replace Bc := Lib.hid (Bc.out.trans hb)
          clear hb
          have hst9 := still_rowS x7.now g1 (rtC mk ty sy n1 77 (.slice none 0 0) xb pf (.slice se ne ce) (.slice sv nv cv) pd)
          have H9 := Lib.hid (Hc.out.st hst9 (by simpa using (hp_ne Hc.out G1.out (by decide))))
          have C9 := Lib.hid (Cc.out.st hst9 (by simpa using (hp_ne Cc.out G1.out (by decide))))
          have X9 := Lib.hid (Xc.out.st hst9 (by simpa using (hp_ne Xc.out G1.out (by decide))))
          have Y9 := Lib.hid (Yc.out.st hst9 (by simpa using (hp_ne Yc.out G1.out (by decide))))
          have O9 := Lib.hid (G2.out.st hst9 (by simpa using (fun e => hne.out e.symm)))
          have P9 := Lib.hid (PayAt.stN PV.out hst9 (fun k hk => by obtain rfl : k = g1 := (by simpa using hk); exact ⟨hzG1.out, _, _, _, G1.out, by decide⟩))
          have B9 := Lib.hid (BW.stP Bc.out hst9 (fun k hk => by obtain rfl : k = g1 := (by simpa using hk); exact hzG1.out))
          have N9 := Lib.hid (G1.out.rowS (rtC mk ty sy n1 77 (.slice none 0 0) xb pf (.slice se ne ce) (.slice sv nv cv) pd))
          have Gold := G1
          clear hst9 Hc Cc Xc Yc G1 G2 PV Bc
          have Hc := H9
          have Cc := C9
          have Xc := X9
          have Yc := Y9
          have G2 := O9
          have G1 := N9
          have PV := P9
          have Bc := B9
          clear H9 C9 X9 Y9 O9 N9 P9 B9
          refine swStO swRt rfl rfl rfl Gold.out rfl rfl (by kernel_rfl) ?_
          refine hK _ _ ?_
          clear hK K Gold
          generalize x7.now.setRow g1 (rtC mk ty sy n1 77 (.slice none 0 0) xb pf (.slice se ne ce) (.slice sv nv cv) pd) = wk7 at *
          try simp only [Act.put, List.setIfInBounds_toArray, List.set_cons_succ, List.set_cons_zero]
          refine effectL 8 rfl (by kernel_rfl) rfl (by kernel_rfl) rfl (fun x8 K hK => ?_)
          have hb := x8.bw
          replace Hc := Lib.hid (Hc.out.bw hb)
          replace Cc := Lib.hid (Cc.out.bw hb)
          replace Xc := Lib.hid (Xc.out.bw hb)
          try replace Yc := Lib.hid (Yc.out.bw hb)
          try replace G1 := Lib.hid (G1.out.bw hb)
          try replace G2 := Lib.hid (G2.out.bw hb)
          try replace V1 := Lib.hid (V1.out.bw hb)
          try replace PV := Lib.hid (PV.out.bw hb)
          replace Bc := Lib.hid (Bc.out.trans hb)
          clear hb
          have hst9 := still_rowS x8.now g2 (rtC mk ty sq st so (.slice so_ no co) xb pf (.slice se ne ce) (.slice sp np cp) pd)
          have H9 := Lib.hid (Hc.out.st hst9 (by simpa using (hp_ne Hc.out G2.out (by decide))))
          have C9 := Lib.hid (Cc.out.st hst9 (by simpa using (hp_ne Cc.out G2.out (by decide))))
          have X9 := Lib.hid (Xc.out.st hst9 (by simpa using (hp_ne Xc.out G2.out (by decide))))
          have Y9 := Lib.hid (Yc.out.st hst9 (by simpa using (hp_ne Yc.out G2.out (by decide))))
          have O9 := Lib.hid (G1.out.st hst9 (by simpa using (fun e => hne.out e)))
          have P9 := Lib.hid (PayAt.stN PV.out hst9 (fun k hk => by obtain rfl : k = g2 := (by simpa using hk); exact ⟨hzG2.out, _, _, _, G2.out, by decide⟩))
          have B9 := Lib.hid (BW.stP Bc.out hst9 (fun k hk => by obtain rfl : k = g2 := (by simpa using hk); exact hzG2.out))
          have N9 := Lib.hid (G2.out.rowS (rtC mk ty sq st so (.slice so_ no co) xb pf (.slice se ne ce) (.slice sp np cp) pd))
          have Gold := G2
          clear hst9 Hc Cc Xc Yc G1 G2 PV Bc
          have Hc := H9
          have Cc := C9
          have Xc := X9
          have Yc := Y9
          have G1 := O9
          have G2 := N9
          have PV := P9
          have Bc := B9
          clear H9 C9 X9 Y9 O9 N9 P9 B9
          refine swStO swRt rfl rfl rfl Gold.out rfl rfl (by kernel_rfl) ?_
          refine hK _ _ ?_
          clear hK K Gold
          generalize x8.now.setRow g2 (rtC mk ty sq st so (.slice so_ no co) xb pf (.slice se ne ce) (.slice sp np cp) pd) = wk8 at *
          try simp only [Act.put, List.setIfInBounds_toArray, List.set_cons_succ, List.set_cons_zero]
          refine done (by kernel_rfl) (fun xr => ?_)
          have hb := xr.bw
          replace Hc := Lib.hid (Hc.out.bw hb)
          replace Cc := Lib.hid (Cc.out.bw hb)
          replace Xc := Lib.hid (Xc.out.bw hb)
          replace Yc := Lib.hid (Yc.out.bw hb)
          replace G1 := Lib.hid (G1.out.bw hb)
          replace G2 := Lib.hid (G2.out.bw hb)
          replace PV := Lib.hid (PV.out.bw hb)
          replace Bc := Lib.hid (Bc.out.trans hb)
          clear hb
          go_wp2_with fail
          go_meet
          exact ⟨g1, g2, rfl, rfl, G1, G2, Hc, Cc, Xc, Yc, PV, Bc⟩
         ·skip
          go_simp
          refine hK _ _ (Still.of_below ((Below.refl _ _).alloc (Nat.le_refl _) _)) ?_
          clear hK K
          have hb0 := x5.bw
          try have hne := Lib.hid (Nat.ne_of_gt (G2.out.bw hb0).lt)
          have hzG1 := Lib.hid (Nat.le_trans Bc.out.size hb0.size)
          have hb := hb0.trans ((BW.refl x5.now).alloc (o := .cells #[.bool false, .int .u8 0, .int .u16 0, .int .u32 0, .int .u32 0, .slice none 0 0, .bool false, .int .u16 0, .slice none 0 0, .slice none 0 0, .int .u8 0] 36))
          clear hb0
          replace Hc := Lib.hid (Hc.out.bw hb)
          replace Cc := Lib.hid (Cc.out.bw hb)
          replace Xc := Lib.hid (Xc.out.bw hb)
          try replace Yc := Lib.hid (Yc.out.bw hb)
          try replace G1 := Lib.hid (G1.out.bw hb)
          try replace G2 := Lib.hid (G2.out.bw hb)
          try replace V1 := Lib.hid (V1.out.bw hb)
          try replace PV := Lib.hid (PV.out.bw hb)
          replace Bc := Lib.hid (Bc.out.trans hb)
          clear hb
          have G1 := Lib.hid (HpB.new x5.now (.cells #[.bool false, .int .u8 0, .int .u16 0, .int .u32 0, .int .u32 0, .slice none 0 0, .bool false, .int .u16 0, .slice none 0 0, .slice none 0 0, .int .u8 0] 36))
          generalize x5.now.alloc (.cells #[.bool false, .int .u8 0, .int .u16 0, .int .u32 0, .int .u32 0, .slice none 0 0, .bool false, .int .u16 0, .slice none 0 0, .slice none 0 0, .int .u8 0] 36) = wn5 at *
          generalize x5.now.heap.size = g1 at *
          try simp only [Act.put, List.setIfInBounds_toArray, List.set_cons_succ, List.set_cons_zero]
          refine effectM [4, 7] (by kernel_rfl) (by simp) (by kernel_rfl) (mem2 ⟨_, rfl, rfl, fun x4 K hK => ?_⟩ ⟨_, rfl, rfl, fun x7 K hK => ?_⟩)
          ·skip
           have hb := x4.bw
           replace Hc := Lib.hid (Hc.out.bw hb)
           replace Cc := Lib.hid (Cc.out.bw hb)
           replace Xc := Lib.hid (Xc.out.bw hb)
           try replace Yc := Lib.hid (Yc.out.bw hb)
           try replace G1 := Lib.hid (G1.out.bw hb)
           try replace G2 := Lib.hid (G2.out.bw hb)
           try replace V1 := Lib.hid (V1.out.bw hb)
           try replace PV := Lib.hid (PV.out.bw hb)
           replace Bc := Lib.hid (Bc.out.trans hb)
           clear hb
           refine swLdOC swRt rfl rfl (Xc.out.range 4 (rtC mk ty sq st so (.slice so_ no co) xb pf (.slice se ne ce) (.slice sp np cp) pd).toList rfl) rfl ?_
           refine hK _ _ (Still.refl _ _) ?_
           clear hK K
           try simp only [Act.put, List.setIfInBounds_toArray, List.set_cons_succ, List.set_cons_zero]
           refine effectL 7 rfl (by kernel_rfl) rfl (by kernel_rfl) rfl (fun x7 K hK => ?_)
           have hb := x7.bw
           replace Hc := Lib.hid (Hc.out.bw hb)
           replace Cc := Lib.hid (Cc.out.bw hb)
           replace Xc := Lib.hid (Xc.out.bw hb)
           try replace Yc := Lib.hid (Yc.out.bw hb)
           try replace G1 := Lib.hid (G1.out.bw hb)
           try replace G2 := Lib.hid (G2.out.bw hb)
           try replace V1 := Lib.hid (V1.out.bw hb)
           try replace PV := Lib.hid (PV.out.bw hb)
           replace Bc := Lib.hid (Bc.out.trans hb)
           clear hb
           have hst9 := still_rowS x7.now g1 (rtC mk ty sy n1 77 (.slice none 0 0) xb pf (.slice se ne ce) (.slice sv nv cv) pd)
           have H9 := Lib.hid (Hc.out.st hst9 (by simpa using (hp_ne Hc.out G1.out (by decide))))
           have C9 := Lib.hid (Cc.out.st hst9 (by simpa using (hp_ne Cc.out G1.out (by decide))))
           have X9 := Lib.hid (Xc.out.st hst9 (by simpa using (hp_ne Xc.out G1.out (by decide))))
           have Y9 := Lib.hid (Yc.out.st hst9 (by simpa using (hp_ne Yc.out G1.out (by decide))))
           have O9 := Lib.hid (G2.out.st hst9 (by simpa using (fun e => hne.out e.symm)))
           have P9 := Lib.hid (PayAt.stN PV.out hst9 (fun k hk => by obtain rfl : k = g1 := (by simpa using hk); exact ⟨hzG1.out, _, _, _, G1.out, by decide⟩))
           have B9 := Lib.hid (BW.stP Bc.out hst9 (fun k hk => by obtain rfl : k = g1 := (by simpa using hk); exact hzG1.out))
           have N9 := Lib.hid (G1.out.rowS (rtC mk ty sy n1 77 (.slice none 0 0) xb pf (.slice se ne ce) (.slice sv nv cv) pd))
           have Gold := G1
           clear hst9 Hc Cc Xc Yc G1 G2 PV Bc
           have Hc := H9
           have Cc := C9
           have Xc := X9
           have Yc := Y9
           have G2 := O9
           have G1 := N9
           have PV := P9
           have Bc := B9
           clear H9 C9 X9 Y9 O9 N9 P9 B9
           refine swStO swRt rfl rfl rfl Gold.out rfl rfl (by kernel_rfl) ?_
           refine hK _ _ ?_
           clear hK K Gold
           generalize x7.now.setRow g1 (rtC mk ty sy n1 77 (.slice none 0 0) xb pf (.slice se ne ce) (.slice sv nv cv) pd) = wk7 at *
           try simp only [Act.put, List.setIfInBounds_toArray, List.set_cons_succ, List.set_cons_zero]
           refine effectL 8 rfl (by kernel_rfl) rfl (by kernel_rfl) rfl (fun x8 K hK => ?_)
           have hb := x8.bw
           replace Hc := Lib.hid (Hc.out.bw hb)
           replace Cc := Lib.hid (Cc.out.bw hb)
           replace Xc := Lib.hid (Xc.out.bw hb)
           try replace Yc := Lib.hid (Yc.out.bw hb)
           try replace G1 := Lib.hid (G1.out.bw hb)
           try replace G2 := Lib.hid (G2.out.bw hb)
           try replace V1 := Lib.hid (V1.out.bw hb)
           try replace PV := Lib.hid (PV.out.bw hb)
           replace Bc := Lib.hid (Bc.out.trans hb)
           clear hb
           have hst9 := still_rowS x8.now g2 (rtC mk ty sq st so (.slice so_ no co) xb pf (.slice se ne ce) (.slice sp np cp) pd)
           have H9 := Lib.hid (Hc.out.st hst9 (by simpa using (hp_ne Hc.out G2.out (by decide))))
           have C9 := Lib.hid (Cc.out.st hst9 (by simpa using (hp_ne Cc.out G2.out (by decide))))
           have X9 := Lib.hid (Xc.out.st hst9 (by simpa using (hp_ne Xc.out G2.out (by decide))))
           have Y9 := Lib.hid (Yc.out.st hst9 (by simpa using (hp_ne Yc.out G2.out (by decide))))
           have O9 := Lib.hid (G1.out.st hst9 (by simpa using (fun e => hne.out e)))
           have P9 := Lib.hid (PayAt.stN PV.out hst9 (fun k hk => by obtain rfl : k = g2 := (by simpa using hk); exact ⟨hzG2.out, _, _, _, G2.out, by decide⟩))
           have B9 := Lib.hid (BW.stP Bc.out hst9 (fun k hk => by obtain rfl : k = g2 := (by simpa using hk); exact hzG2.out))
           have N9 := Lib.hid (G2.out.rowS (rtC mk ty sq st so (.slice so_ no co) xb pf (.slice se ne ce) (.slice sp np cp) pd))
           have Gold := G2
           clear hst9 Hc Cc Xc Yc G1 G2 PV Bc
           have Hc := H9
           have Cc := C9
           have Xc := X9
           have Yc := Y9
           have G1 := O9
           have G2 := N9
           have PV := P9
           have Bc := B9
           clear H9 C9 X9 Y9 O9 N9 P9 B9
           refine swStO swRt rfl rfl rfl Gold.out rfl rfl (by kernel_rfl) ?_
           refine hK _ _ ?_
           clear hK K Gold
           generalize x8.now.setRow g2 (rtC mk ty sq st so (.slice so_ no co) xb pf (.slice se ne ce) (.slice sp np cp) pd) = wk8 at *
           try simp only [Act.put, List.setIfInBounds_toArray, List.set_cons_succ, List.set_cons_zero]
           refine done (by kernel_rfl) (fun xr => ?_)
           have hb := xr.bw
           replace Hc := Lib.hid (Hc.out.bw hb)
           replace Cc := Lib.hid (Cc.out.bw hb)
           replace Xc := Lib.hid (Xc.out.bw hb)
           replace Yc := Lib.hid (Yc.out.bw hb)
           replace G1 := Lib.hid (G1.out.bw hb)
           replace G2 := Lib.hid (G2.out.bw hb)
           replace PV := Lib.hid (PV.out.bw hb)
           replace Bc := Lib.hid (Bc.out.trans hb)
           clear hb
           go_wp2_with fail
           go_meet
           exact ⟨g1, g2, rfl, rfl, G1, G2, Hc, Cc, Xc, Yc, PV, Bc⟩
          ·skip
           replace hK := fun a' w' hg => hK a' w' trivial hg
           have hb := x7.bw
           replace Hc := Lib.hid (Hc.out.bw hb)
           replace Cc := Lib.hid (Cc.out.bw hb)
           replace Xc := Lib.hid (Xc.out.bw hb)
           try replace Yc := Lib.hid (Yc.out.bw hb)
           try replace G1 := Lib.hid (G1.out.bw hb)
           try replace G2 := Lib.hid (G2.out.bw hb)
           try replace V1 := Lib.hid (V1.out.bw hb)
           try replace PV := Lib.hid (PV.out.bw hb)
           replace Bc := Lib.hid (Bc.out.trans hb)
           clear hb
           have hst9 := still_rowS x7.now g1 (rtC mk ty sy n1 77 (.slice none 0 0) xb pf (.slice se ne ce) (.slice sv nv cv) pd)
           have H9 := Lib.hid (Hc.out.st hst9 (by simpa using (hp_ne Hc.out G1.out (by decide))))
           have C9 := Lib.hid (Cc.out.st hst9 (by simpa using (hp_ne Cc.out G1.out (by decide))))
           have X9 := Lib.hid (Xc.out.st hst9 (by simpa using (hp_ne Xc.out G1.out (by decide))))
           have Y9 := Lib.hid (Yc.out.st hst9 (by simpa using (hp_ne Yc.out G1.out (by decide))))
           have O9 := Lib.hid (G2.out.st hst9 (by simpa using (fun e => hne.out e.symm)))
           have P9 := Lib.hid (PayAt.stN PV.out hst9 (fun k hk => by obtain rfl : k = g1 := (by simpa using hk); exact ⟨hzG1.out, _, _, _, G1.out, by decide⟩))
           have B9 := Lib.hid (BW.stP Bc.out hst9 (fun k hk => by obtain rfl : k = g1 := (by simpa using hk); exact hzG1.out))
           have N9 := Lib.hid (G1.out.rowS (rtC mk ty sy n1 77 (.slice none 0 0) xb pf (.slice se ne ce) (.slice sv nv cv) pd))
           have Gold := G1
           clear hst9 Hc Cc Xc Yc G1 G2 PV Bc
           have Hc := H9
           have Cc := C9
           have Xc := X9
           have Yc := Y9
           have G2 := O9
           have G1 := N9
           have PV := P9
           have Bc := B9
           clear H9 C9 X9 Y9 O9 N9 P9 B9
           refine swStO swRt rfl rfl rfl Gold.out rfl rfl (by kernel_rfl) ?_
           refine hK _ _ ?_
           clear hK K Gold
           generalize x7.now.setRow g1 (rtC mk ty sy n1 77 (.slice none 0 0) xb pf (.slice se ne ce) (.slice sv nv cv) pd) = wk7 at *
           try simp only [Act.put, List.setIfInBounds_toArray, List.set_cons_succ, List.set_cons_zero]
           refine effect 4 rfl (by kernel_rfl) (by kernel_rfl) rfl (fun x4 K hK => ?_)
           have hb := x4.bw
           replace Hc := Lib.hid (Hc.out.bw hb)
           replace Cc := Lib.hid (Cc.out.bw hb)
           replace Xc := Lib.hid (Xc.out.bw hb)
           try replace Yc := Lib.hid (Yc.out.bw hb)
           try replace G1 := Lib.hid (G1.out.bw hb)
           try replace G2 := Lib.hid (G2.out.bw hb)
           try replace V1 := Lib.hid (V1.out.bw hb)
           try replace PV := Lib.hid (PV.out.bw hb)
           replace Bc := Lib.hid (Bc.out.trans hb)
           clear hb
           refine swLdOC swRt rfl rfl (Xc.out.range 4 (rtC mk ty sq st so (.slice so_ no co) xb pf (.slice se ne ce) (.slice sp np cp) pd).toList rfl) rfl ?_
           refine hK _ _ (Still.refl _ _) ?_
           clear hK K
           try simp only [Act.put, List.setIfInBounds_toArray, List.set_cons_succ, List.set_cons_zero]
           refine effectL 8 rfl (by kernel_rfl) rfl (by kernel_rfl) rfl (fun x8 K hK => ?_)
           have hb := x8.bw
           replace Hc := Lib.hid (Hc.out.bw hb)
           replace Cc := Lib.hid (Cc.out.bw hb)
           replace Xc := Lib.hid (Xc.out.bw hb)
           try replace Yc := Lib.hid (Yc.out.bw hb)
           try replace G1 := Lib.hid (G1.out.bw hb)
           try replace G2 := Lib.hid (G2.out.bw hb)
           try replace V1 := Lib.hid (V1.out.bw hb)
           try replace PV := Lib.hid (PV.out.bw hb)
           replace Bc := Lib.hid (Bc.out.trans hb)
           clear hb
           have hst9 := still_rowS x8.now g2 (rtC mk ty sq st so (.slice so_ no co) xb pf (.slice se ne ce) (.slice sp np cp) pd)
           have H9 := Lib.hid (Hc.out.st hst9 (by simpa using (hp_ne Hc.out G2.out (by decide))))
           have C9 := Lib.hid (Cc.out.st hst9 (by simpa using (hp_ne Cc.out G2.out (by decide))))
           have X9 := Lib.hid (Xc.out.st hst9 (by simpa using (hp_ne Xc.out G2.out (by decide))))
           have Y9 := Lib.hid (Yc.out.st hst9 (by simpa using (hp_ne Yc.out G2.out (by decide))))
           have O9 := Lib.hid (G1.out.st hst9 (by simpa using (fun e => hne.out e)))
           have P9 := Lib.hid (PayAt.stN PV.out hst9 (fun k hk => by obtain rfl : k = g2 := (by simpa using hk); exact ⟨hzG2.out, _, _, _, G2.out, by decide⟩))
           have B9 := Lib.hid (BW.stP Bc.out hst9 (fun k hk => by obtain rfl : k = g2 := (by simpa using hk); exact hzG2.out))
           have N9 := Lib.hid (G2.out.rowS (rtC mk ty sq st so (.slice so_ no co) xb pf (.slice se ne ce) (.slice sp np cp) pd))
           have Gold := G2
           clear hst9 Hc Cc Xc Yc G1 G2 PV Bc
           have Hc := H9
           have Cc := C9
           have Xc := X9
           have Yc := Y9
           have G1 := O9
           have G2 := N9
           have PV := P9
           have Bc := B9
           clear H9 C9 X9 Y9 O9 N9 P9 B9
           refine swStO swRt rfl rfl rfl Gold.out rfl rfl (by kernel_rfl) ?_
           refine hK _ _ ?_
           clear hK K Gold
           generalize x8.now.setRow g2 (rtC mk ty sq st so (.slice so_ no co) xb pf (.slice se ne ce) (.slice sp np cp) pd) = wk8 at *
           try simp only [Act.put, List.setIfInBounds_toArray, List.set_cons_succ, List.set_cons_zero]
           refine done (by kernel_rfl) (fun xr => ?_)
           have hb := xr.bw
           replace Hc := Lib.hid (Hc.out.bw hb)
           replace Cc := Lib.hid (Cc.out.bw hb)
           replace Xc := Lib.hid (Xc.out.bw hb)
           replace Yc := Lib.hid (Yc.out.bw hb)
           replace G1 := Lib.hid (G1.out.bw hb)
           replace G2 := Lib.hid (G2.out.bw hb)
           replace PV := Lib.hid (PV.out.bw hb)
           replace Bc := Lib.hid (Bc.out.trans hb)
           clear hb
           go_wp2_with fail
           go_meet
           exact ⟨g1, g2, rfl, rfl, G1, G2, Hc, Cc, Xc, Yc, PV, Bc⟩
       clear Hc Cc Xc Yc PV Bc
       obtain ⟨g1, g2, rfl, rfl, G1, G2, Hc, Cc, Xc, Yc, PV, Bc⟩ := hcut
       generalize hwz : wc = wf at *
       clear hwz
       rename_i K2 hK2
       refine hK2 _ _ ?_
       refine wp_seq_k ?_
       intro K3 hK3
       clear hK2
       try simp only [Act.put, List.setIfInBounds_toArray, List.set_cons_succ, List.set_cons_zero]
       go_cut [] (fun wz => Hid (HpB wz g1 (.cells (rtC mk ty sy n1 77 (.slice none 0 0) xb pf (.slice se ne ce) (.slice sv nv cv) pd) 36)) ∧ Hid (HpB wz g2 (.cells (rtC mk ty sq st so (.slice so_ no co) xb pf (.slice se ne ce) (.slice sp np cp) pd) 36)) ∧ Hid (HpB wz g (.cells (egW gc (fnV (fkC c)) (fnV (fpC c)) 77 0 WN gr gb) 57)) ∧ Hid (HpB wz gc (.cells (chC 4 wanted ly) 112)) ∧ Hid (HpB wz go (.cells (opA ko ly pl ix mk ty sq st so so_ no co xb pf se ne ce sp np cp pd sz sl nl cl_) 41)) ∧ Hid (PayAt w wz sv nv cv L') ∧ Hid (BW w wz))
       case first =>
        cases tuN with
        | true =>
         have hkey := Lib.hid (hkey0.out.trans (hkt rfl))
         clear hkt hkf
         as_aux_lemma =>
         go_upto_region 20 with (fail)
         have p0 := (hp_cell G1.out 0).trans (show _ = some (.bool mk) from rfl)
         have p1 := (hp_cell G1.out 1).trans (show _ = some (.int .u8 ty) from rfl)
         have p2 := (hp_cell G1.out 2).trans (show _ = some (.int .u16 sy) from rfl)
         have p3 := (hp_cell G1.out 3).trans (show _ = some (.int .u32 n1) from rfl)
         have p4 := (hp_cell G1.out 4).trans (show _ = some (.int .u32 77) from rfl)
         have p5 := (hp_cell G1.out 5).trans (show _ = some (.slice none 0 0) from rfl)
         have p6 := (hp_cell G1.out 6).trans (show _ = some (.bool xb) from rfl)
         have p7 := (hp_cell G1.out 7).trans (show _ = some (.int .u16 pf) from rfl)
         have p8 := (hp_cell G1.out 8).trans (show _ = some (.slice se ne ce) from rfl)
         have p9 := (hp_cell G1.out 9).trans (show _ = some (.slice sv nv cv) from rfl)
         have p10 := (hp_cell G1.out 10).trans (show _ = some (.int .u8 pd) from rfl)
         have q0 := (hp_cell G2.out 0).trans (show _ = some (.bool mk) from rfl)
         have q1 := (hp_cell G2.out 1).trans (show _ = some (.int .u8 ty) from rfl)
         have q2 := (hp_cell G2.out 2).trans (show _ = some (.int .u16 sq) from rfl)
         have q3 := (hp_cell G2.out 3).trans (show _ = some (.int .u32 st) from rfl)
         have q4 := (hp_cell G2.out 4).trans (show _ = some (.int .u32 so) from rfl)
         have q5 := (hp_cell G2.out 5).trans (show _ = some (.slice so_ no co) from rfl)
         have q6 := (hp_cell G2.out 6).trans (show _ = some (.bool xb) from rfl)
         have q7 := (hp_cell G2.out 7).trans (show _ = some (.int .u16 pf) from rfl)
         have q8 := (hp_cell G2.out 8).trans (show _ = some (.slice se ne ce) from rfl)
         have q9 := (hp_cell G2.out 9).trans (show _ = some (.slice sp np cp) from rfl)
         have q10 := (hp_cell G2.out 10).trans (show _ = some (.int .u8 pd) from rfl)
         have h0 := (hp_cell Hc.out 0).trans (show _ = some (.pointer (some ⟨gc, 0, none⟩)) from rfl)
         have x1 := (hp_cell Xc.out 1).trans (show _ = some (.int .i64 ly) from rfl)
         have a12 := (hp_cell Yc.out 12).trans (show _ = some (.bool true) from rfl)
         have mp4 : ∀ y : LaterS [] wf, _ := fun y => y.bw.cell p4
         have mp5 : ∀ y : LaterS [] wf, _ := fun y => y.bw.cell p5
         have mp0 : ∀ y : LaterS [] wf, _ := fun y => y.bw.cell p0
         have mp1 : ∀ y : LaterS [] wf, _ := fun y => y.bw.cell p1
         have mp8 : ∀ y : LaterS [] wf, _ := fun y => y.bw.cell p8
         have mp10 : ∀ y : LaterS [] wf, _ := fun y => y.bw.cell p10
         have mq0 : ∀ y : LaterS [] wf, _ := fun y => y.bw.cell q0
         have mq1 : ∀ y : LaterS [] wf, _ := fun y => y.bw.cell q1
         have mq8 : ∀ y : LaterS [] wf, _ := fun y => y.bw.cell q8
         have mq9 : ∀ y : LaterS [] wf, _ := fun y => y.bw.cell q9
         have mq10 : ∀ y : LaterS [] wf, _ := fun y => y.bw.cell q10
         have mh : ∀ y : LaterS [] wf, _ := fun y => y.bw.cell h0
         have mx : ∀ y : LaterS [] wf, _ := fun y => y.bw.cell x1
         have ma : ∀ y : LaterS [] wf, _ := fun y => y.bw.cell a12
         have mcv : ∀ y : LaterS [] wf, (convert 34 9 (.slice se ne ce)).run Try.prog y.now = .ok (.string (bstr le)) y.now := fun y => conv_sb (SE.out.bw (Bc.out.trans y.bw))
         have hse := strOf_ne_self' (bstr le)
         generalize bstr le = sE at *
         clear p0 q0 p1 q1 p2 q2 p3 q3 p4 q4 p5 q5 p6 q6 p7 q7 p8 q8 p9 q9 p10 q10 h0 x1 a12
         refine wp_region_gg [] [] [] (by kernel_rfl) ?_
         refine hoist [] [] (a1 := ?_) 0 rfl (by kernel_rfl) (.inl ⟨rfl, rfl⟩) rfl rfl rfl (fun x K hK => ?_) ?_
         rotate_left
         ·go_big_quiet_op
          exact hK
         refine hoist [] [] (a1 := ?_) 1 rfl (by kernel_rfl) (.inl ⟨rfl, rfl⟩) rfl rfl rfl (fun x K hK => ?_) ?_
         rotate_left
         ·go_big_quiet_op
          exact hK
         refine hoist [] [] (a1 := ?_) 2 rfl (by kernel_rfl) (.inl ⟨rfl, rfl⟩) rfl rfl rfl (fun x K hK => ?_) ?_
         rotate_left
         ·go_big_quiet_op
          exact hK
         refine hoist [] [] (a1 := ?_) 3 rfl (by kernel_rfl) (.inl ⟨rfl, rfl⟩) rfl rfl rfl (fun x K hK => ?_) ?_
         rotate_left
         ·go_big_quiet_op
          exact hK
         refine hoist [] [] (a1 := ?_) 4 rfl (by kernel_rfl) (.inl ⟨rfl, rfl⟩) rfl rfl rfl (fun x K hK => ?_) ?_
         rotate_left
         ·go_big_quiet_op
          exact hK
         refine hoist [] [] (a1 := ?_) 5 rfl (by kernel_rfl) (.inl ⟨rfl, rfl⟩) rfl rfl rfl (fun x K hK => ?_) ?_
         rotate_left
         ·go_big_quiet_op
          exact hK
         refine hoist [] [] (a1 := ?_) 6 rfl (by kernel_rfl) (.inl ⟨rfl, rfl⟩) rfl rfl rfl (fun x K hK => ?_) ?_
         rotate_left
         ·go_big_quiet_op
          exact hK
         refine hoist [] [] (a1 := ?_) 7 rfl (by kernel_rfl) (.inl ⟨rfl, rfl⟩) rfl rfl rfl (fun x K hK => ?_) ?_
         rotate_left
         ·go_big_quiet_op
          exact hK
         refine hoist [] [] (a1 := ?_) 8 rfl (by kernel_rfl) (.inl ⟨rfl, rfl⟩) rfl rfl rfl (fun x K hK => ?_) ?_
         rotate_left
         ·go_big_quiet_op
          exact hK
         refine hoist [] [] (a1 := ?_) 9 rfl (by kernel_rfl) (.inl ⟨rfl, rfl⟩) rfl rfl rfl (fun x K hK => ?_) ?_
         rotate_left
         ·go_big_quiet_op
          exact hK
         refine hoist [] [] (a1 := ?_) 10 rfl (by kernel_rfl) (.inl ⟨rfl, rfl⟩) rfl rfl rfl (fun x K hK => ?_) ?_
         rotate_left
         ·go_big_quiet_op
          exact hK
         refine hoist [] [] (a1 := ?_) 11 rfl (by kernel_rfl) (.inl ⟨rfl, rfl⟩) rfl rfl rfl (fun x K hK => ?_) ?_
         rotate_left
         ·go_big_quiet_op
          exact hK
         refine hoist [] [] (a1 := ?_) 12 rfl (by kernel_rfl) (.inl ⟨rfl, rfl⟩) rfl rfl rfl (fun x K hK => ?_) ?_
         rotate_left
         ·go_big_quiet_op
          exact hK
         refine hoist [] [] (a1 := ?_) 13 rfl (by kernel_rfl) (.inl ⟨rfl, rfl⟩) rfl rfl rfl (fun x K hK => ?_) ?_
         rotate_left
         ·go_big_quiet_op
          exact hK
         refine hoist [] [] (a1 := ?_) 14 rfl (by kernel_rfl) (.inl ⟨rfl, rfl⟩) rfl rfl rfl (fun x K hK => ?_) ?_
         rotate_left
         ·go_big_quiet_op
          exact hK
         refine hoist [] [] (a1 := ?_) 15 rfl (by kernel_rfl) (.inl ⟨rfl, rfl⟩) rfl rfl rfl (fun x K hK => ?_) ?_
         rotate_left
         ·go_big_quiet_op
          exact hK
         refine hoist [] [] (a1 := ?_) 16 rfl (by kernel_rfl) (.inl ⟨rfl, rfl⟩) rfl rfl rfl (fun x K hK => ?_) ?_
         rotate_left
         ·go_big_quiet_op
          exact hK
         refine hoist [] [] (a1 := ?_) 17 rfl (by kernel_rfl) (.inl ⟨rfl, rfl⟩) rfl rfl rfl (fun x K hK => ?_) ?_
         rotate_left
         ·go_big_quiet_op
          exact hK
         refine hoist [] [] (a1 := ?_) 18 rfl (by kernel_rfl) (.inl ⟨rfl, rfl⟩) rfl rfl rfl (fun x K hK => ?_) ?_
         rotate_left
         ·go_big_quiet_op
          exact hK
         refine hoist [] [] (a1 := ?_) 19 rfl (by kernel_rfl) (.inl ⟨rfl, rfl⟩) rfl rfl rfl (fun x K hK => ?_) ?_
         rotate_left
         ·go_big_quiet_op
          exact hK
         refine hoist [] [] (a1 := ?_) 20 rfl (by kernel_rfl) (.inl ⟨rfl, rfl⟩) rfl rfl rfl (fun x K hK => ?_) ?_
         rotate_left
         ·go_big_quiet_op
          exact hK
         refine hoist [] [] (a1 := ?_) 21 rfl (by kernel_rfl) (.inl ⟨rfl, rfl⟩) rfl rfl rfl (fun x K hK => ?_) ?_
         rotate_left
         ·go_big_quiet_op
          exact hK
         refine hoist [] [] (a1 := ?_) 22 rfl (by kernel_rfl) (.inl ⟨rfl, rfl⟩) rfl rfl rfl (fun x K hK => ?_) ?_
         rotate_left
         ·go_big_quiet_op
          exact hK
         refine hoist [] [] (a1 := ?_) 23 rfl (by kernel_rfl) (.inl ⟨rfl, rfl⟩) rfl rfl rfl (fun x K hK => ?_) ?_
         rotate_left
         ·go_big_quiet_op
          exact hK
         refine hoist [] [] (a1 := ?_) 24 rfl (by kernel_rfl) (.inl ⟨rfl, rfl⟩) rfl rfl rfl (fun x K hK => ?_) ?_
         rotate_left
         ·go_big_quiet_op
          exact hK
         refine hoist [] [] (a1 := ?_) 25 rfl (by kernel_rfl) (.inl ⟨rfl, rfl⟩) rfl rfl rfl (fun x K hK => ?_) ?_
         rotate_left
         ·go_big_quiet_op
          exact hK
         refine hoist [] [] (a1 := ?_) 26 rfl (by kernel_rfl) (.inl ⟨rfl, rfl⟩) rfl rfl rfl (fun x K hK => ?_) ?_
         rotate_left
         ·go_big_quiet_op
          exact hK
         refine hoist [] [] (a1 := ?_) 27 rfl (by kernel_rfl) (.inl ⟨rfl, rfl⟩) rfl rfl rfl (fun x K hK => ?_) ?_
         rotate_left
         ·go_big_quiet_op
          exact hK
         refine hoist [] [] (a1 := ?_) 28 rfl (by kernel_rfl) (.inl ⟨rfl, rfl⟩) rfl rfl rfl (fun x K hK => ?_) ?_
         rotate_left
         ·go_big_quiet_op
          exact hK
         refine hoist [] [] (a1 := ?_) 29 rfl (by kernel_rfl) (.inl ⟨rfl, rfl⟩) rfl rfl rfl (fun x K hK => ?_) ?_
         rotate_left
         ·go_big_quiet_op
          exact hK
         refine hoist [] [] (a1 := ?_) 30 rfl (by kernel_rfl) (.inl ⟨rfl, rfl⟩) rfl rfl rfl (fun x K hK => ?_) ?_
         rotate_left
         ·go_big_quiet_op
          exact hK
         refine hoist [] [] (a1 := ?_) 31 rfl (by kernel_rfl) (.inl ⟨rfl, rfl⟩) rfl rfl rfl (fun x K hK => ?_) ?_
         rotate_left
         ·go_big_quiet_op
          exact hK
         refine hoist [] [] (a1 := ?_) 32 rfl (by kernel_rfl) (.inl ⟨rfl, rfl⟩) rfl rfl rfl (fun x K hK => ?_) ?_
         rotate_left
         ·go_big_quiet_op
          exact hK
         refine hoist [] [] (a1 := ?_) 33 rfl (by kernel_rfl) (.inl ⟨rfl, rfl⟩) rfl rfl rfl (fun x K hK => ?_) ?_
         rotate_left
         ·go_big_quiet_op
          exact hK
         refine hoist [] [] (a1 := ?_) 34 rfl (by kernel_rfl) (.inl ⟨rfl, rfl⟩) rfl rfl rfl (fun x K hK => ?_) ?_
         rotate_left
         ·go_big_quiet_op
          exact hK
         refine hoist [] [] (a1 := ?_) 35 rfl (by kernel_rfl) (.inl ⟨rfl, rfl⟩) rfl rfl rfl (fun x K hK => ?_) ?_
         rotate_left
         ·go_big_quiet_op
          exact hK
         refine hoist [] [] (a1 := ?_) 36 rfl (by kernel_rfl) (.inl ⟨rfl, rfl⟩) rfl rfl rfl (fun x K hK => ?_) ?_
         rotate_left
         ·go_big_quiet_op
          exact hK
         refine hoist [] [] (a1 := ?_) 37 rfl (by kernel_rfl) (.inl ⟨rfl, rfl⟩) rfl rfl rfl (fun x K hK => ?_) ?_
         rotate_left
         ·go_big_quiet_op
          exact hK
         refine hoist [] [] (a1 := ?_) 38 rfl (by kernel_rfl) (.inl ⟨rfl, rfl⟩) rfl rfl rfl (fun x K hK => ?_) ?_
         rotate_left
         ·go_big_quiet_op
          exact hK
         refine hoist [] [] (a1 := ?_) 39 rfl (by kernel_rfl) (.inl ⟨rfl, rfl⟩) rfl rfl rfl (fun x K hK => ?_) ?_
         rotate_left
         ·go_big_quiet_op
          exact hK
         refine hoist [] [] (a1 := ?_) 40 rfl (by kernel_rfl) (.inl ⟨rfl, rfl⟩) rfl rfl rfl (fun x K hK => ?_) ?_
         rotate_left
         ·go_big_quiet_op
          exact hK
         refine hoist [] [] (a1 := ?_) 41 rfl (by kernel_rfl) (.inl ⟨rfl, rfl⟩) rfl rfl rfl (fun x K hK => ?_) ?_
         rotate_left
         ·go_big_quiet_op
          exact hK
         refine hoist [] [] (a1 := ?_) 42 rfl (by kernel_rfl) (.inl ⟨rfl, rfl⟩) rfl rfl rfl (fun x K hK => ?_) ?_
         rotate_left
         ·go_big_quiet_op
          exact hK
         refine hoist [] [] (a1 := ?_) 43 rfl (by kernel_rfl) (.inl ⟨rfl, rfl⟩) rfl rfl rfl (fun x K hK => ?_) ?_
         rotate_left
         ·go_big_quiet_op
          exact hK
         refine hoist_call [] [] (a1 := ?_) 44 rfl (by kernel_rfl) (.inl ⟨rfl, rfl⟩) rfl rfl rfl (fun x K hK => ?_) ?_
         rotate_left
         ·go_big_quiet_op
          apply Exists.intro
          refine ⟨fun y => ?_, ?_⟩
          ·exact Calls.laterS_same (goes_any gc 4 wanted ly _ ((Cc.out.bw x.bw).bw y.bw))
          ·exact hK
         refine hoist [] [] (a1 := ?_) 45 rfl (by kernel_rfl) (.inl ⟨rfl, rfl⟩) rfl rfl rfl (fun x K hK => ?_) ?_
         rotate_left
         ·go_big_quiet_op
          exact hK
         refine hoist [] [] (a1 := ?_) 46 rfl (by kernel_rfl) (.inl ⟨rfl, rfl⟩) rfl rfl rfl (fun x K hK => ?_) ?_
         rotate_left
         ·go_big_quiet_op
          exact hK
         refine hoist [] [] (a1 := ?_) 47 rfl (by kernel_rfl) (.inl ⟨rfl, rfl⟩) rfl rfl rfl (fun x K hK => ?_) ?_
         rotate_left
         ·go_big_quiet_op
          exact hK
         refine hoist [] [] (a1 := ?_) 48 rfl (by kernel_rfl) (.inl ⟨rfl, rfl⟩) rfl rfl rfl (fun x K hK => ?_) ?_
         rotate_left
         ·go_big_quiet_op
          exact hK
         refine hoist [] [] (a1 := ?_) 49 rfl (by kernel_rfl) (.inl ⟨rfl, rfl⟩) rfl rfl rfl (fun x K hK => ?_) ?_
         rotate_left
         ·go_big_quiet_op
          exact hK
         refine hoist [] [] (a1 := ?_) 50 rfl (by kernel_rfl) (.inl ⟨rfl, rfl⟩) rfl rfl rfl (fun x K hK => ?_) ?_
         rotate_left
         ·go_big_quiet_op
          exact hK
         refine hoist [] [] (a1 := ?_) 51 rfl (by kernel_rfl) (.inl ⟨rfl, rfl⟩) rfl rfl rfl (fun x K hK => ?_) ?_
         rotate_left
         ·go_big_quiet_op
          exact hK
         refine hoist [] [] (a1 := ?_) 52 rfl (by kernel_rfl) (.inl ⟨rfl, rfl⟩) rfl rfl rfl (fun x K hK => ?_) ?_
         rotate_left
         ·go_big_quiet_op
          exact hK
         refine hoist [] [] (a1 := ?_) 53 rfl (by kernel_rfl) (.inl ⟨rfl, rfl⟩) rfl rfl rfl (fun x K hK => ?_) ?_
         rotate_left
         ·go_big_quiet_op
          exact hK
         refine hoist [] [] (a1 := ?_) 54 rfl (by kernel_rfl) (.inl ⟨rfl, rfl⟩) rfl rfl rfl (fun x K hK => ?_) ?_
         rotate_left
         ·go_big_quiet_op
          exact hK
         refine hoist [] [] (a1 := ?_) 55 rfl (by kernel_rfl) (.inl ⟨rfl, rfl⟩) rfl rfl rfl (fun x K hK => ?_) ?_
         rotate_left
         ·go_big_quiet_op
          exact hK
         refine hoist [] [] (a1 := ?_) 56 rfl (by kernel_rfl) (.inl ⟨rfl, rfl⟩) rfl rfl rfl (fun x K hK => ?_) ?_
         rotate_left
         ·go_big_quiet_op
          exact hK
         refine hoist [] [] (a1 := ?_) 57 rfl (by kernel_rfl) (.inl ⟨rfl, rfl⟩) rfl rfl rfl (fun x K hK => ?_) ?_
         rotate_left
         ·go_big_quiet_op
          exact hK
         refine effect 58 rfl (by kernel_rfl) (by kernel_rfl) rfl (fun x58 K hK => ?_)
         go_simp
         have cR := rkey28_any c hc3 sp np cp lp x58.now (SP.out.bw (Bc.out.trans x58.bw)) (by omega)
         rw [hkey.out] at cR
         refine Calls.mono cR ?_
         rintro e w10 ⟨rfl, hb2⟩
         refine hK _ _ (hb2.still []) ?_
         clear hK K cR
         have hb := x58.bw.trans hb2
         replace Hc := Lib.hid (Hc.out.bw hb)
         replace Cc := Lib.hid (Cc.out.bw hb)
         replace Xc := Lib.hid (Xc.out.bw hb)
         try replace Yc := Lib.hid (Yc.out.bw hb)
         try replace G1 := Lib.hid (G1.out.bw hb)
         try replace G2 := Lib.hid (G2.out.bw hb)
         try replace V1 := Lib.hid (V1.out.bw hb)
         try replace PV := Lib.hid (PV.out.bw hb)
         replace Bc := Lib.hid (Bc.out.trans hb)
         clear hb
         clear mp4 mp5 mp0 mp1 mp8 mp10 mq0 mq1 mq8 mq9 mq10 mh mx ma mcv hb2
         have a12 := (hp_cell Yc.out 12).trans (show _ = some (.bool true) from rfl)
         have ma : ∀ y : LaterS [] w10, _ := fun y => y.bw.cell a12
         clear a12
         try simp only [Act.put, List.setIfInBounds_toArray, List.set_cons_succ, List.set_cons_zero]
         refine hoist [] [] (a1 := ?_) 59 rfl (by kernel_rfl) (.inl ⟨rfl, rfl⟩) rfl rfl rfl (fun x K hK => ?_) ?_
         rotate_left
         ·go_big_quiet_op
          exact hK
         refine hoist [] [] (a1 := ?_) 60 rfl (by kernel_rfl) (.inl ⟨rfl, rfl⟩) rfl rfl rfl (fun x K hK => ?_) ?_
         rotate_left
         ·go_big_quiet_op
          exact hK
         refine hoist [] [] (a1 := ?_) 61 rfl (by kernel_rfl) (.inl ⟨rfl, rfl⟩) rfl rfl rfl (fun x K hK => ?_) ?_
         rotate_left
         ·go_big_quiet_op
          exact hK
         refine hoist [] [] (a1 := ?_) 62 rfl (by kernel_rfl) (.inl ⟨rfl, rfl⟩) rfl rfl rfl (fun x K hK => ?_) ?_
         rotate_left
         ·go_big_quiet_op
          exact hK
         refine hoist [] [] (a1 := ?_) 63 rfl (by kernel_rfl) (.inl ⟨rfl, rfl⟩) rfl rfl rfl (fun x K hK => ?_) ?_
         rotate_left
         ·go_big_quiet_op
          exact hK
         refine hoist [] [] (a1 := ?_) 64 rfl (by kernel_rfl) (.inl ⟨rfl, rfl⟩) rfl rfl rfl (fun x K hK => ?_) ?_
         rotate_left
         ·go_big_quiet_op
          exact hK
         refine hoist [] [] (a1 := ?_) 65 rfl (by kernel_rfl) (.inl ⟨rfl, rfl⟩) rfl rfl rfl (fun x K hK => ?_) ?_
         rotate_left
         ·go_big_quiet_op
          exact hK
         refine hoist [] [] (a1 := ?_) 66 rfl (by kernel_rfl) (.inl ⟨rfl, rfl⟩) rfl rfl rfl (fun x K hK => ?_) ?_
         rotate_left
         ·go_big_quiet_op
          exact hK
         refine hoist_skip [] [] 67 rfl (by kernel_rfl) (.inl ⟨rfl, rfl⟩) rfl (a1 := ?_) ?_ ?_
         rotate_left
         ·simp only [Act.put, List.setIfInBounds_toArray, List.set_cons_succ, List.set_cons_zero]; rfl
         refine hoist_skip [] [] 68 rfl (by kernel_rfl) (.inl ⟨rfl, rfl⟩) rfl (a1 := ?_) ?_ ?_
         rotate_left
         ·simp only [Act.put, List.setIfInBounds_toArray, List.set_cons_succ, List.set_cons_zero]; rfl
         refine hoist_skip [] [] 69 rfl (by kernel_rfl) (.inl ⟨rfl, rfl⟩) rfl (a1 := ?_) ?_ ?_
         rotate_left
         ·simp only [Act.put, List.setIfInBounds_toArray, List.set_cons_succ, List.set_cons_zero]; rfl
         refine hoist_skip [] [] 70 rfl (by kernel_rfl) (.inl ⟨rfl, rfl⟩) rfl (a1 := ?_) ?_ ?_
         rotate_left
         ·simp only [Act.put, List.setIfInBounds_toArray, List.set_cons_succ, List.set_cons_zero]; rfl
         refine hoist [] [] (a1 := ?_) 71 rfl (by kernel_rfl) (.inl ⟨rfl, rfl⟩) rfl rfl rfl (fun x K hK => ?_) ?_
         rotate_left
         ·go_big_quiet_op
          exact hK
         refine hoist [] [] (a1 := ?_) 72 rfl (by kernel_rfl) (.inl ⟨rfl, rfl⟩) rfl rfl rfl (fun x K hK => ?_) ?_
         rotate_left
         ·go_big_quiet_op
          exact hK
         refine done (by kernel_rfl) (fun xr => ?_)
         have hb := xr.bw
         replace Hc := Lib.hid (Hc.out.bw hb)
         replace Cc := Lib.hid (Cc.out.bw hb)
         replace Xc := Lib.hid (Xc.out.bw hb)
         try replace Yc := Lib.hid (Yc.out.bw hb)
         try replace G1 := Lib.hid (G1.out.bw hb)
         try replace G2 := Lib.hid (G2.out.bw hb)
         try replace V1 := Lib.hid (V1.out.bw hb)
         try replace PV := Lib.hid (PV.out.bw hb)
         replace Bc := Lib.hid (Bc.out.trans hb)
         clear hb
         clear ma hse
         go_wp2_with fail
         go_meet
         exact ⟨G1, G2, Hc, Cc, Xc, PV, Bc⟩
        | false =>
         obtain rfl := hkf rfl
         clear hkt hkf
         as_aux_lemma =>
         go_upto_region 20 with (fail)
         have p0 := (hp_cell G1.out 0).trans (show _ = some (.bool mk) from rfl)
         have p1 := (hp_cell G1.out 1).trans (show _ = some (.int .u8 ty) from rfl)
         have p2 := (hp_cell G1.out 2).trans (show _ = some (.int .u16 sy) from rfl)
         have p3 := (hp_cell G1.out 3).trans (show _ = some (.int .u32 n1) from rfl)
         have p4 := (hp_cell G1.out 4).trans (show _ = some (.int .u32 77) from rfl)
         have p5 := (hp_cell G1.out 5).trans (show _ = some (.slice none 0 0) from rfl)
         have p6 := (hp_cell G1.out 6).trans (show _ = some (.bool xb) from rfl)
         have p7 := (hp_cell G1.out 7).trans (show _ = some (.int .u16 pf) from rfl)
         have p8 := (hp_cell G1.out 8).trans (show _ = some (.slice se ne ce) from rfl)
         have p9 := (hp_cell G1.out 9).trans (show _ = some (.slice sv nv cv) from rfl)
         have p10 := (hp_cell G1.out 10).trans (show _ = some (.int .u8 pd) from rfl)
         have q0 := (hp_cell G2.out 0).trans (show _ = some (.bool mk) from rfl)
         have q1 := (hp_cell G2.out 1).trans (show _ = some (.int .u8 ty) from rfl)
         have q2 := (hp_cell G2.out 2).trans (show _ = some (.int .u16 sq) from rfl)
         have q3 := (hp_cell G2.out 3).trans (show _ = some (.int .u32 st) from rfl)
         have q4 := (hp_cell G2.out 4).trans (show _ = some (.int .u32 so) from rfl)
         have q5 := (hp_cell G2.out 5).trans (show _ = some (.slice so_ no co) from rfl)
         have q6 := (hp_cell G2.out 6).trans (show _ = some (.bool xb) from rfl)
         have q7 := (hp_cell G2.out 7).trans (show _ = some (.int .u16 pf) from rfl)
         have q8 := (hp_cell G2.out 8).trans (show _ = some (.slice se ne ce) from rfl)
         have q9 := (hp_cell G2.out 9).trans (show _ = some (.slice sp np cp) from rfl)
         have q10 := (hp_cell G2.out 10).trans (show _ = some (.int .u8 pd) from rfl)
         have h0 := (hp_cell Hc.out 0).trans (show _ = some (.pointer (some ⟨gc, 0, none⟩)) from rfl)
         have x1 := (hp_cell Xc.out 1).trans (show _ = some (.int .i64 ly) from rfl)
         have a12 := (hp_cell Yc.out 12).trans (show _ = some (.bool false) from rfl)
         have mp4 : ∀ y : LaterS [] wf, _ := fun y => y.bw.cell p4
         have mp5 : ∀ y : LaterS [] wf, _ := fun y => y.bw.cell p5
         have mp0 : ∀ y : LaterS [] wf, _ := fun y => y.bw.cell p0
         have mp1 : ∀ y : LaterS [] wf, _ := fun y => y.bw.cell p1
         have mp8 : ∀ y : LaterS [] wf, _ := fun y => y.bw.cell p8
         have mp10 : ∀ y : LaterS [] wf, _ := fun y => y.bw.cell p10
         have mq0 : ∀ y : LaterS [] wf, _ := fun y => y.bw.cell q0
         have mq1 : ∀ y : LaterS [] wf, _ := fun y => y.bw.cell q1
         have mq8 : ∀ y : LaterS [] wf, _ := fun y => y.bw.cell q8
         have mq9 : ∀ y : LaterS [] wf, _ := fun y => y.bw.cell q9
         have mq10 : ∀ y : LaterS [] wf, _ := fun y => y.bw.cell q10
         have mh : ∀ y : LaterS [] wf, _ := fun y => y.bw.cell h0
         have mx : ∀ y : LaterS [] wf, _ := fun y => y.bw.cell x1
         have ma : ∀ y : LaterS [] wf, _ := fun y => y.bw.cell a12
         have mcv : ∀ y : LaterS [] wf, (convert 34 9 (.slice se ne ce)).run Try.prog y.now = .ok (.string (bstr le)) y.now := fun y => conv_sb (SE.out.bw (Bc.out.trans y.bw))
         have hse := strOf_ne_self' (bstr le)
         generalize bstr le = sE at *
         clear p0 q0 p1 q1 p2 q2 p3 q3 p4 q4 p5 q5 p6 q6 p7 q7 p8 q8 p9 q9 p10 q10 h0 x1 a12
         refine wp_region_gg [] [] [] (by kernel_rfl) ?_
         refine hoist [] [] (a1 := ?_) 0 rfl (by kernel_rfl) (.inl ⟨rfl, rfl⟩) rfl rfl rfl (fun x K hK => ?_) ?_
         rotate_left
         ·go_big_quiet_op
          exact hK
         refine hoist [] [] (a1 := ?_) 1 rfl (by kernel_rfl) (.inl ⟨rfl, rfl⟩) rfl rfl rfl (fun x K hK => ?_) ?_
         rotate_left
         ·go_big_quiet_op
          exact hK
         refine hoist [] [] (a1 := ?_) 2 rfl (by kernel_rfl) (.inl ⟨rfl, rfl⟩) rfl rfl rfl (fun x K hK => ?_) ?_
         rotate_left
         ·go_big_quiet_op
          exact hK
         refine hoist [] [] (a1 := ?_) 3 rfl (by kernel_rfl) (.inl ⟨rfl, rfl⟩) rfl rfl rfl (fun x K hK => ?_) ?_
         rotate_left
         ·go_big_quiet_op
          exact hK
         refine hoist [] [] (a1 := ?_) 4 rfl (by kernel_rfl) (.inl ⟨rfl, rfl⟩) rfl rfl rfl (fun x K hK => ?_) ?_
         rotate_left
         ·go_big_quiet_op
          exact hK
         refine hoist [] [] (a1 := ?_) 5 rfl (by kernel_rfl) (.inl ⟨rfl, rfl⟩) rfl rfl rfl (fun x K hK => ?_) ?_
         rotate_left
         ·go_big_quiet_op
          exact hK
         refine hoist [] [] (a1 := ?_) 6 rfl (by kernel_rfl) (.inl ⟨rfl, rfl⟩) rfl rfl rfl (fun x K hK => ?_) ?_
         rotate_left
         ·go_big_quiet_op
          exact hK
         refine hoist [] [] (a1 := ?_) 7 rfl (by kernel_rfl) (.inl ⟨rfl, rfl⟩) rfl rfl rfl (fun x K hK => ?_) ?_
         rotate_left
         ·go_big_quiet_op
          exact hK
         refine hoist [] [] (a1 := ?_) 8 rfl (by kernel_rfl) (.inl ⟨rfl, rfl⟩) rfl rfl rfl (fun x K hK => ?_) ?_
         rotate_left
         ·go_big_quiet_op
          exact hK
         refine hoist [] [] (a1 := ?_) 9 rfl (by kernel_rfl) (.inl ⟨rfl, rfl⟩) rfl rfl rfl (fun x K hK => ?_) ?_
         rotate_left
         ·go_big_quiet_op
          exact hK
         refine hoist [] [] (a1 := ?_) 10 rfl (by kernel_rfl) (.inl ⟨rfl, rfl⟩) rfl rfl rfl (fun x K hK => ?_) ?_
         rotate_left
         ·go_big_quiet_op
          exact hK
         refine hoist [] [] (a1 := ?_) 11 rfl (by kernel_rfl) (.inl ⟨rfl, rfl⟩) rfl rfl rfl (fun x K hK => ?_) ?_
         rotate_left
         ·go_big_quiet_op
          exact hK
         refine hoist [] [] (a1 := ?_) 12 rfl (by kernel_rfl) (.inl ⟨rfl, rfl⟩) rfl rfl rfl (fun x K hK => ?_) ?_
         rotate_left
         ·go_big_quiet_op
          exact hK
         refine hoist [] [] (a1 := ?_) 13 rfl (by kernel_rfl) (.inl ⟨rfl, rfl⟩) rfl rfl rfl (fun x K hK => ?_) ?_
         rotate_left
         ·go_big_quiet_op
          exact hK
         refine hoist [] [] (a1 := ?_) 14 rfl (by kernel_rfl) (.inl ⟨rfl, rfl⟩) rfl rfl rfl (fun x K hK => ?_) ?_
         rotate_left
         ·go_big_quiet_op
          exact hK
         refine hoist [] [] (a1 := ?_) 15 rfl (by kernel_rfl) (.inl ⟨rfl, rfl⟩) rfl rfl rfl (fun x K hK => ?_) ?_
         rotate_left
         ·go_big_quiet_op
          exact hK
         refine hoist [] [] (a1 := ?_) 16 rfl (by kernel_rfl) (.inl ⟨rfl, rfl⟩) rfl rfl rfl (fun x K hK => ?_) ?_
         rotate_left
         ·go_big_quiet_op
          exact hK
         refine hoist [] [] (a1 := ?_) 17 rfl (by kernel_rfl) (.inl ⟨rfl, rfl⟩) rfl rfl rfl (fun x K hK => ?_) ?_
         rotate_left
         ·go_big_quiet_op
          exact hK
         refine hoist [] [] (a1 := ?_) 18 rfl (by kernel_rfl) (.inl ⟨rfl, rfl⟩) rfl rfl rfl (fun x K hK => ?_) ?_
         rotate_left
         ·go_big_quiet_op
          exact hK
         refine hoist [] [] (a1 := ?_) 19 rfl (by kernel_rfl) (.inl ⟨rfl, rfl⟩) rfl rfl rfl (fun x K hK => ?_) ?_
         rotate_left
         ·go_big_quiet_op
          exact hK
         refine hoist [] [] (a1 := ?_) 20 rfl (by kernel_rfl) (.inl ⟨rfl, rfl⟩) rfl rfl rfl (fun x K hK => ?_) ?_
         rotate_left
         ·go_big_quiet_op
          exact hK
         refine hoist [] [] (a1 := ?_) 21 rfl (by kernel_rfl) (.inl ⟨rfl, rfl⟩) rfl rfl rfl (fun x K hK => ?_) ?_
         rotate_left
         ·go_big_quiet_op
          exact hK
         refine hoist [] [] (a1 := ?_) 22 rfl (by kernel_rfl) (.inl ⟨rfl, rfl⟩) rfl rfl rfl (fun x K hK => ?_) ?_
         rotate_left
         ·go_big_quiet_op
          exact hK
         refine hoist [] [] (a1 := ?_) 23 rfl (by kernel_rfl) (.inl ⟨rfl, rfl⟩) rfl rfl rfl (fun x K hK => ?_) ?_
         rotate_left
         ·go_big_quiet_op
          exact hK
         refine hoist [] [] (a1 := ?_) 24 rfl (by kernel_rfl) (.inl ⟨rfl, rfl⟩) rfl rfl rfl (fun x K hK => ?_) ?_
         rotate_left
         ·go_big_quiet_op
          exact hK
         refine hoist [] [] (a1 := ?_) 25 rfl (by kernel_rfl) (.inl ⟨rfl, rfl⟩) rfl rfl rfl (fun x K hK => ?_) ?_
         rotate_left
         ·go_big_quiet_op
          exact hK
         refine hoist [] [] (a1 := ?_) 26 rfl (by kernel_rfl) (.inl ⟨rfl, rfl⟩) rfl rfl rfl (fun x K hK => ?_) ?_
         rotate_left
         ·go_big_quiet_op
          exact hK
         refine hoist [] [] (a1 := ?_) 27 rfl (by kernel_rfl) (.inl ⟨rfl, rfl⟩) rfl rfl rfl (fun x K hK => ?_) ?_
         rotate_left
         ·go_big_quiet_op
          exact hK
         refine hoist [] [] (a1 := ?_) 28 rfl (by kernel_rfl) (.inl ⟨rfl, rfl⟩) rfl rfl rfl (fun x K hK => ?_) ?_
         rotate_left
         ·go_big_quiet_op
          exact hK
         refine hoist [] [] (a1 := ?_) 29 rfl (by kernel_rfl) (.inl ⟨rfl, rfl⟩) rfl rfl rfl (fun x K hK => ?_) ?_
         rotate_left
         ·go_big_quiet_op
          exact hK
         refine hoist [] [] (a1 := ?_) 30 rfl (by kernel_rfl) (.inl ⟨rfl, rfl⟩) rfl rfl rfl (fun x K hK => ?_) ?_
         rotate_left
         ·go_big_quiet_op
          exact hK
         refine hoist [] [] (a1 := ?_) 31 rfl (by kernel_rfl) (.inl ⟨rfl, rfl⟩) rfl rfl rfl (fun x K hK => ?_) ?_
         rotate_left
         ·go_big_quiet_op
          exact hK
         refine hoist [] [] (a1 := ?_) 32 rfl (by kernel_rfl) (.inl ⟨rfl, rfl⟩) rfl rfl rfl (fun x K hK => ?_) ?_
         rotate_left
         ·go_big_quiet_op
          exact hK
         refine hoist [] [] (a1 := ?_) 33 rfl (by kernel_rfl) (.inl ⟨rfl, rfl⟩) rfl rfl rfl (fun x K hK => ?_) ?_
         rotate_left
         ·go_big_quiet_op
          exact hK
         refine hoist [] [] (a1 := ?_) 34 rfl (by kernel_rfl) (.inl ⟨rfl, rfl⟩) rfl rfl rfl (fun x K hK => ?_) ?_
         rotate_left
         ·go_big_quiet_op
          exact hK
         refine hoist [] [] (a1 := ?_) 35 rfl (by kernel_rfl) (.inl ⟨rfl, rfl⟩) rfl rfl rfl (fun x K hK => ?_) ?_
         rotate_left
         ·go_big_quiet_op
          exact hK
         refine hoist [] [] (a1 := ?_) 36 rfl (by kernel_rfl) (.inl ⟨rfl, rfl⟩) rfl rfl rfl (fun x K hK => ?_) ?_
         rotate_left
         ·go_big_quiet_op
          exact hK
         refine hoist [] [] (a1 := ?_) 37 rfl (by kernel_rfl) (.inl ⟨rfl, rfl⟩) rfl rfl rfl (fun x K hK => ?_) ?_
         rotate_left
         ·go_big_quiet_op
          exact hK
         refine hoist [] [] (a1 := ?_) 38 rfl (by kernel_rfl) (.inl ⟨rfl, rfl⟩) rfl rfl rfl (fun x K hK => ?_) ?_
         rotate_left
         ·go_big_quiet_op
          exact hK
         refine hoist [] [] (a1 := ?_) 39 rfl (by kernel_rfl) (.inl ⟨rfl, rfl⟩) rfl rfl rfl (fun x K hK => ?_) ?_
         rotate_left
         ·go_big_quiet_op
          exact hK
         refine hoist [] [] (a1 := ?_) 40 rfl (by kernel_rfl) (.inl ⟨rfl, rfl⟩) rfl rfl rfl (fun x K hK => ?_) ?_
         rotate_left
         ·go_big_quiet_op
          exact hK
         refine hoist [] [] (a1 := ?_) 41 rfl (by kernel_rfl) (.inl ⟨rfl, rfl⟩) rfl rfl rfl (fun x K hK => ?_) ?_
         rotate_left
         ·go_big_quiet_op
          exact hK
         refine hoist [] [] (a1 := ?_) 42 rfl (by kernel_rfl) (.inl ⟨rfl, rfl⟩) rfl rfl rfl (fun x K hK => ?_) ?_
         rotate_left
         ·go_big_quiet_op
          exact hK
         refine hoist [] [] (a1 := ?_) 43 rfl (by kernel_rfl) (.inl ⟨rfl, rfl⟩) rfl rfl rfl (fun x K hK => ?_) ?_
         rotate_left
         ·go_big_quiet_op
          exact hK
         refine hoist_call [] [] (a1 := ?_) 44 rfl (by kernel_rfl) (.inl ⟨rfl, rfl⟩) rfl rfl rfl (fun x K hK => ?_) ?_
         rotate_left
         ·go_big_quiet_op
          apply Exists.intro
          refine ⟨fun y => ?_, ?_⟩
          ·exact Calls.laterS_same (goes_any gc 4 wanted ly _ ((Cc.out.bw x.bw).bw y.bw))
          ·exact hK
         refine hoist [] [] (a1 := ?_) 45 rfl (by kernel_rfl) (.inl ⟨rfl, rfl⟩) rfl rfl rfl (fun x K hK => ?_) ?_
         rotate_left
         ·go_big_quiet_op
          exact hK
         refine hoist [] [] (a1 := ?_) 46 rfl (by kernel_rfl) (.inl ⟨rfl, rfl⟩) rfl rfl rfl (fun x K hK => ?_) ?_
         rotate_left
         ·go_big_quiet_op
          exact hK
         refine hoist [] [] (a1 := ?_) 47 rfl (by kernel_rfl) (.inl ⟨rfl, rfl⟩) rfl rfl rfl (fun x K hK => ?_) ?_
         rotate_left
         ·go_big_quiet_op
          exact hK
         refine hoist [] [] (a1 := ?_) 48 rfl (by kernel_rfl) (.inl ⟨rfl, rfl⟩) rfl rfl rfl (fun x K hK => ?_) ?_
         rotate_left
         ·go_big_quiet_op
          exact hK
         refine hoist [] [] (a1 := ?_) 49 rfl (by kernel_rfl) (.inl ⟨rfl, rfl⟩) rfl rfl rfl (fun x K hK => ?_) ?_
         rotate_left
         ·go_big_quiet_op
          exact hK
         refine hoist [] [] (a1 := ?_) 50 rfl (by kernel_rfl) (.inl ⟨rfl, rfl⟩) rfl rfl rfl (fun x K hK => ?_) ?_
         rotate_left
         ·go_big_quiet_op
          exact hK
         refine hoist [] [] (a1 := ?_) 51 rfl (by kernel_rfl) (.inl ⟨rfl, rfl⟩) rfl rfl rfl (fun x K hK => ?_) ?_
         rotate_left
         ·go_big_quiet_op
          exact hK
         refine hoist [] [] (a1 := ?_) 52 rfl (by kernel_rfl) (.inl ⟨rfl, rfl⟩) rfl rfl rfl (fun x K hK => ?_) ?_
         rotate_left
         ·go_big_quiet_op
          exact hK
         refine hoist_skip [] [] 53 rfl (by kernel_rfl) (.inl ⟨rfl, rfl⟩) rfl (a1 := ?_) ?_ ?_
         rotate_left
         ·simp only [Act.put, List.setIfInBounds_toArray, List.set_cons_succ, List.set_cons_zero]; rfl
         refine hoist_skip [] [] 54 rfl (by kernel_rfl) (.inl ⟨rfl, rfl⟩) rfl (a1 := ?_) ?_ ?_
         rotate_left
         ·simp only [Act.put, List.setIfInBounds_toArray, List.set_cons_succ, List.set_cons_zero]; rfl
         refine hoist_skip [] [] 55 rfl (by kernel_rfl) (.inl ⟨rfl, rfl⟩) rfl (a1 := ?_) ?_ ?_
         rotate_left
         ·simp only [Act.put, List.setIfInBounds_toArray, List.set_cons_succ, List.set_cons_zero]; rfl
         refine hoist_skip [] [] 56 rfl (by kernel_rfl) (.inl ⟨rfl, rfl⟩) rfl (a1 := ?_) ?_ ?_
         rotate_left
         ·simp only [Act.put, List.setIfInBounds_toArray, List.set_cons_succ, List.set_cons_zero]; rfl
         refine hoist_skip [] [] 57 rfl (by kernel_rfl) (.inl ⟨rfl, rfl⟩) rfl (a1 := ?_) ?_ ?_
         rotate_left
         ·simp only [Act.put, List.setIfInBounds_toArray, List.set_cons_succ, List.set_cons_zero]; rfl
         refine hoist_skip [] [] 58 rfl (by kernel_rfl) (.inl ⟨rfl, rfl⟩) rfl (a1 := ?_) ?_ ?_
         rotate_left
         ·simp only [Act.put, List.setIfInBounds_toArray, List.set_cons_succ, List.set_cons_zero]; rfl
         refine hoist_skip [] [] 59 rfl (by kernel_rfl) (.inl ⟨rfl, rfl⟩) rfl (a1 := ?_) ?_ ?_
         rotate_left
         ·simp only [Act.put, List.setIfInBounds_toArray, List.set_cons_succ, List.set_cons_zero]; rfl
         refine hoist [] [] (a1 := ?_) 60 rfl (by kernel_rfl) (.inl ⟨rfl, rfl⟩) rfl rfl rfl (fun x K hK => ?_) ?_
         rotate_left
         ·go_big_quiet_op
          exact hK
         refine hoist [] [] (a1 := ?_) 61 rfl (by kernel_rfl) (.inl ⟨rfl, rfl⟩) rfl rfl rfl (fun x K hK => ?_) ?_
         rotate_left
         ·go_big_quiet_op
          exact hK
         refine hoist [] [] (a1 := ?_) 62 rfl (by kernel_rfl) (.inl ⟨rfl, rfl⟩) rfl rfl rfl (fun x K hK => ?_) ?_
         rotate_left
         ·go_big_quiet_op
          exact hK
         refine hoist [] [] (a1 := ?_) 63 rfl (by kernel_rfl) (.inl ⟨rfl, rfl⟩) rfl rfl rfl (fun x K hK => ?_) ?_
         rotate_left
         ·go_big_quiet_op
          exact hK
         refine hoist [] [] (a1 := ?_) 64 rfl (by kernel_rfl) (.inl ⟨rfl, rfl⟩) rfl rfl rfl (fun x K hK => ?_) ?_
         rotate_left
         ·go_big_quiet_op
          exact hK
         refine hoist [] [] (a1 := ?_) 65 rfl (by kernel_rfl) (.inl ⟨rfl, rfl⟩) rfl rfl rfl (fun x K hK => ?_) ?_
         rotate_left
         ·go_big_quiet_op
          exact hK
         refine hoist [] [] (a1 := ?_) 66 rfl (by kernel_rfl) (.inl ⟨rfl, rfl⟩) rfl rfl rfl (fun x K hK => ?_) ?_
         rotate_left
         ·go_big_quiet_op
          exact hK
         refine hoist [] [] (a1 := ?_) 67 rfl (by kernel_rfl) (.inl ⟨rfl, rfl⟩) rfl rfl rfl (fun x K hK => ?_) ?_
         rotate_left
         ·go_big_quiet_op
          exact hK
         refine hoist [] [] (a1 := ?_) 68 rfl (by kernel_rfl) (.inl ⟨rfl, rfl⟩) rfl rfl rfl (fun x K hK => ?_) ?_
         rotate_left
         ·go_big_quiet_op
          exact hK
         refine hoist [] [] (a1 := ?_) 69 rfl (by kernel_rfl) (.inl ⟨rfl, rfl⟩) rfl rfl rfl (fun x K hK => ?_) ?_
         rotate_left
         ·go_big_quiet_op
          exact hK
         refine hoist [] [] (a1 := ?_) 70 rfl (by kernel_rfl) (.inl ⟨rfl, rfl⟩) rfl rfl rfl (fun x K hK => ?_) ?_
         rotate_left
         ·go_big_quiet_op
          exact hK
         refine hoist [] [] (a1 := ?_) 71 rfl (by kernel_rfl) (.inl ⟨rfl, rfl⟩) rfl rfl rfl (fun x K hK => ?_) ?_
         rotate_left
         ·go_big_quiet_op
          exact hK
         refine hoist [] [] (a1 := ?_) 72 rfl (by kernel_rfl) (.inl ⟨rfl, rfl⟩) rfl rfl rfl (fun x K hK => ?_) ?_
         rotate_left
         ·go_big_quiet_op
          exact hK
         refine done (by kernel_rfl) (fun xr => ?_)
         have hb := xr.bw
         replace Hc := Lib.hid (Hc.out.bw hb)
         replace Cc := Lib.hid (Cc.out.bw hb)
         replace Xc := Lib.hid (Xc.out.bw hb)
         try replace Yc := Lib.hid (Yc.out.bw hb)
         try replace G1 := Lib.hid (G1.out.bw hb)
         try replace G2 := Lib.hid (G2.out.bw hb)
         try replace V1 := Lib.hid (V1.out.bw hb)
         try replace PV := Lib.hid (PV.out.bw hb)
         replace Bc := Lib.hid (Bc.out.trans hb)
         clear hb
         clear mp4 mp5 mp0 mp1 mp8 mp10 mq0 mq1 mq8 mq9 mq10 mh mx ma mcv hse
         go_wp2_with fail
         go_meet
         exact ⟨G1, G2, Hc, Cc, Xc, PV, Bc⟩
       clear Hc Cc Xc Yc PV Bc G1 G2
       obtain ⟨G1, G2, Hc, Cc, Xc, PV, Bc⟩ := hcut
       generalize hwz : wc = wq at *
       clear hwz hkt hkf
       as_aux_lemma =>
       have g9 := (hp_cell G1.out 9).trans (show _ = some (.slice sv nv cv) from rfl)
       have cRd := Ref_any L' sv nv cv wq PV.out.1
       unfold rPost at cRd
       rw [hF.out] at cRd
       replace cRd := Lib.hid cRd
       go_wp2_with fail
       refine Calls.mono cRd.out ?_
       rintro e w11 ⟨rfl, hb⟩
       replace hb : BW wq w11 := hb
       clear g9 cRd
       replace Hc := Lib.hid (Hc.out.bw hb)
       replace Cc := Lib.hid (Cc.out.bw hb)
       replace Xc := Lib.hid (Xc.out.bw hb)
       try replace Yc := Lib.hid (Yc.out.bw hb)
       try replace G1 := Lib.hid (G1.out.bw hb)
       try replace G2 := Lib.hid (G2.out.bw hb)
       try replace V1 := Lib.hid (V1.out.bw hb)
       try replace PV := Lib.hid (PV.out.bw hb)
       replace Bc := Lib.hid (Bc.out.trans hb)
       clear hb
       dsimp only
       have BA : BW w11 (w11.alloc (.cells #[.bool f0, .int .u8 f1, .bool f2, .bool f3, .int .u16 f4, .bool f5, .int .i64 f6] 65)) := (BW.refl _).alloc
       have V1 := Lib.hid (HpB.new w11 (.cells #[.bool f0, .int .u8 f1, .bool f2, .bool f3, .int .u16 f4, .bool f5, .int .i64 f6] 65))
       have hb := BA
       replace Hc := Lib.hid (Hc.out.bw hb)
       replace Cc := Lib.hid (Cc.out.bw hb)
       replace Xc := Lib.hid (Xc.out.bw hb)
       replace G1 := Lib.hid (G1.out.bw hb)
       replace G2 := Lib.hid (G2.out.bw hb)
       replace PV := Lib.hid (PV.out.bw hb)
       replace Bc := Lib.hid (Bc.out.trans hb)
       clear hb
       replace BA := Lib.hid BA
       go_upto_region 23 with (fail)
       generalize w11.alloc (.cells #[.bool f0, .int .u8 f1, .bool f2, .bool f3, .int .u16 f4, .bool f5, .int .i64 f6] 65) = w12 at *
       generalize w11.heap.size = gv at *
       have v2 := (hp_cell V1.out 2).trans (show _ = some (.bool f2) from rfl)
       rcases hL.out with ⟨hhas, hLe, hse⟩ | ⟨hhas, hn2, hLe⟩
       ·have hno := noHas hby.out hhas hF.out hLe
        simp only [Value.slice.injEq] at hse
        obtain ⟨rfl, rfl, rfl⟩ := hse
        have hcv := conv_slB PV.out.1
        have hss := strOf_ne_self' (strOfNums L')
        generalize strOfNums L' = sL at *
        have g9 := (hp_cell G1.out 9).trans (show _ = some (.slice sv nv cv) from rfl)
        have q9 := (hp_cell G2.out 9).trans (show _ = some (.slice sv nv cv) from rfl)
        replace hhas := Lib.hid hhas
        replace hLe := Lib.hid hLe
        by_cases hc1 : c = 1
        ·have dc : ((c : Int) == 1) = true := by simp; omega
         have hno' := hno hc1
         subst hno'
         cases hde : (f8 == 0) with
         | true =>
          clear hno
          replace hc1 := Lib.hid hc1
          go_wp2_with fail
          go_roundg (ln - (k + 1))
          case measure => omega
          case rel => exact ⟨k + 1, wanted, ly, WN, rfl, by omega, by omega, by first | rfl | (push_cast; rfl), hWN, Hc, Cc, Bc⟩
         | false =>
          clear hno
          replace hc1 := Lib.hid hc1
          go_wp2_with fail
          go_roundg (ln - (k + 1))
          case measure => omega
          case rel => exact ⟨k + 1, wanted, ly, WN, rfl, by omega, by omega, by first | rfl | (push_cast; rfl), hWN, Hc, Cc, Bc⟩
        ·have dc : ((c : Int) == 1) = false := by simp; omega
         clear hno
         replace hc1 := Lib.hid hc1
         go_wp2_with fail
         go_roundg (ln - (k + 1))
         case measure => omega
         case rel => exact ⟨k + 1, wanted, ly, WN, rfl, by omega, by omega, by first | rfl | (push_cast; rfl), hWN, Hc, Cc, Bc⟩
       ·obtain ⟨hc1, b0, n1', n6, ho, hl2, hl3⟩ := hasC_form hby.out hhas
        obtain ⟨t1, t2, t3, t4, t5⟩ := turned_form hby.out ho hn2 hLe hF.out
        subst t1 t2
        clear t4 t5
        have dc : ((c : Int) == 1) = true := by simp; omega
        have cR2 := Ref_any (lI lp) sp np cp w12 (SlB_of_SB (SP.out.bw Bc.out))
        unfold rPost at cR2
        rw [t3] at cR2
        have q9 := (hp_cell G2.out 9).trans (show _ = some (.slice sp np cp) from rfl)
        obtain ⟨pq, hpq⟩ : ∃ x, x = vPic (lI lp) := ⟨_, rfl⟩
        obtain ⟨wq2, hwq2⟩ : ∃ x, x = vWide (lI lp) := ⟨_, rfl⟩
        obtain ⟨kq, hkq⟩ : ∃ x, x = vKey (lI lp) := ⟨_, rfl⟩
        rw [← hpq, ← hwq2, ← hkq] at cR2
        replace cR2 := Lib.hid cR2
        replace hc1 := Lib.hid hc1
        replace hpq := Lib.hid hpq
        replace hwq2 := Lib.hid hwq2
        replace hkq := Lib.hid hkq
        replace t3 := Lib.hid t3
        replace ho := Lib.hid ho
        replace hhas := Lib.hid hhas
        replace hLe := Lib.hid hLe
        replace hl2 := Lib.hid hl2
        replace hl3 := Lib.hid hl3
        replace hn2 := Lib.hid hn2
        go_wp2_with fail
        refine Calls.mono cR2.out ?_
        rintro e w13 ⟨rfl, hb⟩
        replace hb : BW w12 w13 := hb
        clear q9 cR2 v2
        replace Hc := Lib.hid (Hc.out.bw hb)
        replace Cc := Lib.hid (Cc.out.bw hb)
        replace Xc := Lib.hid (Xc.out.bw hb)
        try replace Yc := Lib.hid (Yc.out.bw hb)
        try replace G1 := Lib.hid (G1.out.bw hb)
        try replace G2 := Lib.hid (G2.out.bw hb)
        try replace V1 := Lib.hid (V1.out.bw hb)
        try replace PV := Lib.hid (PV.out.bw hb)
        replace Bc := Lib.hid (Bc.out.trans hb)
        clear hb
        dsimp only
        have BA : BW w13 (w13.alloc (.cells #[.bool b0, .int .u8 n1', .bool true, .bool wq2, .int .u16 pq, .bool kq, .int .i64 n6] 65)) := (BW.refl _).alloc
        have V2 := Lib.hid (HpB.new w13 (.cells #[.bool b0, .int .u8 n1', .bool true, .bool wq2, .int .u16 pq, .bool kq, .int .i64 n6] 65))
        have hb := BA
        replace Hc := Lib.hid (Hc.out.bw hb)
        replace Cc := Lib.hid (Cc.out.bw hb)
        replace Xc := Lib.hid (Xc.out.bw hb)
        replace G1 := Lib.hid (G1.out.bw hb)
        replace G2 := Lib.hid (G2.out.bw hb)
        replace PV := Lib.hid (PV.out.bw hb)
        replace Bc := Lib.hid (Bc.out.trans hb)
        clear hb
        clear V1
        replace BA := Lib.hid BA
        go_upto_region 25 with (fail)
        generalize w13.alloc (.cells #[.bool b0, .int .u8 n1', .bool true, .bool wq2, .int .u16 pq, .bool kq, .int .i64 n6] 65) = w14 at *
        generalize w13.heap.size = gu at *
        have g9 := (hp_cell G1.out 9).trans (show _ = some (.slice sv nv cv) from rfl)
        have u4 := (hp_cell V2.out 4).trans (show _ = some (.int .u16 pq) from rfl)
        have cT := turned_back hby.out (by have := SP.out.1; omega) ho.out hl2.out hl3.out hn2.out hLe.out pq hpq.out w w14 PV.out
        replace cT := Lib.hid cT
        go_wp2_with fail
        refine Calls.mono cT.out ?_
        rintro e w15 ⟨s2, m2, c2, rfl, OB2, hb⟩
        clear g9 u4 cT
        replace Hc := Lib.hid (Hc.out.bw hb)
        replace Cc := Lib.hid (Cc.out.bw hb)
        replace Xc := Lib.hid (Xc.out.bw hb)
        try replace Yc := Lib.hid (Yc.out.bw hb)
        try replace G1 := Lib.hid (G1.out.bw hb)
        try replace G2 := Lib.hid (G2.out.bw hb)
        try replace V1 := Lib.hid (V1.out.bw hb)
        try replace PV := Lib.hid (PV.out.bw hb)
        replace Bc := Lib.hid (Bc.out.trans hb)
        clear hb
        have hcv := conv_slB OB2
        have hcv2 := conv_slB (SlB_of_SB (SP.out.bw Bc.out))
        have hss := strOf_ne_self' (strOfNums (lI lp))
        have q9 := (hp_cell G2.out 9).trans (show _ = some (.slice sp np cp) from rfl)
        rw [show (lp.map fun x => ((x : Nat) : Int)) = lI lp from rfl] at hcv2
        generalize strOfNums (lI lp) = sL at *
        clear OB2
        dsimp only
        go_wp2_with fail
        go_roundg (ln - (k + 1))
        case measure => omega
        case rel => exact ⟨k + 1, wanted, ly, WN, rfl, by omega, by omega, by first | rfl | (push_cast; rfl), hWN, Hc, Cc, Bc⟩
   ·obtain rfl : k = 40 := by omega
    have d2 : decide (((40 : Nat) : Int) < 40) = false := by decide
    go_wp2_with fail
    go_ret
    exact ⟨rfl, Bc.out⟩
  ·obtain rfl : k = ln := by omega
   have d1 : decide ((k : Int) < (k : Int)) = false := by simp
   go_wp2_with fail
   go_ret
   exact ⟨rfl, Bc.out⟩
end Go.Proofs.Ytojedpahaifjgaa
