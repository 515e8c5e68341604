/- The document's Same of two members with one content. No condition but the sizes'. -/
import Derived.Test.YtebeifkgjhgmeaaRnK
import Derived.Test.YtebeifkgjhgmeaaRg3
namespace Go.Proofs.Ytebeifkgjhgmeaa
open Go.RowKit
theorem swTk : SwT 41 3 := ⟨⟨_, Try.underlying41, rfl, rfl⟩, by kernel_rfl⟩
set_option maxRecDepth 100000 in
set_option maxHeartbeats 8000000 in
theorem same_mem (q : Mem) (b1 b2 : Nat) (va vb vs va' vb' vs' : Value) (hq4 : q.subs.length ≤ 4) (hqa : q.a.p.length ≤ 4) (hqb : q.b.p.length ≤ 4) (w : World) (h1 : MV w b1 q va vb vs) (h2 : MV w b2 q va' vb' vs') :
  Calls Try.prog 11 #[.agg (memA q va vb vs), .agg (memA q va' vb' vs')] w fun e w' => e = .returned (.bool true) ∧ BW w w' := by
 obtain ⟨sa, ca, rfl, -, -⟩ := h1.a.len
 obtain ⟨sb, cb, rfl, -, -⟩ := h1.b.len
 obtain ⟨ss, cs, rfl, -, hcs⟩ := h1.s.len
 obtain ⟨sa', ca', rfl, -, -⟩ := h2.a.len
 obtain ⟨sb', cb', rfl, -, -⟩ := h2.b.len
 obtain ⟨ss', cs', rfl, -, hcs'⟩ := h2.s.len
 unfold maxLen at hcs hcs'
 have BA : BW w ((w.alloc (.cells (memA q (.slice sa q.a.p.length ca) (.slice sb q.b.p.length cb) (.slice ss q.subs.length cs)) 45)).alloc (.cells (memA q (.slice sa' q.a.p.length ca') (.slice sb' q.b.p.length cb') (.slice ss' q.subs.length cs')) 45)) := ((BW.refl w).alloc).alloc
 have G2 := Lib.hid ((HpB.new w (.cells (memA q (.slice sa q.a.p.length ca) (.slice sb q.b.p.length cb) (.slice ss q.subs.length cs)) 45)).bw (show BW _ ((w.alloc (.cells (memA q (.slice sa q.a.p.length ca) (.slice sb q.b.p.length cb) (.slice ss q.subs.length cs)) 45)).alloc (.cells (memA q (.slice sa' q.a.p.length ca') (.slice sb' q.b.p.length cb') (.slice ss' q.subs.length cs')) 45)) from (BW.refl _).alloc))
 have G3 := Lib.hid (HpB.new (w.alloc (.cells (memA q (.slice sa q.a.p.length ca) (.slice sb q.b.p.length cb) (.slice ss q.subs.length cs)) 45)) (.cells (memA q (.slice sa' q.a.p.length ca') (.slice sb' q.b.p.length cb') (.slice ss' q.subs.length cs')) 45))
 simp only [World.size_alloc] at G3
 have V1 := Lib.hid (h1.bw BA)
 have V2 := Lib.hid (h2.bw BA)
 have B1 := Lib.hid BA
 clear BA h1 h2
 obtain ⟨qr, ⟨ais, ac, ap⟩, ⟨bis, bc, bp⟩, qs, qn⟩ := q
 unfold memA memC at *
 dsimp only at *
 have hA := Lib.hid V1.out.a
 have hB := Lib.hid V1.out.b
 have hS := Lib.hid V1.out.s
 have hA' := Lib.hid V2.out.a
 have hB' := Lib.hid V2.out.b
 have hS' := Lib.hid V2.out.s
 dsimp only at hA hB hS hA' hB' hS'
 clear V1 V2
 generalize hna : ap.length = na at *
 generalize hnb : bp.length = nb at *
 generalize hns : qs.length = ns at *
 have d1 : (qr != qr) = false := by simp
 have d2 : (((qn : Nat) : Int) != ((qn : Nat) : Int)) = false := by simp
 have d3 : (((ns : Nat) : Int) != ((ns : Nat) : Int)) = false := by simp
 have d4 : (ais != ais) = false := by simp
 have d5 : (bis != bis) = false := by simp
 have d6 : (ac != ac) = false := by simp
 have d7 : (bc != bc) = false := by simp
 replace hna := Lib.hid hna
 replace hnb := Lib.hid hnb
 replace hns := Lib.hid hns
 go_enter Try.func11, Try.ntmps11
 go_upto_region 1 with (fail)
 generalize (w.alloc _).alloc _ = w1 at *
 generalize hg2 : w.heap.size = g2 at *
 generalize hg3 : g2 + 1 = g3 at *
 have z0 := hp_cell (G2.out) 0
 have z1 := hp_cell (G2.out) 1
 have z2 := hp_cell (G2.out) 2
 have z3 := hp_cell (G2.out) 3
 have z4 := hp_cell (G2.out) 4
 have z5 := hp_cell (G2.out) 5
 have z6 := hp_cell (G2.out) 6
 have z7 := hp_cell (G2.out) 7
 have z8 := hp_cell (G2.out) 8
 simp only [List.getElem?_toArray, List.getElem?_cons_zero, List.getElem?_cons_succ] at z0 z1 z2 z3 z4 z5 z6 z7 z8
 have y0 := hp_cell (G3.out) 0
 have y1 := hp_cell (G3.out) 1
 have y2 := hp_cell (G3.out) 2
 have y3 := hp_cell (G3.out) 3
 have y4 := hp_cell (G3.out) 4
 have y5 := hp_cell (G3.out) 5
 have y6 := hp_cell (G3.out) 6
 have y7 := hp_cell (G3.out) 7
 have y8 := hp_cell (G3.out) 8
 simp only [List.getElem?_toArray, List.getElem?_cons_zero, List.getElem?_cons_succ] at y0 y1 y2 y3 y4 y5 y6 y7 y8
 go_upto_region 4 with (fail)
 clear z0 z1 z2 z3 z4 z5 z6 z7 z8 y0 y1 y2 y3 y4 y5 y6 y7 y8
 go_loopg [5] ns (fun m' nx wx => ∃ i : Nat, m' = ns - i ∧ i ≤ ns ∧ nx = .int .i64 (i : Nat) ∧ Hid (BW w1 wx))
 case atStart => exact ⟨0, by omega, by omega, rfl, BW.refl _⟩
 case round =>
  obtain ⟨i, rfl, hi, rfl, B2⟩ := hrel
  have z7 := (hp_cell (G2.out.bw B2.out) 7).trans (show _ = some (.slice ss ns cs) from rfl)
  have y7 := (hp_cell (G3.out.bw B2.out) 7).trans (show _ = some (.slice ss' ns cs') from rfl)
  by_cases hin : i < ns
  ·have e6 : decide ((i : Int) < (ns : Int)) = true := by simp; omega
   have hil : i < qs.length := by rw [hns.out]; exact hin
   obtain ⟨gq, oq, rfl, -, hc1⟩ := sb_form (hS.out.bw B2.out) (by omega)
   obtain ⟨gq', oq', rfl, -, hc2⟩ := sb_form (hS'.out.bw B2.out) (by omega)
   have R1 := Lib.hid (rangeAt_of (hc1 i hil) rfl)
   have R2 := Lib.hid (rangeAt_of (hc2 i hil) rfl)
   generalize qs[i] = x at *
   obtain ⟨xo, xt, xl, xs⟩ := x
   have e1 : (xo == xo) = true := by simp
   clear hc1 hc2
   go_upto_region 6 with (fail)
   have mz : ∀ y : LaterS [] wr, _ := fun y => y.bw.cell z7
   have my : ∀ y : LaterS [] wr, _ := fun y => y.bw.cell y7
   clear z7 y7
   try simp only [Act.put, List.setIfInBounds_toArray, List.set_cons_succ, List.set_cons_zero]
   refine wp_region_gg [] [] [] (by kernel_rfl) ?_
   refine hoist [] [] (a1 := ?_) 0 rfl (by kernel_rfl) (.inl ⟨rfl, rfl⟩) rfl rfl rfl (fun x K hK => ?_) ?_
   rotate_left
   ·go_big_quiet_op
    exact hK
   refine hoist [] [] (a1 := ?_) 1 rfl (by kernel_rfl) (.inl ⟨rfl, rfl⟩) rfl rfl rfl (fun x K hK => ?_) ?_
   rotate_left
   ·go_big_quiet_op
    exact hK
   refine hoist [] [] (a1 := ?_) 2 rfl (by kernel_rfl) (.inl ⟨rfl, rfl⟩) rfl rfl rfl (fun x K hK => ?_) ?_
   rotate_left
   ·go_big_quiet_op
    exact hK
   refine hoist [] [] (a1 := ?_) 3 rfl (by kernel_rfl) (.inl ⟨rfl, rfl⟩) rfl rfl rfl (fun x K hK => ?_) ?_
   rotate_left
   ·go_big_quiet_op
    exact hK
   refine hoist [] [] (a1 := ?_) 4 rfl (by kernel_rfl) (.inl ⟨rfl, rfl⟩) rfl rfl rfl (fun x K hK => ?_) ?_
   rotate_left
   ·refine swQl swSb (l := [.int .i64 xo, .int .i64 xt, .int .i64 xl, .int .u32 (xs : Nat)]) rfl (by rfl) rfl (fun w' hw => by subst hw; exact rangeAt_bw R1.out x.bw) (by simp only [Act.put, List.setIfInBounds_toArray, List.set_cons_succ, List.set_cons_zero]; rfl) ?_
    exact hK
   refine hoist [] [] (a1 := ?_) 5 rfl (by kernel_rfl) (.inl ⟨rfl, rfl⟩) rfl rfl rfl (fun x K hK => ?_) ?_
   rotate_left
   ·go_big_quiet_op
    exact hK
   refine hoist [] [] (a1 := ?_) 6 rfl (by kernel_rfl) (.inl ⟨rfl, rfl⟩) rfl rfl rfl (fun x K hK => ?_) ?_
   rotate_left
   ·go_big_quiet_op
    exact hK
   refine hoist [] [] (a1 := ?_) 7 rfl (by kernel_rfl) (.inl ⟨rfl, rfl⟩) rfl rfl rfl (fun x K hK => ?_) ?_
   rotate_left
   ·go_big_quiet_op
    exact hK
   refine hoist [] [] (a1 := ?_) 8 rfl (by kernel_rfl) (.inl ⟨rfl, rfl⟩) rfl rfl rfl (fun x K hK => ?_) ?_
   rotate_left
   ·go_big_quiet_op
    exact hK
   refine hoist [] [] (a1 := ?_) 9 rfl (by kernel_rfl) (.inl ⟨rfl, rfl⟩) rfl rfl rfl (fun x K hK => ?_) ?_
   rotate_left
   ·refine swQl swSb (l := [.int .i64 xo, .int .i64 xt, .int .i64 xl, .int .u32 (xs : Nat)]) rfl (by rfl) rfl (fun w' hw => by subst hw; exact rangeAt_bw R2.out x.bw) (by simp only [Act.put, List.setIfInBounds_toArray, List.set_cons_succ, List.set_cons_zero]; rfl) ?_
    exact hK
   refine hoist [] [] (a1 := ?_) 10 rfl (by kernel_rfl) (.inl ⟨rfl, rfl⟩) rfl rfl rfl (fun x K hK => ?_) ?_
   rotate_left
   ·go_big_quiet_op
    exact hK
   refine done (by kernel_rfl) (fun xr => ?_)
   replace B2 := Lib.hid (B2.out.trans xr.bw)
   clear mz my
   generalize xr.now = w4 at *
   clear xr
   go_wp2_with fail
   go_roundg (ns - (i + 1))
   case measure => omega
   case rel => exact ⟨i + 1, rfl, by omega, by first | rfl | (push_cast; rfl), B2⟩
  ·obtain rfl : i = ns := by omega
   have e6 : decide ((i : Int) < (i : Int)) = false := by simp
   go_upto_region 9 with (fail)
   clear z7 y7
   go_loopg [6] 2 (fun m' nx wx => ∃ t : Nat, m' = 2 - t ∧ t ≤ 2 ∧ nx = .int .i64 (t : Nat) ∧ Hid (BW w1 wx))
   case atStart => exact ⟨0, by omega, by omega, rfl, B2⟩
   case round =>
    clear B2
    obtain ⟨t, rfl, ht, rfl, B3⟩ := hrel
    obtain rfl | rfl | rfl : t = 0 ∨ t = 1 ∨ t = 2 := by omega
    -- ROUNDS
    ·go_upto_region 11 with (fail)
     go_cut [7, 8] (fun a7 a8 wz => ∃ g7 g8 : Nat, a7 = .pointer (some ⟨g7, 0, none⟩) ∧ a8 = .pointer (some ⟨g8, 0, none⟩) ∧ Hid (HpB wz g7 (.cells #[.bool ais, .int .i64 ac, .slice sa na ca] 41)) ∧ Hid (HpB wz g8 (.cells #[.bool ais, .int .i64 ac, .slice sa' na ca'] 41)) ∧ Hid (BW w1 wz))
     case first =>
      have Gc2 := Lib.hid (G2.out.bw B3.out)
      have Gc3 := Lib.hid (G3.out.bw B3.out)
      have Bc := B3
      try simp only [Act.put, List.setIfInBounds_toArray, List.set_cons_succ, List.set_cons_zero]
      refine wp_region_gl [] [] [] [10, 11] (by kernel_rfl) ?_
      refine hoist [] [] (a1 := ?_) 0 rfl (by kernel_rfl) (.inl ⟨rfl, rfl⟩) rfl rfl rfl (fun x K hK => ?_) ?_
      rotate_left
      ·go_big_quiet_op
       exact hK
      refine hoist [] [] (a1 := ?_) 1 rfl (by kernel_rfl) (.inl ⟨rfl, rfl⟩) rfl rfl rfl (fun x K hK => ?_) ?_
      rotate_left
      ·go_big_quiet_op
       exact hK
      refine hoist [] [] (a1 := ?_) 2 rfl (by kernel_rfl) (.inl ⟨rfl, rfl⟩) rfl rfl rfl (fun x K hK => ?_) ?_
      rotate_left
      ·go_big_quiet_op
       exact hK
      refine hoist [] [] (a1 := ?_) 3 rfl (by kernel_rfl) (.inl ⟨rfl, rfl⟩) rfl rfl rfl (fun x K hK => ?_) ?_
      rotate_left
      ·refine swQl swTk (l := [.bool ais, .int .i64 ac, .slice sa na ca]) rfl (by rfl) rfl (fun w' hw => by subst hw; exact (Gc2.out.bw x.bw).range 1 _ rfl) (by simp only [Act.put, List.setIfInBounds_toArray, List.set_cons_succ, List.set_cons_zero]; rfl) ?_
       exact hK
      refine hoistP (a1 := ?_) 4 rfl (by kernel_rfl) rfl (fun x => rfl) ?_ ?_
      rotate_left
      ·simp only [Act.put, List.setIfInBounds_toArray, List.set_cons_succ, List.set_cons_zero]; rfl
      refine hoistP (a1 := ?_) 5 rfl (by kernel_rfl) rfl (fun x => rfl) ?_ ?_
      rotate_left
      ·simp only [Act.put, List.setIfInBounds_toArray, List.set_cons_succ, List.set_cons_zero]; rfl
      refine hoistP (a1 := ?_) 6 rfl (by kernel_rfl) rfl (fun x => rfl) ?_ ?_
      rotate_left
      ·simp only [Act.put, List.setIfInBounds_toArray, List.set_cons_succ, List.set_cons_zero]; rfl
      refine effectM [7, 8, 9] (by kernel_rfl) (by simp) (by kernel_rfl) (mem3 ⟨_, rfl, rfl, fun x7 K hK => ?_⟩ ⟨_, rfl, rfl, fun x8 K hK => ?_⟩ ⟨_, rfl, rfl, fun x9 K hK => ?_⟩)
      ·skip
       have hb := x7.bw
       try replace Q8 := Lib.hid (Q8.out.bw hb)
       try replace Q9 := Lib.hid (Q9.out.bw hb)
       try replace Gc2 := Lib.hid (Gc2.out.bw hb)
       try replace Gc3 := Lib.hid (Gc3.out.bw hb)
       replace Bc := Lib.hid (Bc.out.trans hb)
       clear hb
       refine swLdO swTk rfl rfl (Gc3.out.range 1 [.bool ais, .int .i64 ac, .slice sa' na ca'] rfl) rfl ?_
       refine hK _ _ (Still.refl _ _) ?_
       clear hK K
       try simp only [Act.put, List.setIfInBounds_toArray, List.set_cons_succ, List.set_cons_zero]
       refine effect2 8 9 rfl rfl (by kernel_rfl) (by kernel_rfl) (by kernel_rfl) rfl rfl (fun x8 K hK => ?_) (fun x9 K hK => ?_)
       ·skip
        go_simp
        refine hK _ _ (Still.of_below ((Below.refl _ _).alloc (Nat.le_refl _) _)) ?_
        clear hK K
        have hb0 := x8.bw
        try have hne := Lib.hid (Nat.ne_of_gt (Q9.out.bw hb0).lt)
        have hzG8 := Lib.hid (Nat.le_trans Bc.out.size hb0.size)
        have hb := hb0.trans ((BW.refl x8.now).alloc (o := .cells #[.bool false, .int .i64 0, .slice none 0 0] 41))
        clear hb0
        try replace Q8 := Lib.hid (Q8.out.bw hb)
        try replace Q9 := Lib.hid (Q9.out.bw hb)
        try replace Gc2 := Lib.hid (Gc2.out.bw hb)
        try replace Gc3 := Lib.hid (Gc3.out.bw hb)
        replace Bc := Lib.hid (Bc.out.trans hb)
        clear hb
        have Q8 := Lib.hid (HpB.new x8.now (.cells #[.bool false, .int .i64 0, .slice none 0 0] 41))
        generalize x8.now.alloc (.cells #[.bool false, .int .i64 0, .slice none 0 0] 41) = wn8 at *
        generalize x8.now.heap.size = g8 at *
        try simp only [Act.put, List.setIfInBounds_toArray, List.set_cons_succ, List.set_cons_zero]
        refine effect 9 rfl (by kernel_rfl) (by kernel_rfl) rfl (fun x9 K hK => ?_)
        go_simp
        refine hK _ _ (Still.of_below ((Below.refl _ _).alloc (Nat.le_refl _) _)) ?_
        clear hK K
        have hb0 := x9.bw
        try have hne := Lib.hid (Nat.ne_of_lt (Q8.out.bw hb0).lt)
        have hzG9 := Lib.hid (Nat.le_trans Bc.out.size hb0.size)
        have hb := hb0.trans ((BW.refl x9.now).alloc (o := .cells #[.bool false, .int .i64 0, .slice none 0 0] 41))
        clear hb0
        try replace Q8 := Lib.hid (Q8.out.bw hb)
        try replace Q9 := Lib.hid (Q9.out.bw hb)
        try replace Gc2 := Lib.hid (Gc2.out.bw hb)
        try replace Gc3 := Lib.hid (Gc3.out.bw hb)
        replace Bc := Lib.hid (Bc.out.trans hb)
        clear hb
        have Q9 := Lib.hid (HpB.new x9.now (.cells #[.bool false, .int .i64 0, .slice none 0 0] 41))
        generalize x9.now.alloc (.cells #[.bool false, .int .i64 0, .slice none 0 0] 41) = wn9 at *
        generalize x9.now.heap.size = g9 at *
        try simp only [Act.put, List.setIfInBounds_toArray, List.set_cons_succ, List.set_cons_zero]
        refine effectL 10 rfl (by kernel_rfl) rfl (by kernel_rfl) rfl (fun x10 K hK => ?_)
        have hb := x10.bw
        try replace Q8 := Lib.hid (Q8.out.bw hb)
        try replace Q9 := Lib.hid (Q9.out.bw hb)
        try replace Gc2 := Lib.hid (Gc2.out.bw hb)
        try replace Gc3 := Lib.hid (Gc3.out.bw hb)
        replace Bc := Lib.hid (Bc.out.trans hb)
        clear hb
        have hst := still_rowS x10.now g8 #[.bool ais, .int .i64 ac, .slice sa na ca]
        have G2n := Lib.hid (Gc2.out.st hst (by simpa using (hp_ne Gc2.out Q8.out (by decide))))
        have G3n := Lib.hid (Gc3.out.st hst (by simpa using (hp_ne Gc3.out Q8.out (by decide))))
        have Q9n := Lib.hid (Q9.out.st hst (by simpa using (fun e => hne.out e.symm)))
        have Bn := Lib.hid (BW.stP Bc.out hst (fun k hk => by obtain rfl : k = g8 := (by simpa using hk); exact hzG8.out))
        have Q8n := Lib.hid (Q8.out.rowS #[.bool ais, .int .i64 ac, .slice sa na ca])
        have Gold := Q8
        clear hst Gc2 Gc3 Q8 Q9 Bc
        have Gc2 := G2n
        have Gc3 := G3n
        have Q8 := Q8n
        have Q9 := Q9n
        have Bc := Bn
        clear G2n G3n Q8n Q9n Bn
        refine swStO swTk rfl rfl rfl Gold.out rfl rfl (by kernel_rfl) ?_
        refine hK _ _ ?_
        clear hK K Gold
        generalize x10.now.setRow g8 #[.bool ais, .int .i64 ac, .slice sa na ca] = wk8 at *
        try simp only [Act.put, List.setIfInBounds_toArray, List.set_cons_succ, List.set_cons_zero]
        refine effectL 11 rfl (by kernel_rfl) rfl (by kernel_rfl) rfl (fun x11 K hK => ?_)
        have hb := x11.bw
        try replace Q8 := Lib.hid (Q8.out.bw hb)
        try replace Q9 := Lib.hid (Q9.out.bw hb)
        try replace Gc2 := Lib.hid (Gc2.out.bw hb)
        try replace Gc3 := Lib.hid (Gc3.out.bw hb)
        replace Bc := Lib.hid (Bc.out.trans hb)
        clear hb
        have hst := still_rowS x11.now g9 #[.bool ais, .int .i64 ac, .slice sa' na ca']
        have Q8n := Lib.hid (Q8.out.st hst (by simpa using (fun e => hne.out e)))
        have Bn := Lib.hid (BW.stP Bc.out hst (fun k hk => by obtain rfl : k = g9 := (by simpa using hk); exact hzG9.out))
        have Q9n := Lib.hid (Q9.out.rowS #[.bool ais, .int .i64 ac, .slice sa' na ca'])
        have Gold := Q9
        clear hst Gc2 Gc3 Q8 Q9 Bc
        have Q8 := Q8n
        have Q9 := Q9n
        have Bc := Bn
        clear Q8n Q9n Bn
        refine swStO swTk rfl rfl rfl Gold.out rfl rfl (by kernel_rfl) ?_
        refine hK _ _ ?_
        clear hK K Gold
        generalize x11.now.setRow g9 #[.bool ais, .int .i64 ac, .slice sa' na ca'] = wk9 at *
        try simp only [Act.put, List.setIfInBounds_toArray, List.set_cons_succ, List.set_cons_zero]
        refine done (by kernel_rfl) (fun xr => ?_)
        have P8 := Lib.hid (Q8.out.bw xr.bw)
        have P9 := Lib.hid (Q9.out.bw xr.bw)
        have BB := Lib.hid (Bc.out.trans xr.bw)
        generalize xr.now = w10 at *
        go_wp2_with fail
        go_meet
        exact ⟨g8, g9, rfl, rfl, P8, P9, BB⟩
       ·skip
        go_simp
        refine hK _ _ (Still.of_below ((Below.refl _ _).alloc (Nat.le_refl _) _)) ?_
        clear hK K
        have hb0 := x9.bw
        try have hne := Lib.hid (Nat.ne_of_lt (Q8.out.bw hb0).lt)
        have hzG9 := Lib.hid (Nat.le_trans Bc.out.size hb0.size)
        have hb := hb0.trans ((BW.refl x9.now).alloc (o := .cells #[.bool false, .int .i64 0, .slice none 0 0] 41))
        clear hb0
        try replace Q8 := Lib.hid (Q8.out.bw hb)
        try replace Q9 := Lib.hid (Q9.out.bw hb)
        try replace Gc2 := Lib.hid (Gc2.out.bw hb)
        try replace Gc3 := Lib.hid (Gc3.out.bw hb)
        replace Bc := Lib.hid (Bc.out.trans hb)
        clear hb
        have Q9 := Lib.hid (HpB.new x9.now (.cells #[.bool false, .int .i64 0, .slice none 0 0] 41))
        generalize x9.now.alloc (.cells #[.bool false, .int .i64 0, .slice none 0 0] 41) = wn9 at *
        generalize x9.now.heap.size = g9 at *
        try simp only [Act.put, List.setIfInBounds_toArray, List.set_cons_succ, List.set_cons_zero]
        refine effect 8 rfl (by kernel_rfl) (by kernel_rfl) rfl (fun x8 K hK => ?_)
        go_simp
        refine hK _ _ (Still.of_below ((Below.refl _ _).alloc (Nat.le_refl _) _)) ?_
        clear hK K
        have hb0 := x8.bw
        try have hne := Lib.hid (Nat.ne_of_gt (Q9.out.bw hb0).lt)
        have hzG8 := Lib.hid (Nat.le_trans Bc.out.size hb0.size)
        have hb := hb0.trans ((BW.refl x8.now).alloc (o := .cells #[.bool false, .int .i64 0, .slice none 0 0] 41))
        clear hb0
        try replace Q8 := Lib.hid (Q8.out.bw hb)
        try replace Q9 := Lib.hid (Q9.out.bw hb)
        try replace Gc2 := Lib.hid (Gc2.out.bw hb)
        try replace Gc3 := Lib.hid (Gc3.out.bw hb)
        replace Bc := Lib.hid (Bc.out.trans hb)
        clear hb
        have Q8 := Lib.hid (HpB.new x8.now (.cells #[.bool false, .int .i64 0, .slice none 0 0] 41))
        generalize x8.now.alloc (.cells #[.bool false, .int .i64 0, .slice none 0 0] 41) = wn8 at *
        generalize x8.now.heap.size = g8 at *
        try simp only [Act.put, List.setIfInBounds_toArray, List.set_cons_succ, List.set_cons_zero]
        refine effectL 10 rfl (by kernel_rfl) rfl (by kernel_rfl) rfl (fun x10 K hK => ?_)
        have hb := x10.bw
        try replace Q8 := Lib.hid (Q8.out.bw hb)
        try replace Q9 := Lib.hid (Q9.out.bw hb)
        try replace Gc2 := Lib.hid (Gc2.out.bw hb)
        try replace Gc3 := Lib.hid (Gc3.out.bw hb)
        replace Bc := Lib.hid (Bc.out.trans hb)
        clear hb
        have hst := still_rowS x10.now g8 #[.bool ais, .int .i64 ac, .slice sa na ca]
        have G2n := Lib.hid (Gc2.out.st hst (by simpa using (hp_ne Gc2.out Q8.out (by decide))))
        have G3n := Lib.hid (Gc3.out.st hst (by simpa using (hp_ne Gc3.out Q8.out (by decide))))
        have Q9n := Lib.hid (Q9.out.st hst (by simpa using (fun e => hne.out e.symm)))
        have Bn := Lib.hid (BW.stP Bc.out hst (fun k hk => by obtain rfl : k = g8 := (by simpa using hk); exact hzG8.out))
        have Q8n := Lib.hid (Q8.out.rowS #[.bool ais, .int .i64 ac, .slice sa na ca])
        have Gold := Q8
        clear hst Gc2 Gc3 Q8 Q9 Bc
        have Gc2 := G2n
        have Gc3 := G3n
        have Q8 := Q8n
        have Q9 := Q9n
        have Bc := Bn
        clear G2n G3n Q8n Q9n Bn
        refine swStO swTk rfl rfl rfl Gold.out rfl rfl (by kernel_rfl) ?_
        refine hK _ _ ?_
        clear hK K Gold
        generalize x10.now.setRow g8 #[.bool ais, .int .i64 ac, .slice sa na ca] = wk8 at *
        try simp only [Act.put, List.setIfInBounds_toArray, List.set_cons_succ, List.set_cons_zero]
        refine effectL 11 rfl (by kernel_rfl) rfl (by kernel_rfl) rfl (fun x11 K hK => ?_)
        have hb := x11.bw
        try replace Q8 := Lib.hid (Q8.out.bw hb)
        try replace Q9 := Lib.hid (Q9.out.bw hb)
        try replace Gc2 := Lib.hid (Gc2.out.bw hb)
        try replace Gc3 := Lib.hid (Gc3.out.bw hb)
        replace Bc := Lib.hid (Bc.out.trans hb)
        clear hb
        have hst := still_rowS x11.now g9 #[.bool ais, .int .i64 ac, .slice sa' na ca']
        have Q8n := Lib.hid (Q8.out.st hst (by simpa using (fun e => hne.out e)))
        have Bn := Lib.hid (BW.stP Bc.out hst (fun k hk => by obtain rfl : k = g9 := (by simpa using hk); exact hzG9.out))
        have Q9n := Lib.hid (Q9.out.rowS #[.bool ais, .int .i64 ac, .slice sa' na ca'])
        have Gold := Q9
        clear hst Gc2 Gc3 Q8 Q9 Bc
        have Q8 := Q8n
        have Q9 := Q9n
        have Bc := Bn
        clear Q8n Q9n Bn
        refine swStO swTk rfl rfl rfl Gold.out rfl rfl (by kernel_rfl) ?_
        refine hK _ _ ?_
        clear hK K Gold
        generalize x11.now.setRow g9 #[.bool ais, .int .i64 ac, .slice sa' na ca'] = wk9 at *
        try simp only [Act.put, List.setIfInBounds_toArray, List.set_cons_succ, List.set_cons_zero]
        refine done (by kernel_rfl) (fun xr => ?_)
        have P8 := Lib.hid (Q8.out.bw xr.bw)
        have P9 := Lib.hid (Q9.out.bw xr.bw)
        have BB := Lib.hid (Bc.out.trans xr.bw)
        generalize xr.now = w10 at *
        go_wp2_with fail
        go_meet
        exact ⟨g8, g9, rfl, rfl, P8, P9, BB⟩
      ·skip
       go_simp
       refine hK _ _ (Still.of_below ((Below.refl _ _).alloc (Nat.le_refl _) _)) ?_
       clear hK K
       have hb0 := x8.bw
       try have hne := Lib.hid (Nat.ne_of_gt (Q9.out.bw hb0).lt)
       have hzG8 := Lib.hid (Nat.le_trans Bc.out.size hb0.size)
       have hb := hb0.trans ((BW.refl x8.now).alloc (o := .cells #[.bool false, .int .i64 0, .slice none 0 0] 41))
       clear hb0
       try replace Q8 := Lib.hid (Q8.out.bw hb)
       try replace Q9 := Lib.hid (Q9.out.bw hb)
       try replace Gc2 := Lib.hid (Gc2.out.bw hb)
       try replace Gc3 := Lib.hid (Gc3.out.bw hb)
       replace Bc := Lib.hid (Bc.out.trans hb)
       clear hb
       have Q8 := Lib.hid (HpB.new x8.now (.cells #[.bool false, .int .i64 0, .slice none 0 0] 41))
       generalize x8.now.alloc (.cells #[.bool false, .int .i64 0, .slice none 0 0] 41) = wn8 at *
       generalize x8.now.heap.size = g8 at *
       try simp only [Act.put, List.setIfInBounds_toArray, List.set_cons_succ, List.set_cons_zero]
       refine effect2 7 9 rfl rfl (by kernel_rfl) (by kernel_rfl) (by kernel_rfl) rfl rfl (fun x7 K hK => ?_) (fun x9 K hK => ?_)
       ·skip
        have hb := x7.bw
        try replace Q8 := Lib.hid (Q8.out.bw hb)
        try replace Q9 := Lib.hid (Q9.out.bw hb)
        try replace Gc2 := Lib.hid (Gc2.out.bw hb)
        try replace Gc3 := Lib.hid (Gc3.out.bw hb)
        replace Bc := Lib.hid (Bc.out.trans hb)
        clear hb
        refine swLdO swTk rfl rfl (Gc3.out.range 1 [.bool ais, .int .i64 ac, .slice sa' na ca'] rfl) rfl ?_
        refine hK _ _ (Still.refl _ _) ?_
        clear hK K
        try simp only [Act.put, List.setIfInBounds_toArray, List.set_cons_succ, List.set_cons_zero]
        refine effect 9 rfl (by kernel_rfl) (by kernel_rfl) rfl (fun x9 K hK => ?_)
        go_simp
        refine hK _ _ (Still.of_below ((Below.refl _ _).alloc (Nat.le_refl _) _)) ?_
        clear hK K
        have hb0 := x9.bw
        try have hne := Lib.hid (Nat.ne_of_lt (Q8.out.bw hb0).lt)
        have hzG9 := Lib.hid (Nat.le_trans Bc.out.size hb0.size)
        have hb := hb0.trans ((BW.refl x9.now).alloc (o := .cells #[.bool false, .int .i64 0, .slice none 0 0] 41))
        clear hb0
        try replace Q8 := Lib.hid (Q8.out.bw hb)
        try replace Q9 := Lib.hid (Q9.out.bw hb)
        try replace Gc2 := Lib.hid (Gc2.out.bw hb)
        try replace Gc3 := Lib.hid (Gc3.out.bw hb)
        replace Bc := Lib.hid (Bc.out.trans hb)
        clear hb
        have Q9 := Lib.hid (HpB.new x9.now (.cells #[.bool false, .int .i64 0, .slice none 0 0] 41))
        generalize x9.now.alloc (.cells #[.bool false, .int .i64 0, .slice none 0 0] 41) = wn9 at *
        generalize x9.now.heap.size = g9 at *
        try simp only [Act.put, List.setIfInBounds_toArray, List.set_cons_succ, List.set_cons_zero]
        refine effectL 10 rfl (by kernel_rfl) rfl (by kernel_rfl) rfl (fun x10 K hK => ?_)
        have hb := x10.bw
        try replace Q8 := Lib.hid (Q8.out.bw hb)
        try replace Q9 := Lib.hid (Q9.out.bw hb)
        try replace Gc2 := Lib.hid (Gc2.out.bw hb)
        try replace Gc3 := Lib.hid (Gc3.out.bw hb)
        replace Bc := Lib.hid (Bc.out.trans hb)
        clear hb
        have hst := still_rowS x10.now g8 #[.bool ais, .int .i64 ac, .slice sa na ca]
        have G2n := Lib.hid (Gc2.out.st hst (by simpa using (hp_ne Gc2.out Q8.out (by decide))))
        have G3n := Lib.hid (Gc3.out.st hst (by simpa using (hp_ne Gc3.out Q8.out (by decide))))
        have Q9n := Lib.hid (Q9.out.st hst (by simpa using (fun e => hne.out e.symm)))
        have Bn := Lib.hid (BW.stP Bc.out hst (fun k hk => by obtain rfl : k = g8 := (by simpa using hk); exact hzG8.out))
        have Q8n := Lib.hid (Q8.out.rowS #[.bool ais, .int .i64 ac, .slice sa na ca])
        have Gold := Q8
        clear hst Gc2 Gc3 Q8 Q9 Bc
        have Gc2 := G2n
        have Gc3 := G3n
        have Q8 := Q8n
        have Q9 := Q9n
        have Bc := Bn
        clear G2n G3n Q8n Q9n Bn
        refine swStO swTk rfl rfl rfl Gold.out rfl rfl (by kernel_rfl) ?_
        refine hK _ _ ?_
        clear hK K Gold
        generalize x10.now.setRow g8 #[.bool ais, .int .i64 ac, .slice sa na ca] = wk8 at *
        try simp only [Act.put, List.setIfInBounds_toArray, List.set_cons_succ, List.set_cons_zero]
        refine effectL 11 rfl (by kernel_rfl) rfl (by kernel_rfl) rfl (fun x11 K hK => ?_)
        have hb := x11.bw
        try replace Q8 := Lib.hid (Q8.out.bw hb)
        try replace Q9 := Lib.hid (Q9.out.bw hb)
        try replace Gc2 := Lib.hid (Gc2.out.bw hb)
        try replace Gc3 := Lib.hid (Gc3.out.bw hb)
        replace Bc := Lib.hid (Bc.out.trans hb)
        clear hb
        have hst := still_rowS x11.now g9 #[.bool ais, .int .i64 ac, .slice sa' na ca']
        have Q8n := Lib.hid (Q8.out.st hst (by simpa using (fun e => hne.out e)))
        have Bn := Lib.hid (BW.stP Bc.out hst (fun k hk => by obtain rfl : k = g9 := (by simpa using hk); exact hzG9.out))
        have Q9n := Lib.hid (Q9.out.rowS #[.bool ais, .int .i64 ac, .slice sa' na ca'])
        have Gold := Q9
        clear hst Gc2 Gc3 Q8 Q9 Bc
        have Q8 := Q8n
        have Q9 := Q9n
        have Bc := Bn
        clear Q8n Q9n Bn
        refine swStO swTk rfl rfl rfl Gold.out rfl rfl (by kernel_rfl) ?_
        refine hK _ _ ?_
        clear hK K Gold
        generalize x11.now.setRow g9 #[.bool ais, .int .i64 ac, .slice sa' na ca'] = wk9 at *
        try simp only [Act.put, List.setIfInBounds_toArray, List.set_cons_succ, List.set_cons_zero]
        refine done (by kernel_rfl) (fun xr => ?_)
        have P8 := Lib.hid (Q8.out.bw xr.bw)
        have P9 := Lib.hid (Q9.out.bw xr.bw)
        have BB := Lib.hid (Bc.out.trans xr.bw)
        generalize xr.now = w10 at *
        go_wp2_with fail
        go_meet
        exact ⟨g8, g9, rfl, rfl, P8, P9, BB⟩
       ·skip
        go_simp
        refine hK _ _ (Still.of_below ((Below.refl _ _).alloc (Nat.le_refl _) _)) ?_
        clear hK K
        have hb0 := x9.bw
        try have hne := Lib.hid (Nat.ne_of_lt (Q8.out.bw hb0).lt)
        have hzG9 := Lib.hid (Nat.le_trans Bc.out.size hb0.size)
        have hb := hb0.trans ((BW.refl x9.now).alloc (o := .cells #[.bool false, .int .i64 0, .slice none 0 0] 41))
        clear hb0
        try replace Q8 := Lib.hid (Q8.out.bw hb)
        try replace Q9 := Lib.hid (Q9.out.bw hb)
        try replace Gc2 := Lib.hid (Gc2.out.bw hb)
        try replace Gc3 := Lib.hid (Gc3.out.bw hb)
        replace Bc := Lib.hid (Bc.out.trans hb)
        clear hb
        have Q9 := Lib.hid (HpB.new x9.now (.cells #[.bool false, .int .i64 0, .slice none 0 0] 41))
        generalize x9.now.alloc (.cells #[.bool false, .int .i64 0, .slice none 0 0] 41) = wn9 at *
        generalize x9.now.heap.size = g9 at *
        try simp only [Act.put, List.setIfInBounds_toArray, List.set_cons_succ, List.set_cons_zero]
        refine effectM [7, 10] (by kernel_rfl) (by simp) (by kernel_rfl) (mem2 ⟨_, rfl, rfl, fun x7 K hK => ?_⟩ ⟨_, rfl, rfl, fun x10 K hK => ?_⟩)
        ·skip
         have hb := x7.bw
         try replace Q8 := Lib.hid (Q8.out.bw hb)
         try replace Q9 := Lib.hid (Q9.out.bw hb)
         try replace Gc2 := Lib.hid (Gc2.out.bw hb)
         try replace Gc3 := Lib.hid (Gc3.out.bw hb)
         replace Bc := Lib.hid (Bc.out.trans hb)
         clear hb
         refine swLdO swTk rfl rfl (Gc3.out.range 1 [.bool ais, .int .i64 ac, .slice sa' na ca'] rfl) rfl ?_
         refine hK _ _ (Still.refl _ _) ?_
         clear hK K
         try simp only [Act.put, List.setIfInBounds_toArray, List.set_cons_succ, List.set_cons_zero]
         refine effectL 10 rfl (by kernel_rfl) rfl (by kernel_rfl) rfl (fun x10 K hK => ?_)
         have hb := x10.bw
         try replace Q8 := Lib.hid (Q8.out.bw hb)
         try replace Q9 := Lib.hid (Q9.out.bw hb)
         try replace Gc2 := Lib.hid (Gc2.out.bw hb)
         try replace Gc3 := Lib.hid (Gc3.out.bw hb)
         replace Bc := Lib.hid (Bc.out.trans hb)
         clear hb
         have hst := still_rowS x10.now g8 #[.bool ais, .int .i64 ac, .slice sa na ca]
         have G2n := Lib.hid (Gc2.out.st hst (by simpa using (hp_ne Gc2.out Q8.out (by decide))))
         have G3n := Lib.hid (Gc3.out.st hst (by simpa using (hp_ne Gc3.out Q8.out (by decide))))
         have Q9n := Lib.hid (Q9.out.st hst (by simpa using (fun e => hne.out e.symm)))
         have Bn := Lib.hid (BW.stP Bc.out hst (fun k hk => by obtain rfl : k = g8 := (by simpa using hk); exact hzG8.out))
         have Q8n := Lib.hid (Q8.out.rowS #[.bool ais, .int .i64 ac, .slice sa na ca])
         have Gold := Q8
         clear hst Gc2 Gc3 Q8 Q9 Bc
         have Gc2 := G2n
         have Gc3 := G3n
         have Q8 := Q8n
         have Q9 := Q9n
         have Bc := Bn
         clear G2n G3n Q8n Q9n Bn
         refine swStO swTk rfl rfl rfl Gold.out rfl rfl (by kernel_rfl) ?_
         refine hK _ _ ?_
         clear hK K Gold
         generalize x10.now.setRow g8 #[.bool ais, .int .i64 ac, .slice sa na ca] = wk8 at *
         try simp only [Act.put, List.setIfInBounds_toArray, List.set_cons_succ, List.set_cons_zero]
         refine effectL 11 rfl (by kernel_rfl) rfl (by kernel_rfl) rfl (fun x11 K hK => ?_)
         have hb := x11.bw
         try replace Q8 := Lib.hid (Q8.out.bw hb)
         try replace Q9 := Lib.hid (Q9.out.bw hb)
         try replace Gc2 := Lib.hid (Gc2.out.bw hb)
         try replace Gc3 := Lib.hid (Gc3.out.bw hb)
         replace Bc := Lib.hid (Bc.out.trans hb)
         clear hb
         have hst := still_rowS x11.now g9 #[.bool ais, .int .i64 ac, .slice sa' na ca']
         have Q8n := Lib.hid (Q8.out.st hst (by simpa using (fun e => hne.out e)))
         have Bn := Lib.hid (BW.stP Bc.out hst (fun k hk => by obtain rfl : k = g9 := (by simpa using hk); exact hzG9.out))
         have Q9n := Lib.hid (Q9.out.rowS #[.bool ais, .int .i64 ac, .slice sa' na ca'])
         have Gold := Q9
         clear hst Gc2 Gc3 Q8 Q9 Bc
         have Q8 := Q8n
         have Q9 := Q9n
         have Bc := Bn
         clear Q8n Q9n Bn
         refine swStO swTk rfl rfl rfl Gold.out rfl rfl (by kernel_rfl) ?_
         refine hK _ _ ?_
         clear hK K Gold
         generalize x11.now.setRow g9 #[.bool ais, .int .i64 ac, .slice sa' na ca'] = wk9 at *
         try simp only [Act.put, List.setIfInBounds_toArray, List.set_cons_succ, List.set_cons_zero]
         refine done (by kernel_rfl) (fun xr => ?_)
         have P8 := Lib.hid (Q8.out.bw xr.bw)
         have P9 := Lib.hid (Q9.out.bw xr.bw)
         have BB := Lib.hid (Bc.out.trans xr.bw)
         generalize xr.now = w10 at *
         go_wp2_with fail
         go_meet
         exact ⟨g8, g9, rfl, rfl, P8, P9, BB⟩
        ·skip
         replace hK := fun a' w' hg => hK a' w' trivial hg
         have hb := x10.bw
         try replace Q8 := Lib.hid (Q8.out.bw hb)
         try replace Q9 := Lib.hid (Q9.out.bw hb)
         try replace Gc2 := Lib.hid (Gc2.out.bw hb)
         try replace Gc3 := Lib.hid (Gc3.out.bw hb)
         replace Bc := Lib.hid (Bc.out.trans hb)
         clear hb
         have hst := still_rowS x10.now g8 #[.bool ais, .int .i64 ac, .slice sa na ca]
         have G2n := Lib.hid (Gc2.out.st hst (by simpa using (hp_ne Gc2.out Q8.out (by decide))))
         have G3n := Lib.hid (Gc3.out.st hst (by simpa using (hp_ne Gc3.out Q8.out (by decide))))
         have Q9n := Lib.hid (Q9.out.st hst (by simpa using (fun e => hne.out e.symm)))
         have Bn := Lib.hid (BW.stP Bc.out hst (fun k hk => by obtain rfl : k = g8 := (by simpa using hk); exact hzG8.out))
         have Q8n := Lib.hid (Q8.out.rowS #[.bool ais, .int .i64 ac, .slice sa na ca])
         have Gold := Q8
         clear hst Gc2 Gc3 Q8 Q9 Bc
         have Gc2 := G2n
         have Gc3 := G3n
         have Q8 := Q8n
         have Q9 := Q9n
         have Bc := Bn
         clear G2n G3n Q8n Q9n Bn
         refine swStO swTk rfl rfl rfl Gold.out rfl rfl (by kernel_rfl) ?_
         refine hK _ _ ?_
         clear hK K Gold
         generalize x10.now.setRow g8 #[.bool ais, .int .i64 ac, .slice sa na ca] = wk8 at *
         try simp only [Act.put, List.setIfInBounds_toArray, List.set_cons_succ, List.set_cons_zero]
         refine effect 7 rfl (by kernel_rfl) (by kernel_rfl) rfl (fun x7 K hK => ?_)
         have hb := x7.bw
         try replace Q8 := Lib.hid (Q8.out.bw hb)
         try replace Q9 := Lib.hid (Q9.out.bw hb)
         try replace Gc2 := Lib.hid (Gc2.out.bw hb)
         try replace Gc3 := Lib.hid (Gc3.out.bw hb)
         replace Bc := Lib.hid (Bc.out.trans hb)
         clear hb
         refine swLdO swTk rfl rfl (Gc3.out.range 1 [.bool ais, .int .i64 ac, .slice sa' na ca'] rfl) rfl ?_
         refine hK _ _ (Still.refl _ _) ?_
         clear hK K
         try simp only [Act.put, List.setIfInBounds_toArray, List.set_cons_succ, List.set_cons_zero]
         refine effectL 11 rfl (by kernel_rfl) rfl (by kernel_rfl) rfl (fun x11 K hK => ?_)
         have hb := x11.bw
         try replace Q8 := Lib.hid (Q8.out.bw hb)
         try replace Q9 := Lib.hid (Q9.out.bw hb)
         try replace Gc2 := Lib.hid (Gc2.out.bw hb)
         try replace Gc3 := Lib.hid (Gc3.out.bw hb)
         replace Bc := Lib.hid (Bc.out.trans hb)
         clear hb
         have hst := still_rowS x11.now g9 #[.bool ais, .int .i64 ac, .slice sa' na ca']
         have Q8n := Lib.hid (Q8.out.st hst (by simpa using (fun e => hne.out e)))
         have Bn := Lib.hid (BW.stP Bc.out hst (fun k hk => by obtain rfl : k = g9 := (by simpa using hk); exact hzG9.out))
         have Q9n := Lib.hid (Q9.out.rowS #[.bool ais, .int .i64 ac, .slice sa' na ca'])
         have Gold := Q9
         clear hst Gc2 Gc3 Q8 Q9 Bc
         have Q8 := Q8n
         have Q9 := Q9n
         have Bc := Bn
         clear Q8n Q9n Bn
         refine swStO swTk rfl rfl rfl Gold.out rfl rfl (by kernel_rfl) ?_
         refine hK _ _ ?_
         clear hK K Gold
         generalize x11.now.setRow g9 #[.bool ais, .int .i64 ac, .slice sa' na ca'] = wk9 at *
         try simp only [Act.put, List.setIfInBounds_toArray, List.set_cons_succ, List.set_cons_zero]
         refine done (by kernel_rfl) (fun xr => ?_)
         have P8 := Lib.hid (Q8.out.bw xr.bw)
         have P9 := Lib.hid (Q9.out.bw xr.bw)
         have BB := Lib.hid (Bc.out.trans xr.bw)
         generalize xr.now = w10 at *
         go_wp2_with fail
         go_meet
         exact ⟨g8, g9, rfl, rfl, P8, P9, BB⟩
      ·skip
       go_simp
       refine hK _ _ (Still.of_below ((Below.refl _ _).alloc (Nat.le_refl _) _)) ?_
       clear hK K
       have hb0 := x9.bw
       try have hne := Lib.hid (Nat.ne_of_lt (Q8.out.bw hb0).lt)
       have hzG9 := Lib.hid (Nat.le_trans Bc.out.size hb0.size)
       have hb := hb0.trans ((BW.refl x9.now).alloc (o := .cells #[.bool false, .int .i64 0, .slice none 0 0] 41))
       clear hb0
       try replace Q8 := Lib.hid (Q8.out.bw hb)
       try replace Q9 := Lib.hid (Q9.out.bw hb)
       try replace Gc2 := Lib.hid (Gc2.out.bw hb)
       try replace Gc3 := Lib.hid (Gc3.out.bw hb)
       replace Bc := Lib.hid (Bc.out.trans hb)
       clear hb
       have Q9 := Lib.hid (HpB.new x9.now (.cells #[.bool false, .int .i64 0, .slice none 0 0] 41))
       generalize x9.now.alloc (.cells #[.bool false, .int .i64 0, .slice none 0 0] 41) = wn9 at *
       generalize x9.now.heap.size = g9 at *
       try simp only [Act.put, List.setIfInBounds_toArray, List.set_cons_succ, List.set_cons_zero]
       refine effect2 7 8 rfl rfl (by kernel_rfl) (by kernel_rfl) (by kernel_rfl) rfl rfl (fun x7 K hK => ?_) (fun x8 K hK => ?_)
       ·skip
        have hb := x7.bw
        try replace Q8 := Lib.hid (Q8.out.bw hb)
        try replace Q9 := Lib.hid (Q9.out.bw hb)
        try replace Gc2 := Lib.hid (Gc2.out.bw hb)
        try replace Gc3 := Lib.hid (Gc3.out.bw hb)
        replace Bc := Lib.hid (Bc.out.trans hb)
        clear hb
        refine swLdO swTk rfl rfl (Gc3.out.range 1 [.bool ais, .int .i64 ac, .slice sa' na ca'] rfl) rfl ?_
        refine hK _ _ (Still.refl _ _) ?_
        clear hK K
        try simp only [Act.put, List.setIfInBounds_toArray, List.set_cons_succ, List.set_cons_zero]
        refine effect 8 rfl (by kernel_rfl) (by kernel_rfl) rfl (fun x8 K hK => ?_)
        go_simp
        refine hK _ _ (Still.of_below ((Below.refl _ _).alloc (Nat.le_refl _) _)) ?_
        clear hK K
        have hb0 := x8.bw
        try have hne := Lib.hid (Nat.ne_of_gt (Q9.out.bw hb0).lt)
        have hzG8 := Lib.hid (Nat.le_trans Bc.out.size hb0.size)
        have hb := hb0.trans ((BW.refl x8.now).alloc (o := .cells #[.bool false, .int .i64 0, .slice none 0 0] 41))
        clear hb0
        try replace Q8 := Lib.hid (Q8.out.bw hb)
        try replace Q9 := Lib.hid (Q9.out.bw hb)
        try replace Gc2 := Lib.hid (Gc2.out.bw hb)
        try replace Gc3 := Lib.hid (Gc3.out.bw hb)
        replace Bc := Lib.hid (Bc.out.trans hb)
        clear hb
        have Q8 := Lib.hid (HpB.new x8.now (.cells #[.bool false, .int .i64 0, .slice none 0 0] 41))
        generalize x8.now.alloc (.cells #[.bool false, .int .i64 0, .slice none 0 0] 41) = wn8 at *
        generalize x8.now.heap.size = g8 at *
        try simp only [Act.put, List.setIfInBounds_toArray, List.set_cons_succ, List.set_cons_zero]
        refine effectL 10 rfl (by kernel_rfl) rfl (by kernel_rfl) rfl (fun x10 K hK => ?_)
        have hb := x10.bw
        try replace Q8 := Lib.hid (Q8.out.bw hb)
        try replace Q9 := Lib.hid (Q9.out.bw hb)
        try replace Gc2 := Lib.hid (Gc2.out.bw hb)
        try replace Gc3 := Lib.hid (Gc3.out.bw hb)
        replace Bc := Lib.hid (Bc.out.trans hb)
        clear hb
        have hst := still_rowS x10.now g8 #[.bool ais, .int .i64 ac, .slice sa na ca]
        have G2n := Lib.hid (Gc2.out.st hst (by simpa using (hp_ne Gc2.out Q8.out (by decide))))
        have G3n := Lib.hid (Gc3.out.st hst (by simpa using (hp_ne Gc3.out Q8.out (by decide))))
        have Q9n := Lib.hid (Q9.out.st hst (by simpa using (fun e => hne.out e.symm)))
        have Bn := Lib.hid (BW.stP Bc.out hst (fun k hk => by obtain rfl : k = g8 := (by simpa using hk); exact hzG8.out))
        have Q8n := Lib.hid (Q8.out.rowS #[.bool ais, .int .i64 ac, .slice sa na ca])
        have Gold := Q8
        clear hst Gc2 Gc3 Q8 Q9 Bc
        have Gc2 := G2n
        have Gc3 := G3n
        have Q8 := Q8n
        have Q9 := Q9n
        have Bc := Bn
        clear G2n G3n Q8n Q9n Bn
        refine swStO swTk rfl rfl rfl Gold.out rfl rfl (by kernel_rfl) ?_
        refine hK _ _ ?_
        clear hK K Gold
        generalize x10.now.setRow g8 #[.bool ais, .int .i64 ac, .slice sa na ca] = wk8 at *
        try simp only [Act.put, List.setIfInBounds_toArray, List.set_cons_succ, List.set_cons_zero]
        refine effectL 11 rfl (by kernel_rfl) rfl (by kernel_rfl) rfl (fun x11 K hK => ?_)
        have hb := x11.bw
        try replace Q8 := Lib.hid (Q8.out.bw hb)
        try replace Q9 := Lib.hid (Q9.out.bw hb)
        try replace Gc2 := Lib.hid (Gc2.out.bw hb)
        try replace Gc3 := Lib.hid (Gc3.out.bw hb)
        replace Bc := Lib.hid (Bc.out.trans hb)
        clear hb
        have hst := still_rowS x11.now g9 #[.bool ais, .int .i64 ac, .slice sa' na ca']
        have Q8n := Lib.hid (Q8.out.st hst (by simpa using (fun e => hne.out e)))
        have Bn := Lib.hid (BW.stP Bc.out hst (fun k hk => by obtain rfl : k = g9 := (by simpa using hk); exact hzG9.out))
        have Q9n := Lib.hid (Q9.out.rowS #[.bool ais, .int .i64 ac, .slice sa' na ca'])
        have Gold := Q9
        clear hst Gc2 Gc3 Q8 Q9 Bc
        have Q8 := Q8n
        have Q9 := Q9n
        have Bc := Bn
        clear Q8n Q9n Bn
        refine swStO swTk rfl rfl rfl Gold.out rfl rfl (by kernel_rfl) ?_
        refine hK _ _ ?_
        clear hK K Gold
        generalize x11.now.setRow g9 #[.bool ais, .int .i64 ac, .slice sa' na ca'] = wk9 at *
        try simp only [Act.put, List.setIfInBounds_toArray, List.set_cons_succ, List.set_cons_zero]
        refine done (by kernel_rfl) (fun xr => ?_)
        have P8 := Lib.hid (Q8.out.bw xr.bw)
        have P9 := Lib.hid (Q9.out.bw xr.bw)
        have BB := Lib.hid (Bc.out.trans xr.bw)
        generalize xr.now = w10 at *
        go_wp2_with fail
        go_meet
        exact ⟨g8, g9, rfl, rfl, P8, P9, BB⟩
       ·skip
        go_simp
        refine hK _ _ (Still.of_below ((Below.refl _ _).alloc (Nat.le_refl _) _)) ?_
        clear hK K
        have hb0 := x8.bw
        try have hne := Lib.hid (Nat.ne_of_gt (Q9.out.bw hb0).lt)
        have hzG8 := Lib.hid (Nat.le_trans Bc.out.size hb0.size)
        have hb := hb0.trans ((BW.refl x8.now).alloc (o := .cells #[.bool false, .int .i64 0, .slice none 0 0] 41))
        clear hb0
        try replace Q8 := Lib.hid (Q8.out.bw hb)
        try replace Q9 := Lib.hid (Q9.out.bw hb)
        try replace Gc2 := Lib.hid (Gc2.out.bw hb)
        try replace Gc3 := Lib.hid (Gc3.out.bw hb)
        replace Bc := Lib.hid (Bc.out.trans hb)
        clear hb
        have Q8 := Lib.hid (HpB.new x8.now (.cells #[.bool false, .int .i64 0, .slice none 0 0] 41))
        generalize x8.now.alloc (.cells #[.bool false, .int .i64 0, .slice none 0 0] 41) = wn8 at *
        generalize x8.now.heap.size = g8 at *
        try simp only [Act.put, List.setIfInBounds_toArray, List.set_cons_succ, List.set_cons_zero]
        refine effectM [7, 10] (by kernel_rfl) (by simp) (by kernel_rfl) (mem2 ⟨_, rfl, rfl, fun x7 K hK => ?_⟩ ⟨_, rfl, rfl, fun x10 K hK => ?_⟩)
        ·skip
         have hb := x7.bw
         try replace Q8 := Lib.hid (Q8.out.bw hb)
         try replace Q9 := Lib.hid (Q9.out.bw hb)
         try replace Gc2 := Lib.hid (Gc2.out.bw hb)
         try replace Gc3 := Lib.hid (Gc3.out.bw hb)
         replace Bc := Lib.hid (Bc.out.trans hb)
         clear hb
         refine swLdO swTk rfl rfl (Gc3.out.range 1 [.bool ais, .int .i64 ac, .slice sa' na ca'] rfl) rfl ?_
         refine hK _ _ (Still.refl _ _) ?_
         clear hK K
         try simp only [Act.put, List.setIfInBounds_toArray, List.set_cons_succ, List.set_cons_zero]
         refine effectL 10 rfl (by kernel_rfl) rfl (by kernel_rfl) rfl (fun x10 K hK => ?_)
         have hb := x10.bw
         try replace Q8 := Lib.hid (Q8.out.bw hb)
         try replace Q9 := Lib.hid (Q9.out.bw hb)
         try replace Gc2 := Lib.hid (Gc2.out.bw hb)
         try replace Gc3 := Lib.hid (Gc3.out.bw hb)
         replace Bc := Lib.hid (Bc.out.trans hb)
         clear hb
         have hst := still_rowS x10.now g8 #[.bool ais, .int .i64 ac, .slice sa na ca]
         have G2n := Lib.hid (Gc2.out.st hst (by simpa using (hp_ne Gc2.out Q8.out (by decide))))
         have G3n := Lib.hid (Gc3.out.st hst (by simpa using (hp_ne Gc3.out Q8.out (by decide))))
         have Q9n := Lib.hid (Q9.out.st hst (by simpa using (fun e => hne.out e.symm)))
         have Bn := Lib.hid (BW.stP Bc.out hst (fun k hk => by obtain rfl : k = g8 := (by simpa using hk); exact hzG8.out))
         have Q8n := Lib.hid (Q8.out.rowS #[.bool ais, .int .i64 ac, .slice sa na ca])
         have Gold := Q8
         clear hst Gc2 Gc3 Q8 Q9 Bc
         have Gc2 := G2n
         have Gc3 := G3n
         have Q8 := Q8n
         have Q9 := Q9n
         have Bc := Bn
         clear G2n G3n Q8n Q9n Bn
         refine swStO swTk rfl rfl rfl Gold.out rfl rfl (by kernel_rfl) ?_
         refine hK _ _ ?_
         clear hK K Gold
         generalize x10.now.setRow g8 #[.bool ais, .int .i64 ac, .slice sa na ca] = wk8 at *
         try simp only [Act.put, List.setIfInBounds_toArray, List.set_cons_succ, List.set_cons_zero]
         refine effectL 11 rfl (by kernel_rfl) rfl (by kernel_rfl) rfl (fun x11 K hK => ?_)
         have hb := x11.bw
         try replace Q8 := Lib.hid (Q8.out.bw hb)
         try replace Q9 := Lib.hid (Q9.out.bw hb)
         try replace Gc2 := Lib.hid (Gc2.out.bw hb)
         try replace Gc3 := Lib.hid (Gc3.out.bw hb)
         replace Bc := Lib.hid (Bc.out.trans hb)
         clear hb
         have hst := still_rowS x11.now g9 #[.bool ais, .int .i64 ac, .slice sa' na ca']
         have Q8n := Lib.hid (Q8.out.st hst (by simpa using (fun e => hne.out e)))
         have Bn := Lib.hid (BW.stP Bc.out hst (fun k hk => by obtain rfl : k = g9 := (by simpa using hk); exact hzG9.out))
         have Q9n := Lib.hid (Q9.out.rowS #[.bool ais, .int .i64 ac, .slice sa' na ca'])
         have Gold := Q9
         clear hst Gc2 Gc3 Q8 Q9 Bc
         have Q8 := Q8n
         have Q9 := Q9n
         have Bc := Bn
         clear Q8n Q9n Bn
         refine swStO swTk rfl rfl rfl Gold.out rfl rfl (by kernel_rfl) ?_
         refine hK _ _ ?_
         clear hK K Gold
         generalize x11.now.setRow g9 #[.bool ais, .int .i64 ac, .slice sa' na ca'] = wk9 at *
         try simp only [Act.put, List.setIfInBounds_toArray, List.set_cons_succ, List.set_cons_zero]
         refine done (by kernel_rfl) (fun xr => ?_)
         have P8 := Lib.hid (Q8.out.bw xr.bw)
         have P9 := Lib.hid (Q9.out.bw xr.bw)
         have BB := Lib.hid (Bc.out.trans xr.bw)
         generalize xr.now = w10 at *
         go_wp2_with fail
         go_meet
         exact ⟨g8, g9, rfl, rfl, P8, P9, BB⟩
        ·skip
         replace hK := fun a' w' hg => hK a' w' trivial hg
         have hb := x10.bw
         try replace Q8 := Lib.hid (Q8.out.bw hb)
         try replace Q9 := Lib.hid (Q9.out.bw hb)
         try replace Gc2 := Lib.hid (Gc2.out.bw hb)
         try replace Gc3 := Lib.hid (Gc3.out.bw hb)
         replace Bc := Lib.hid (Bc.out.trans hb)
         clear hb
         have hst := still_rowS x10.now g8 #[.bool ais, .int .i64 ac, .slice sa na ca]
         have G2n := Lib.hid (Gc2.out.st hst (by simpa using (hp_ne Gc2.out Q8.out (by decide))))
         have G3n := Lib.hid (Gc3.out.st hst (by simpa using (hp_ne Gc3.out Q8.out (by decide))))
         have Q9n := Lib.hid (Q9.out.st hst (by simpa using (fun e => hne.out e.symm)))
         have Bn := Lib.hid (BW.stP Bc.out hst (fun k hk => by obtain rfl : k = g8 := (by simpa using hk); exact hzG8.out))
         have Q8n := Lib.hid (Q8.out.rowS #[.bool ais, .int .i64 ac, .slice sa na ca])
         have Gold := Q8
         clear hst Gc2 Gc3 Q8 Q9 Bc
         have Gc2 := G2n
         have Gc3 := G3n
         have Q8 := Q8n
         have Q9 := Q9n
         have Bc := Bn
         clear G2n G3n Q8n Q9n Bn
         refine swStO swTk rfl rfl rfl Gold.out rfl rfl (by kernel_rfl) ?_
         refine hK _ _ ?_
         clear hK K Gold
         generalize x10.now.setRow g8 #[.bool ais, .int .i64 ac, .slice sa na ca] = wk8 at *
         try simp only [Act.put, List.setIfInBounds_toArray, List.set_cons_succ, List.set_cons_zero]
         refine effect 7 rfl (by kernel_rfl) (by kernel_rfl) rfl (fun x7 K hK => ?_)
         have hb := x7.bw
         try replace Q8 := Lib.hid (Q8.out.bw hb)
         try replace Q9 := Lib.hid (Q9.out.bw hb)
         try replace Gc2 := Lib.hid (Gc2.out.bw hb)
         try replace Gc3 := Lib.hid (Gc3.out.bw hb)
         replace Bc := Lib.hid (Bc.out.trans hb)
         clear hb
         refine swLdO swTk rfl rfl (Gc3.out.range 1 [.bool ais, .int .i64 ac, .slice sa' na ca'] rfl) rfl ?_
         refine hK _ _ (Still.refl _ _) ?_
         clear hK K
         try simp only [Act.put, List.setIfInBounds_toArray, List.set_cons_succ, List.set_cons_zero]
         refine effectL 11 rfl (by kernel_rfl) rfl (by kernel_rfl) rfl (fun x11 K hK => ?_)
         have hb := x11.bw
         try replace Q8 := Lib.hid (Q8.out.bw hb)
         try replace Q9 := Lib.hid (Q9.out.bw hb)
         try replace Gc2 := Lib.hid (Gc2.out.bw hb)
         try replace Gc3 := Lib.hid (Gc3.out.bw hb)
         replace Bc := Lib.hid (Bc.out.trans hb)
         clear hb
         have hst := still_rowS x11.now g9 #[.bool ais, .int .i64 ac, .slice sa' na ca']
         have Q8n := Lib.hid (Q8.out.st hst (by simpa using (fun e => hne.out e)))
         have Bn := Lib.hid (BW.stP Bc.out hst (fun k hk => by obtain rfl : k = g9 := (by simpa using hk); exact hzG9.out))
         have Q9n := Lib.hid (Q9.out.rowS #[.bool ais, .int .i64 ac, .slice sa' na ca'])
         have Gold := Q9
         clear hst Gc2 Gc3 Q8 Q9 Bc
         have Q8 := Q8n
         have Q9 := Q9n
         have Bc := Bn
         clear Q8n Q9n Bn
         refine swStO swTk rfl rfl rfl Gold.out rfl rfl (by kernel_rfl) ?_
         refine hK _ _ ?_
         clear hK K Gold
         generalize x11.now.setRow g9 #[.bool ais, .int .i64 ac, .slice sa' na ca'] = wk9 at *
         try simp only [Act.put, List.setIfInBounds_toArray, List.set_cons_succ, List.set_cons_zero]
         refine done (by kernel_rfl) (fun xr => ?_)
         have P8 := Lib.hid (Q8.out.bw xr.bw)
         have P9 := Lib.hid (Q9.out.bw xr.bw)
         have BB := Lib.hid (Bc.out.trans xr.bw)
         generalize xr.now = w10 at *
         go_wp2_with fail
         go_meet
         exact ⟨g8, g9, rfl, rfl, P8, P9, BB⟩
     case rest =>
      obtain ⟨g7, g8, rfl, rfl, Y7, Y8, BZ⟩ := hcut
      have z0 := hp_cell (Y7.out) 0
      have z1 := hp_cell (Y7.out) 1
      have z2 := hp_cell (Y7.out) 2
      simp only [List.getElem?_toArray, List.getElem?_cons_zero, List.getElem?_cons_succ] at z0 z1 z2
      have y0 := hp_cell (Y8.out) 0
      have y1 := hp_cell (Y8.out) 1
      have y2 := hp_cell (Y8.out) 2
      simp only [List.getElem?_toArray, List.getElem?_cons_zero, List.getElem?_cons_succ] at y0 y1 y2
      have QA := Lib.hid (hA.out.bw BZ.out)
      have QB := Lib.hid (hA'.out.bw BZ.out)
      have hpl := hna
      go_upto_region 15 with (fail)
      clear z0 z1 z2 y0 y1 y2
      generalize ap = pl at *
      generalize na = np at *
      go_loopg [9] np (fun m' nx wx => ∃ i : Nat, m' = np - i ∧ i ≤ np ∧ nx = .int .i64 (i : Nat) ∧ Hid (BW wc wx))
      case atStart => exact ⟨0, by omega, by omega, rfl, BW.refl _⟩
      case round =>
       obtain ⟨i, rfl, hi, rfl, B10⟩ := hrel
       have z0 := hp_cell (Y7.out.bw B10.out) 0
       have z1 := hp_cell (Y7.out.bw B10.out) 1
       have z2 := hp_cell (Y7.out.bw B10.out) 2
       simp only [List.getElem?_toArray, List.getElem?_cons_zero, List.getElem?_cons_succ] at z0 z1 z2
       have y0 := hp_cell (Y8.out.bw B10.out) 0
       have y1 := hp_cell (Y8.out.bw B10.out) 1
       have y2 := hp_cell (Y8.out.bw B10.out) 2
       simp only [List.getElem?_toArray, List.getElem?_cons_zero, List.getElem?_cons_succ] at y0 y1 y2
       by_cases hin : i < np
       ·have d6 : decide ((i : Int) < (np : Int)) = true := by simp; omega
        have hil : i < pl.length := by rw [hpl.out]; exact hin
        obtain ⟨gp1, op1, rfl, hc1⟩ := i1_form (QA.out.bw B10.out) (by omega)
        obtain ⟨gp2, op2, rfl, hc2⟩ := i1_form (QB.out.bw B10.out) (by omega)
        have c1 := hc1 i hil
        have c2 := hc2 i hil
        generalize pl[i] = pv at *
        have d7 : (pv != pv) = false := by simp
        clear hc1 hc2
        go_upto_region 17 with (fail)
        have mz : ∀ y : LaterS [] wr, _ := fun y => y.bw.cell z2
        have my : ∀ y : LaterS [] wr, _ := fun y => y.bw.cell y2
        have m1 : ∀ y : LaterS [] wr, _ := fun y => y.bw.cell c1
        have m2 : ∀ y : LaterS [] wr, _ := fun y => y.bw.cell c2
        clear z0 z1 z2 y0 y1 y2 c1 c2
        try simp only [Act.put, List.setIfInBounds_toArray, List.set_cons_succ, List.set_cons_zero]
        refine wp_region_gg [] [] [] (by kernel_rfl) ?_
        refine hoist [] [] (a1 := ?_) 0 rfl (by kernel_rfl) (.inl ⟨rfl, rfl⟩) rfl rfl rfl (fun x K hK => ?_) ?_
        rotate_left
        ·go_big_quiet_op
         exact hK
        refine hoist [] [] (a1 := ?_) 1 rfl (by kernel_rfl) (.inl ⟨rfl, rfl⟩) rfl rfl rfl (fun x K hK => ?_) ?_
        rotate_left
        ·go_big_quiet_op
         exact hK
        refine hoist [] [] (a1 := ?_) 2 rfl (by kernel_rfl) (.inl ⟨rfl, rfl⟩) rfl rfl rfl (fun x K hK => ?_) ?_
        rotate_left
        ·go_big_quiet_op
         exact hK
        refine hoist [] [] (a1 := ?_) 3 rfl (by kernel_rfl) (.inl ⟨rfl, rfl⟩) rfl rfl rfl (fun x K hK => ?_) ?_
        rotate_left
        ·go_big_quiet_op
         exact hK
        refine hoist [] [] (a1 := ?_) 4 rfl (by kernel_rfl) (.inl ⟨rfl, rfl⟩) rfl rfl rfl (fun x K hK => ?_) ?_
        rotate_left
        ·go_big_quiet_op
         exact hK
        refine hoist [] [] (a1 := ?_) 5 rfl (by kernel_rfl) (.inl ⟨rfl, rfl⟩) rfl rfl rfl (fun x K hK => ?_) ?_
        rotate_left
        ·go_big_quiet_op
         exact hK
        refine hoist [] [] (a1 := ?_) 6 rfl (by kernel_rfl) (.inl ⟨rfl, rfl⟩) rfl rfl rfl (fun x K hK => ?_) ?_
        rotate_left
        ·go_big_quiet_op
         exact hK
        refine hoist [] [] (a1 := ?_) 7 rfl (by kernel_rfl) (.inl ⟨rfl, rfl⟩) rfl rfl rfl (fun x K hK => ?_) ?_
        rotate_left
        ·go_big_quiet_op
         exact hK
        refine hoist [] [] (a1 := ?_) 8 rfl (by kernel_rfl) (.inl ⟨rfl, rfl⟩) rfl rfl rfl (fun x K hK => ?_) ?_
        rotate_left
        ·go_big_quiet_op
         exact hK
        refine hoist [] [] (a1 := ?_) 9 rfl (by kernel_rfl) (.inl ⟨rfl, rfl⟩) rfl rfl rfl (fun x K hK => ?_) ?_
        rotate_left
        ·go_big_quiet_op
         exact hK
        refine hoist [] [] (a1 := ?_) 10 rfl (by kernel_rfl) (.inl ⟨rfl, rfl⟩) rfl rfl rfl (fun x K hK => ?_) ?_
        rotate_left
        ·go_big_quiet_op
         exact hK
        refine done (by kernel_rfl) (fun xr => ?_)
        replace B10 := Lib.hid (B10.out.trans xr.bw)
        clear mz my m1 m2
        generalize xr.now = w11 at *
        clear xr
        go_wp2_with fail
        go_roundg (np - (i + 1))
        case measure => omega
        case rel => exact ⟨i + 1, rfl, by omega, by first | rfl | (push_cast; rfl), B10⟩
       ·obtain rfl : i = np := by omega
        have d6 : decide ((i : Int) < (i : Int)) = false := by simp
        have B11 := Lib.hid (BZ.out.trans B10.out)
        go_wp2_with fail
        go_roundg 1
        case measure => omega
        case rel => exact ⟨1, rfl, by omega, rfl, B11⟩
    ·go_upto_region 11 with (fail)
     go_cut [7, 8] (fun a7 a8 wz => ∃ g7 g8 : Nat, a7 = .pointer (some ⟨g7, 0, none⟩) ∧ a8 = .pointer (some ⟨g8, 0, none⟩) ∧ Hid (HpB wz g7 (.cells #[.bool bis, .int .i64 bc, .slice sb nb cb] 41)) ∧ Hid (HpB wz g8 (.cells #[.bool bis, .int .i64 bc, .slice sb' nb cb'] 41)) ∧ Hid (BW w1 wz))
     case first =>
      have Gc2 := Lib.hid (G2.out.bw B3.out)
      have Gc3 := Lib.hid (G3.out.bw B3.out)
      have Bc := B3
      try simp only [Act.put, List.setIfInBounds_toArray, List.set_cons_succ, List.set_cons_zero]
      refine wp_region_gl [] [] [] [10, 11] (by kernel_rfl) ?_
      refine hoist [] [] (a1 := ?_) 0 rfl (by kernel_rfl) (.inl ⟨rfl, rfl⟩) rfl rfl rfl (fun x K hK => ?_) ?_
      rotate_left
      ·go_big_quiet_op
       exact hK
      refine hoist [] [] (a1 := ?_) 1 rfl (by kernel_rfl) (.inl ⟨rfl, rfl⟩) rfl rfl rfl (fun x K hK => ?_) ?_
      rotate_left
      ·go_big_quiet_op
       exact hK
      refine hoist [] [] (a1 := ?_) 2 rfl (by kernel_rfl) (.inl ⟨rfl, rfl⟩) rfl rfl rfl (fun x K hK => ?_) ?_
      rotate_left
      ·go_big_quiet_op
       exact hK
      refine hoist [] [] (a1 := ?_) 3 rfl (by kernel_rfl) (.inl ⟨rfl, rfl⟩) rfl rfl rfl (fun x K hK => ?_) ?_
      rotate_left
      ·refine swQl swTk (l := [.bool bis, .int .i64 bc, .slice sb nb cb]) rfl (by rfl) rfl (fun w' hw => by subst hw; exact (Gc2.out.bw x.bw).range 4 _ rfl) (by simp only [Act.put, List.setIfInBounds_toArray, List.set_cons_succ, List.set_cons_zero]; rfl) ?_
       exact hK
      refine hoistP (a1 := ?_) 4 rfl (by kernel_rfl) rfl (fun x => rfl) ?_ ?_
      rotate_left
      ·simp only [Act.put, List.setIfInBounds_toArray, List.set_cons_succ, List.set_cons_zero]; rfl
      refine hoistP (a1 := ?_) 5 rfl (by kernel_rfl) rfl (fun x => rfl) ?_ ?_
      rotate_left
      ·simp only [Act.put, List.setIfInBounds_toArray, List.set_cons_succ, List.set_cons_zero]; rfl
      refine hoistP (a1 := ?_) 6 rfl (by kernel_rfl) rfl (fun x => rfl) ?_ ?_
      rotate_left
      ·simp only [Act.put, List.setIfInBounds_toArray, List.set_cons_succ, List.set_cons_zero]; rfl
      refine effectM [7, 8, 9] (by kernel_rfl) (by simp) (by kernel_rfl) (mem3 ⟨_, rfl, rfl, fun x7 K hK => ?_⟩ ⟨_, rfl, rfl, fun x8 K hK => ?_⟩ ⟨_, rfl, rfl, fun x9 K hK => ?_⟩)
      ·skip
       have hb := x7.bw
       try replace Q8 := Lib.hid (Q8.out.bw hb)
       try replace Q9 := Lib.hid (Q9.out.bw hb)
       try replace Gc2 := Lib.hid (Gc2.out.bw hb)
       try replace Gc3 := Lib.hid (Gc3.out.bw hb)
       replace Bc := Lib.hid (Bc.out.trans hb)
       clear hb
       refine swLdO swTk rfl rfl (Gc3.out.range 4 [.bool bis, .int .i64 bc, .slice sb' nb cb'] rfl) rfl ?_
       refine hK _ _ (Still.refl _ _) ?_
       clear hK K
       try simp only [Act.put, List.setIfInBounds_toArray, List.set_cons_succ, List.set_cons_zero]
       refine effect2 8 9 rfl rfl (by kernel_rfl) (by kernel_rfl) (by kernel_rfl) rfl rfl (fun x8 K hK => ?_) (fun x9 K hK => ?_)
       ·skip
        go_simp
        refine hK _ _ (Still.of_below ((Below.refl _ _).alloc (Nat.le_refl _) _)) ?_
        clear hK K
        have hb0 := x8.bw
        try have hne := Lib.hid (Nat.ne_of_gt (Q9.out.bw hb0).lt)
        have hzG8 := Lib.hid (Nat.le_trans Bc.out.size hb0.size)
        have hb := hb0.trans ((BW.refl x8.now).alloc (o := .cells #[.bool false, .int .i64 0, .slice none 0 0] 41))
        clear hb0
        try replace Q8 := Lib.hid (Q8.out.bw hb)
        try replace Q9 := Lib.hid (Q9.out.bw hb)
        try replace Gc2 := Lib.hid (Gc2.out.bw hb)
        try replace Gc3 := Lib.hid (Gc3.out.bw hb)
        replace Bc := Lib.hid (Bc.out.trans hb)
        clear hb
        have Q8 := Lib.hid (HpB.new x8.now (.cells #[.bool false, .int .i64 0, .slice none 0 0] 41))
        generalize x8.now.alloc (.cells #[.bool false, .int .i64 0, .slice none 0 0] 41) = wn8 at *
        generalize x8.now.heap.size = g8 at *
        try simp only [Act.put, List.setIfInBounds_toArray, List.set_cons_succ, List.set_cons_zero]
        refine effect 9 rfl (by kernel_rfl) (by kernel_rfl) rfl (fun x9 K hK => ?_)
        go_simp
        refine hK _ _ (Still.of_below ((Below.refl _ _).alloc (Nat.le_refl _) _)) ?_
        clear hK K
        have hb0 := x9.bw
        try have hne := Lib.hid (Nat.ne_of_lt (Q8.out.bw hb0).lt)
        have hzG9 := Lib.hid (Nat.le_trans Bc.out.size hb0.size)
        have hb := hb0.trans ((BW.refl x9.now).alloc (o := .cells #[.bool false, .int .i64 0, .slice none 0 0] 41))
        clear hb0
        try replace Q8 := Lib.hid (Q8.out.bw hb)
        try replace Q9 := Lib.hid (Q9.out.bw hb)
        try replace Gc2 := Lib.hid (Gc2.out.bw hb)
        try replace Gc3 := Lib.hid (Gc3.out.bw hb)
        replace Bc := Lib.hid (Bc.out.trans hb)
        clear hb
        have Q9 := Lib.hid (HpB.new x9.now (.cells #[.bool false, .int .i64 0, .slice none 0 0] 41))
        generalize x9.now.alloc (.cells #[.bool false, .int .i64 0, .slice none 0 0] 41) = wn9 at *
        generalize x9.now.heap.size = g9 at *
        try simp only [Act.put, List.setIfInBounds_toArray, List.set_cons_succ, List.set_cons_zero]
        refine effectL 10 rfl (by kernel_rfl) rfl (by kernel_rfl) rfl (fun x10 K hK => ?_)
        have hb := x10.bw
        try replace Q8 := Lib.hid (Q8.out.bw hb)
        try replace Q9 := Lib.hid (Q9.out.bw hb)
        try replace Gc2 := Lib.hid (Gc2.out.bw hb)
        try replace Gc3 := Lib.hid (Gc3.out.bw hb)
        replace Bc := Lib.hid (Bc.out.trans hb)
        clear hb
        have hst := still_rowS x10.now g8 #[.bool bis, .int .i64 bc, .slice sb nb cb]
        have G2n := Lib.hid (Gc2.out.st hst (by simpa using (hp_ne Gc2.out Q8.out (by decide))))
        have G3n := Lib.hid (Gc3.out.st hst (by simpa using (hp_ne Gc3.out Q8.out (by decide))))
        have Q9n := Lib.hid (Q9.out.st hst (by simpa using (fun e => hne.out e.symm)))
        have Bn := Lib.hid (BW.stP Bc.out hst (fun k hk => by obtain rfl : k = g8 := (by simpa using hk); exact hzG8.out))
        have Q8n := Lib.hid (Q8.out.rowS #[.bool bis, .int .i64 bc, .slice sb nb cb])
        have Gold := Q8
        clear hst Gc2 Gc3 Q8 Q9 Bc
        have Gc2 := G2n
        have Gc3 := G3n
        have Q8 := Q8n
        have Q9 := Q9n
        have Bc := Bn
        clear G2n G3n Q8n Q9n Bn
        refine swStO swTk rfl rfl rfl Gold.out rfl rfl (by kernel_rfl) ?_
        refine hK _ _ ?_
        clear hK K Gold
        generalize x10.now.setRow g8 #[.bool bis, .int .i64 bc, .slice sb nb cb] = wk8 at *
        try simp only [Act.put, List.setIfInBounds_toArray, List.set_cons_succ, List.set_cons_zero]
        refine effectL 11 rfl (by kernel_rfl) rfl (by kernel_rfl) rfl (fun x11 K hK => ?_)
        have hb := x11.bw
        try replace Q8 := Lib.hid (Q8.out.bw hb)
        try replace Q9 := Lib.hid (Q9.out.bw hb)
        try replace Gc2 := Lib.hid (Gc2.out.bw hb)
        try replace Gc3 := Lib.hid (Gc3.out.bw hb)
        replace Bc := Lib.hid (Bc.out.trans hb)
        clear hb
        have hst := still_rowS x11.now g9 #[.bool bis, .int .i64 bc, .slice sb' nb cb']
        have Q8n := Lib.hid (Q8.out.st hst (by simpa using (fun e => hne.out e)))
        have Bn := Lib.hid (BW.stP Bc.out hst (fun k hk => by obtain rfl : k = g9 := (by simpa using hk); exact hzG9.out))
        have Q9n := Lib.hid (Q9.out.rowS #[.bool bis, .int .i64 bc, .slice sb' nb cb'])
        have Gold := Q9
        clear hst Gc2 Gc3 Q8 Q9 Bc
        have Q8 := Q8n
        have Q9 := Q9n
        have Bc := Bn
        clear Q8n Q9n Bn
        refine swStO swTk rfl rfl rfl Gold.out rfl rfl (by kernel_rfl) ?_
        refine hK _ _ ?_
        clear hK K Gold
        generalize x11.now.setRow g9 #[.bool bis, .int .i64 bc, .slice sb' nb cb'] = wk9 at *
        try simp only [Act.put, List.setIfInBounds_toArray, List.set_cons_succ, List.set_cons_zero]
        refine done (by kernel_rfl) (fun xr => ?_)
        have P8 := Lib.hid (Q8.out.bw xr.bw)
        have P9 := Lib.hid (Q9.out.bw xr.bw)
        have BB := Lib.hid (Bc.out.trans xr.bw)
        generalize xr.now = w10 at *
        go_wp2_with fail
        go_meet
        exact ⟨g8, g9, rfl, rfl, P8, P9, BB⟩
       ·skip
        go_simp
        refine hK _ _ (Still.of_below ((Below.refl _ _).alloc (Nat.le_refl _) _)) ?_
        clear hK K
        have hb0 := x9.bw
        try have hne := Lib.hid (Nat.ne_of_lt (Q8.out.bw hb0).lt)
        have hzG9 := Lib.hid (Nat.le_trans Bc.out.size hb0.size)
        have hb := hb0.trans ((BW.refl x9.now).alloc (o := .cells #[.bool false, .int .i64 0, .slice none 0 0] 41))
        clear hb0
        try replace Q8 := Lib.hid (Q8.out.bw hb)
        try replace Q9 := Lib.hid (Q9.out.bw hb)
        try replace Gc2 := Lib.hid (Gc2.out.bw hb)
        try replace Gc3 := Lib.hid (Gc3.out.bw hb)
        replace Bc := Lib.hid (Bc.out.trans hb)
        clear hb
        have Q9 := Lib.hid (HpB.new x9.now (.cells #[.bool false, .int .i64 0, .slice none 0 0] 41))
        generalize x9.now.alloc (.cells #[.bool false, .int .i64 0, .slice none 0 0] 41) = wn9 at *
        generalize x9.now.heap.size = g9 at *
        try simp only [Act.put, List.setIfInBounds_toArray, List.set_cons_succ, List.set_cons_zero]
        refine effect 8 rfl (by kernel_rfl) (by kernel_rfl) rfl (fun x8 K hK => ?_)
        go_simp
        refine hK _ _ (Still.of_below ((Below.refl _ _).alloc (Nat.le_refl _) _)) ?_
        clear hK K
        have hb0 := x8.bw
        try have hne := Lib.hid (Nat.ne_of_gt (Q9.out.bw hb0).lt)
        have hzG8 := Lib.hid (Nat.le_trans Bc.out.size hb0.size)
        have hb := hb0.trans ((BW.refl x8.now).alloc (o := .cells #[.bool false, .int .i64 0, .slice none 0 0] 41))
        clear hb0
        try replace Q8 := Lib.hid (Q8.out.bw hb)
        try replace Q9 := Lib.hid (Q9.out.bw hb)
        try replace Gc2 := Lib.hid (Gc2.out.bw hb)
        try replace Gc3 := Lib.hid (Gc3.out.bw hb)
        replace Bc := Lib.hid (Bc.out.trans hb)
        clear hb
        have Q8 := Lib.hid (HpB.new x8.now (.cells #[.bool false, .int .i64 0, .slice none 0 0] 41))
        generalize x8.now.alloc (.cells #[.bool false, .int .i64 0, .slice none 0 0] 41) = wn8 at *
        generalize x8.now.heap.size = g8 at *
        try simp only [Act.put, List.setIfInBounds_toArray, List.set_cons_succ, List.set_cons_zero]
        refine effectL 10 rfl (by kernel_rfl) rfl (by kernel_rfl) rfl (fun x10 K hK => ?_)
        have hb := x10.bw
        try replace Q8 := Lib.hid (Q8.out.bw hb)
        try replace Q9 := Lib.hid (Q9.out.bw hb)
        try replace Gc2 := Lib.hid (Gc2.out.bw hb)
        try replace Gc3 := Lib.hid (Gc3.out.bw hb)
        replace Bc := Lib.hid (Bc.out.trans hb)
        clear hb
        have hst := still_rowS x10.now g8 #[.bool bis, .int .i64 bc, .slice sb nb cb]
        have G2n := Lib.hid (Gc2.out.st hst (by simpa using (hp_ne Gc2.out Q8.out (by decide))))
        have G3n := Lib.hid (Gc3.out.st hst (by simpa using (hp_ne Gc3.out Q8.out (by decide))))
        have Q9n := Lib.hid (Q9.out.st hst (by simpa using (fun e => hne.out e.symm)))
        have Bn := Lib.hid (BW.stP Bc.out hst (fun k hk => by obtain rfl : k = g8 := (by simpa using hk); exact hzG8.out))
        have Q8n := Lib.hid (Q8.out.rowS #[.bool bis, .int .i64 bc, .slice sb nb cb])
        have Gold := Q8
        clear hst Gc2 Gc3 Q8 Q9 Bc
        have Gc2 := G2n
        have Gc3 := G3n
        have Q8 := Q8n
        have Q9 := Q9n
        have Bc := Bn
        clear G2n G3n Q8n Q9n Bn
        refine swStO swTk rfl rfl rfl Gold.out rfl rfl (by kernel_rfl) ?_
        refine hK _ _ ?_
        clear hK K Gold
        generalize x10.now.setRow g8 #[.bool bis, .int .i64 bc, .slice sb nb cb] = wk8 at *
        try simp only [Act.put, List.setIfInBounds_toArray, List.set_cons_succ, List.set_cons_zero]
        refine effectL 11 rfl (by kernel_rfl) rfl (by kernel_rfl) rfl (fun x11 K hK => ?_)
        have hb := x11.bw
        try replace Q8 := Lib.hid (Q8.out.bw hb)
        try replace Q9 := Lib.hid (Q9.out.bw hb)
        try replace Gc2 := Lib.hid (Gc2.out.bw hb)
        try replace Gc3 := Lib.hid (Gc3.out.bw hb)
        replace Bc := Lib.hid (Bc.out.trans hb)
        clear hb
        have hst := still_rowS x11.now g9 #[.bool bis, .int .i64 bc, .slice sb' nb cb']
        have Q8n := Lib.hid (Q8.out.st hst (by simpa using (fun e => hne.out e)))
        have Bn := Lib.hid (BW.stP Bc.out hst (fun k hk => by obtain rfl : k = g9 := (by simpa using hk); exact hzG9.out))
        have Q9n := Lib.hid (Q9.out.rowS #[.bool bis, .int .i64 bc, .slice sb' nb cb'])
        have Gold := Q9
        clear hst Gc2 Gc3 Q8 Q9 Bc
        have Q8 := Q8n
        have Q9 := Q9n
        have Bc := Bn
        clear Q8n Q9n Bn
        refine swStO swTk rfl rfl rfl Gold.out rfl rfl (by kernel_rfl) ?_
        refine hK _ _ ?_
        clear hK K Gold
        generalize x11.now.setRow g9 #[.bool bis, .int .i64 bc, .slice sb' nb cb'] = wk9 at *
        try simp only [Act.put, List.setIfInBounds_toArray, List.set_cons_succ, List.set_cons_zero]
        refine done (by kernel_rfl) (fun xr => ?_)
        have P8 := Lib.hid (Q8.out.bw xr.bw)
        have P9 := Lib.hid (Q9.out.bw xr.bw)
        have BB := Lib.hid (Bc.out.trans xr.bw)
        generalize xr.now = w10 at *
        go_wp2_with fail
        go_meet
        exact ⟨g8, g9, rfl, rfl, P8, P9, BB⟩
      ·skip
       go_simp
       refine hK _ _ (Still.of_below ((Below.refl _ _).alloc (Nat.le_refl _) _)) ?_
       clear hK K
       have hb0 := x8.bw
       try have hne := Lib.hid (Nat.ne_of_gt (Q9.out.bw hb0).lt)
       have hzG8 := Lib.hid (Nat.le_trans Bc.out.size hb0.size)
       have hb := hb0.trans ((BW.refl x8.now).alloc (o := .cells #[.bool false, .int .i64 0, .slice none 0 0] 41))
       clear hb0
       try replace Q8 := Lib.hid (Q8.out.bw hb)
       try replace Q9 := Lib.hid (Q9.out.bw hb)
       try replace Gc2 := Lib.hid (Gc2.out.bw hb)
       try replace Gc3 := Lib.hid (Gc3.out.bw hb)
       replace Bc := Lib.hid (Bc.out.trans hb)
       clear hb
       have Q8 := Lib.hid (HpB.new x8.now (.cells #[.bool false, .int .i64 0, .slice none 0 0] 41))
       generalize x8.now.alloc (.cells #[.bool false, .int .i64 0, .slice none 0 0] 41) = wn8 at *
       generalize x8.now.heap.size = g8 at *
       try simp only [Act.put, List.setIfInBounds_toArray, List.set_cons_succ, List.set_cons_zero]
       refine effect2 7 9 rfl rfl (by kernel_rfl) (by kernel_rfl) (by kernel_rfl) rfl rfl (fun x7 K hK => ?_) (fun x9 K hK => ?_)
       ·skip
        have hb := x7.bw
        try replace Q8 := Lib.hid (Q8.out.bw hb)
        try replace Q9 := Lib.hid (Q9.out.bw hb)
        try replace Gc2 := Lib.hid (Gc2.out.bw hb)
        try replace Gc3 := Lib.hid (Gc3.out.bw hb)
        replace Bc := Lib.hid (Bc.out.trans hb)
        clear hb
        refine swLdO swTk rfl rfl (Gc3.out.range 4 [.bool bis, .int .i64 bc, .slice sb' nb cb'] rfl) rfl ?_
        refine hK _ _ (Still.refl _ _) ?_
        clear hK K
        try simp only [Act.put, List.setIfInBounds_toArray, List.set_cons_succ, List.set_cons_zero]
        refine effect 9 rfl (by kernel_rfl) (by kernel_rfl) rfl (fun x9 K hK => ?_)
        go_simp
        refine hK _ _ (Still.of_below ((Below.refl _ _).alloc (Nat.le_refl _) _)) ?_
        clear hK K
        have hb0 := x9.bw
        try have hne := Lib.hid (Nat.ne_of_lt (Q8.out.bw hb0).lt)
        have hzG9 := Lib.hid (Nat.le_trans Bc.out.size hb0.size)
        have hb := hb0.trans ((BW.refl x9.now).alloc (o := .cells #[.bool false, .int .i64 0, .slice none 0 0] 41))
        clear hb0
        try replace Q8 := Lib.hid (Q8.out.bw hb)
        try replace Q9 := Lib.hid (Q9.out.bw hb)
        try replace Gc2 := Lib.hid (Gc2.out.bw hb)
        try replace Gc3 := Lib.hid (Gc3.out.bw hb)
        replace Bc := Lib.hid (Bc.out.trans hb)
        clear hb
        have Q9 := Lib.hid (HpB.new x9.now (.cells #[.bool false, .int .i64 0, .slice none 0 0] 41))
        generalize x9.now.alloc (.cells #[.bool false, .int .i64 0, .slice none 0 0] 41) = wn9 at *
        generalize x9.now.heap.size = g9 at *
        try simp only [Act.put, List.setIfInBounds_toArray, List.set_cons_succ, List.set_cons_zero]
        refine effectL 10 rfl (by kernel_rfl) rfl (by kernel_rfl) rfl (fun x10 K hK => ?_)
        have hb := x10.bw
        try replace Q8 := Lib.hid (Q8.out.bw hb)
        try replace Q9 := Lib.hid (Q9.out.bw hb)
        try replace Gc2 := Lib.hid (Gc2.out.bw hb)
        try replace Gc3 := Lib.hid (Gc3.out.bw hb)
        replace Bc := Lib.hid (Bc.out.trans hb)
        clear hb
        have hst := still_rowS x10.now g8 #[.bool bis, .int .i64 bc, .slice sb nb cb]
        have G2n := Lib.hid (Gc2.out.st hst (by simpa using (hp_ne Gc2.out Q8.out (by decide))))
        have G3n := Lib.hid (Gc3.out.st hst (by simpa using (hp_ne Gc3.out Q8.out (by decide))))
        have Q9n := Lib.hid (Q9.out.st hst (by simpa using (fun e => hne.out e.symm)))
        have Bn := Lib.hid (BW.stP Bc.out hst (fun k hk => by obtain rfl : k = g8 := (by simpa using hk); exact hzG8.out))
        have Q8n := Lib.hid (Q8.out.rowS #[.bool bis, .int .i64 bc, .slice sb nb cb])
        have Gold := Q8
        clear hst Gc2 Gc3 Q8 Q9 Bc
        have Gc2 := G2n
        have Gc3 := G3n
        have Q8 := Q8n
        have Q9 := Q9n
        have Bc := Bn
        clear G2n G3n Q8n Q9n Bn
        refine swStO swTk rfl rfl rfl Gold.out rfl rfl (by kernel_rfl) ?_
        refine hK _ _ ?_
        clear hK K Gold
        generalize x10.now.setRow g8 #[.bool bis, .int .i64 bc, .slice sb nb cb] = wk8 at *
        try simp only [Act.put, List.setIfInBounds_toArray, List.set_cons_succ, List.set_cons_zero]
        refine effectL 11 rfl (by kernel_rfl) rfl (by kernel_rfl) rfl (fun x11 K hK => ?_)
        have hb := x11.bw
        try replace Q8 := Lib.hid (Q8.out.bw hb)
        try replace Q9 := Lib.hid (Q9.out.bw hb)
        try replace Gc2 := Lib.hid (Gc2.out.bw hb)
        try replace Gc3 := Lib.hid (Gc3.out.bw hb)
        replace Bc := Lib.hid (Bc.out.trans hb)
        clear hb
        have hst := still_rowS x11.now g9 #[.bool bis, .int .i64 bc, .slice sb' nb cb']
        have Q8n := Lib.hid (Q8.out.st hst (by simpa using (fun e => hne.out e)))
        have Bn := Lib.hid (BW.stP Bc.out hst (fun k hk => by obtain rfl : k = g9 := (by simpa using hk); exact hzG9.out))
        have Q9n := Lib.hid (Q9.out.rowS #[.bool bis, .int .i64 bc, .slice sb' nb cb'])
        have Gold := Q9
        clear hst Gc2 Gc3 Q8 Q9 Bc
        have Q8 := Q8n
        have Q9 := Q9n
        have Bc := Bn
        clear Q8n Q9n Bn
        refine swStO swTk rfl rfl rfl Gold.out rfl rfl (by kernel_rfl) ?_
        refine hK _ _ ?_
        clear hK K Gold
        generalize x11.now.setRow g9 #[.bool bis, .int .i64 bc, .slice sb' nb cb'] = wk9 at *
        try simp only [Act.put, List.setIfInBounds_toArray, List.set_cons_succ, List.set_cons_zero]
        refine done (by kernel_rfl) (fun xr => ?_)
        have P8 := Lib.hid (Q8.out.bw xr.bw)
        have P9 := Lib.hid (Q9.out.bw xr.bw)
        have BB := Lib.hid (Bc.out.trans xr.bw)
        generalize xr.now = w10 at *
        go_wp2_with fail
        go_meet
        exact ⟨g8, g9, rfl, rfl, P8, P9, BB⟩
       ·skip
        go_simp
        refine hK _ _ (Still.of_below ((Below.refl _ _).alloc (Nat.le_refl _) _)) ?_
        clear hK K
        have hb0 := x9.bw
        try have hne := Lib.hid (Nat.ne_of_lt (Q8.out.bw hb0).lt)
        have hzG9 := Lib.hid (Nat.le_trans Bc.out.size hb0.size)
        have hb := hb0.trans ((BW.refl x9.now).alloc (o := .cells #[.bool false, .int .i64 0, .slice none 0 0] 41))
        clear hb0
        try replace Q8 := Lib.hid (Q8.out.bw hb)
        try replace Q9 := Lib.hid (Q9.out.bw hb)
        try replace Gc2 := Lib.hid (Gc2.out.bw hb)
        try replace Gc3 := Lib.hid (Gc3.out.bw hb)
        replace Bc := Lib.hid (Bc.out.trans hb)
        clear hb
        have Q9 := Lib.hid (HpB.new x9.now (.cells #[.bool false, .int .i64 0, .slice none 0 0] 41))
        generalize x9.now.alloc (.cells #[.bool false, .int .i64 0, .slice none 0 0] 41) = wn9 at *
        generalize x9.now.heap.size = g9 at *
        try simp only [Act.put, List.setIfInBounds_toArray, List.set_cons_succ, List.set_cons_zero]
        refine effectM [7, 10] (by kernel_rfl) (by simp) (by kernel_rfl) (mem2 ⟨_, rfl, rfl, fun x7 K hK => ?_⟩ ⟨_, rfl, rfl, fun x10 K hK => ?_⟩)
        ·skip
         have hb := x7.bw
         try replace Q8 := Lib.hid (Q8.out.bw hb)
         try replace Q9 := Lib.hid (Q9.out.bw hb)
         try replace Gc2 := Lib.hid (Gc2.out.bw hb)
         try replace Gc3 := Lib.hid (Gc3.out.bw hb)
         replace Bc := Lib.hid (Bc.out.trans hb)
         clear hb
         refine swLdO swTk rfl rfl (Gc3.out.range 4 [.bool bis, .int .i64 bc, .slice sb' nb cb'] rfl) rfl ?_
         refine hK _ _ (Still.refl _ _) ?_
         clear hK K
         try simp only [Act.put, List.setIfInBounds_toArray, List.set_cons_succ, List.set_cons_zero]
         refine effectL 10 rfl (by kernel_rfl) rfl (by kernel_rfl) rfl (fun x10 K hK => ?_)
         have hb := x10.bw
         try replace Q8 := Lib.hid (Q8.out.bw hb)
         try replace Q9 := Lib.hid (Q9.out.bw hb)
         try replace Gc2 := Lib.hid (Gc2.out.bw hb)
         try replace Gc3 := Lib.hid (Gc3.out.bw hb)
         replace Bc := Lib.hid (Bc.out.trans hb)
         clear hb
         have hst := still_rowS x10.now g8 #[.bool bis, .int .i64 bc, .slice sb nb cb]
         have G2n := Lib.hid (Gc2.out.st hst (by simpa using (hp_ne Gc2.out Q8.out (by decide))))
         have G3n := Lib.hid (Gc3.out.st hst (by simpa using (hp_ne Gc3.out Q8.out (by decide))))
         have Q9n := Lib.hid (Q9.out.st hst (by simpa using (fun e => hne.out e.symm)))
         have Bn := Lib.hid (BW.stP Bc.out hst (fun k hk => by obtain rfl : k = g8 := (by simpa using hk); exact hzG8.out))
         have Q8n := Lib.hid (Q8.out.rowS #[.bool bis, .int .i64 bc, .slice sb nb cb])
         have Gold := Q8
         clear hst Gc2 Gc3 Q8 Q9 Bc
         have Gc2 := G2n
         have Gc3 := G3n
         have Q8 := Q8n
         have Q9 := Q9n
         have Bc := Bn
         clear G2n G3n Q8n Q9n Bn
         refine swStO swTk rfl rfl rfl Gold.out rfl rfl (by kernel_rfl) ?_
         refine hK _ _ ?_
         clear hK K Gold
         generalize x10.now.setRow g8 #[.bool bis, .int .i64 bc, .slice sb nb cb] = wk8 at *
         try simp only [Act.put, List.setIfInBounds_toArray, List.set_cons_succ, List.set_cons_zero]
         refine effectL 11 rfl (by kernel_rfl) rfl (by kernel_rfl) rfl (fun x11 K hK => ?_)
         have hb := x11.bw
         try replace Q8 := Lib.hid (Q8.out.bw hb)
         try replace Q9 := Lib.hid (Q9.out.bw hb)
         try replace Gc2 := Lib.hid (Gc2.out.bw hb)
         try replace Gc3 := Lib.hid (Gc3.out.bw hb)
         replace Bc := Lib.hid (Bc.out.trans hb)
         clear hb
         have hst := still_rowS x11.now g9 #[.bool bis, .int .i64 bc, .slice sb' nb cb']
         have Q8n := Lib.hid (Q8.out.st hst (by simpa using (fun e => hne.out e)))
         have Bn := Lib.hid (BW.stP Bc.out hst (fun k hk => by obtain rfl : k = g9 := (by simpa using hk); exact hzG9.out))
         have Q9n := Lib.hid (Q9.out.rowS #[.bool bis, .int .i64 bc, .slice sb' nb cb'])
         have Gold := Q9
         clear hst Gc2 Gc3 Q8 Q9 Bc
         have Q8 := Q8n
         have Q9 := Q9n
         have Bc := Bn
         clear Q8n Q9n Bn
         refine swStO swTk rfl rfl rfl Gold.out rfl rfl (by kernel_rfl) ?_
         refine hK _ _ ?_
         clear hK K Gold
         generalize x11.now.setRow g9 #[.bool bis, .int .i64 bc, .slice sb' nb cb'] = wk9 at *
         try simp only [Act.put, List.setIfInBounds_toArray, List.set_cons_succ, List.set_cons_zero]
         refine done (by kernel_rfl) (fun xr => ?_)
         have P8 := Lib.hid (Q8.out.bw xr.bw)
         have P9 := Lib.hid (Q9.out.bw xr.bw)
         have BB := Lib.hid (Bc.out.trans xr.bw)
         generalize xr.now = w10 at *
         go_wp2_with fail
         go_meet
         exact ⟨g8, g9, rfl, rfl, P8, P9, BB⟩
        ·skip
         replace hK := fun a' w' hg => hK a' w' trivial hg
         have hb := x10.bw
         try replace Q8 := Lib.hid (Q8.out.bw hb)
         try replace Q9 := Lib.hid (Q9.out.bw hb)
         try replace Gc2 := Lib.hid (Gc2.out.bw hb)
         try replace Gc3 := Lib.hid (Gc3.out.bw hb)
         replace Bc := Lib.hid (Bc.out.trans hb)
         clear hb
         have hst := still_rowS x10.now g8 #[.bool bis, .int .i64 bc, .slice sb nb cb]
         have G2n := Lib.hid (Gc2.out.st hst (by simpa using (hp_ne Gc2.out Q8.out (by decide))))
         have G3n := Lib.hid (Gc3.out.st hst (by simpa using (hp_ne Gc3.out Q8.out (by decide))))
         have Q9n := Lib.hid (Q9.out.st hst (by simpa using (fun e => hne.out e.symm)))
         have Bn := Lib.hid (BW.stP Bc.out hst (fun k hk => by obtain rfl : k = g8 := (by simpa using hk); exact hzG8.out))
         have Q8n := Lib.hid (Q8.out.rowS #[.bool bis, .int .i64 bc, .slice sb nb cb])
         have Gold := Q8
         clear hst Gc2 Gc3 Q8 Q9 Bc
         have Gc2 := G2n
         have Gc3 := G3n
         have Q8 := Q8n
         have Q9 := Q9n
         have Bc := Bn
         clear G2n G3n Q8n Q9n Bn
         refine swStO swTk rfl rfl rfl Gold.out rfl rfl (by kernel_rfl) ?_
         refine hK _ _ ?_
         clear hK K Gold
         generalize x10.now.setRow g8 #[.bool bis, .int .i64 bc, .slice sb nb cb] = wk8 at *
         try simp only [Act.put, List.setIfInBounds_toArray, List.set_cons_succ, List.set_cons_zero]
         refine effect 7 rfl (by kernel_rfl) (by kernel_rfl) rfl (fun x7 K hK => ?_)
         have hb := x7.bw
         try replace Q8 := Lib.hid (Q8.out.bw hb)
         try replace Q9 := Lib.hid (Q9.out.bw hb)
         try replace Gc2 := Lib.hid (Gc2.out.bw hb)
         try replace Gc3 := Lib.hid (Gc3.out.bw hb)
         replace Bc := Lib.hid (Bc.out.trans hb)
         clear hb
         refine swLdO swTk rfl rfl (Gc3.out.range 4 [.bool bis, .int .i64 bc, .slice sb' nb cb'] rfl) rfl ?_
         refine hK _ _ (Still.refl _ _) ?_
         clear hK K
         try simp only [Act.put, List.setIfInBounds_toArray, List.set_cons_succ, List.set_cons_zero]
         refine effectL 11 rfl (by kernel_rfl) rfl (by kernel_rfl) rfl (fun x11 K hK => ?_)
         have hb := x11.bw
         try replace Q8 := Lib.hid (Q8.out.bw hb)
         try replace Q9 := Lib.hid (Q9.out.bw hb)
         try replace Gc2 := Lib.hid (Gc2.out.bw hb)
         try replace Gc3 := Lib.hid (Gc3.out.bw hb)
         replace Bc := Lib.hid (Bc.out.trans hb)
         clear hb
         have hst := still_rowS x11.now g9 #[.bool bis, .int .i64 bc, .slice sb' nb cb']
         have Q8n := Lib.hid (Q8.out.st hst (by simpa using (fun e => hne.out e)))
         have Bn := Lib.hid (BW.stP Bc.out hst (fun k hk => by obtain rfl : k = g9 := (by simpa using hk); exact hzG9.out))
         have Q9n := Lib.hid (Q9.out.rowS #[.bool bis, .int .i64 bc, .slice sb' nb cb'])
         have Gold := Q9
         clear hst Gc2 Gc3 Q8 Q9 Bc
         have Q8 := Q8n
         have Q9 := Q9n
         have Bc := Bn
         clear Q8n Q9n Bn
         refine swStO swTk rfl rfl rfl Gold.out rfl rfl (by kernel_rfl) ?_
         refine hK _ _ ?_
         clear hK K Gold
         generalize x11.now.setRow g9 #[.bool bis, .int .i64 bc, .slice sb' nb cb'] = wk9 at *
         try simp only [Act.put, List.setIfInBounds_toArray, List.set_cons_succ, List.set_cons_zero]
         refine done (by kernel_rfl) (fun xr => ?_)
         have P8 := Lib.hid (Q8.out.bw xr.bw)
         have P9 := Lib.hid (Q9.out.bw xr.bw)
         have BB := Lib.hid (Bc.out.trans xr.bw)
         generalize xr.now = w10 at *
         go_wp2_with fail
         go_meet
         exact ⟨g8, g9, rfl, rfl, P8, P9, BB⟩
      ·skip
       go_simp
       refine hK _ _ (Still.of_below ((Below.refl _ _).alloc (Nat.le_refl _) _)) ?_
       clear hK K
       have hb0 := x9.bw
       try have hne := Lib.hid (Nat.ne_of_lt (Q8.out.bw hb0).lt)
       have hzG9 := Lib.hid (Nat.le_trans Bc.out.size hb0.size)
       have hb := hb0.trans ((BW.refl x9.now).alloc (o := .cells #[.bool false, .int .i64 0, .slice none 0 0] 41))
       clear hb0
       try replace Q8 := Lib.hid (Q8.out.bw hb)
       try replace Q9 := Lib.hid (Q9.out.bw hb)
       try replace Gc2 := Lib.hid (Gc2.out.bw hb)
       try replace Gc3 := Lib.hid (Gc3.out.bw hb)
       replace Bc := Lib.hid (Bc.out.trans hb)
       clear hb
       have Q9 := Lib.hid (HpB.new x9.now (.cells #[.bool false, .int .i64 0, .slice none 0 0] 41))
       generalize x9.now.alloc (.cells #[.bool false, .int .i64 0, .slice none 0 0] 41) = wn9 at *
       generalize x9.now.heap.size = g9 at *
       try simp only [Act.put, List.setIfInBounds_toArray, List.set_cons_succ, List.set_cons_zero]
       refine effect2 7 8 rfl rfl (by kernel_rfl) (by kernel_rfl) (by kernel_rfl) rfl rfl (fun x7 K hK => ?_) (fun x8 K hK => ?_)
       ·skip
        have hb := x7.bw
        try replace Q8 := Lib.hid (Q8.out.bw hb)
        try replace Q9 := Lib.hid (Q9.out.bw hb)
        try replace Gc2 := Lib.hid (Gc2.out.bw hb)
        try replace Gc3 := Lib.hid (Gc3.out.bw hb)
        replace Bc := Lib.hid (Bc.out.trans hb)
        clear hb
        refine swLdO swTk rfl rfl (Gc3.out.range 4 [.bool bis, .int .i64 bc, .slice sb' nb cb'] rfl) rfl ?_
        refine hK _ _ (Still.refl _ _) ?_
        clear hK K
        try simp only [Act.put, List.setIfInBounds_toArray, List.set_cons_succ, List.set_cons_zero]
        refine effect 8 rfl (by kernel_rfl) (by kernel_rfl) rfl (fun x8 K hK => ?_)
        go_simp
        refine hK _ _ (Still.of_below ((Below.refl _ _).alloc (Nat.le_refl _) _)) ?_
        clear hK K
        have hb0 := x8.bw
        try have hne := Lib.hid (Nat.ne_of_gt (Q9.out.bw hb0).lt)
        have hzG8 := Lib.hid (Nat.le_trans Bc.out.size hb0.size)
        have hb := hb0.trans ((BW.refl x8.now).alloc (o := .cells #[.bool false, .int .i64 0, .slice none 0 0] 41))
        clear hb0
        try replace Q8 := Lib.hid (Q8.out.bw hb)
        try replace Q9 := Lib.hid (Q9.out.bw hb)
        try replace Gc2 := Lib.hid (Gc2.out.bw hb)
        try replace Gc3 := Lib.hid (Gc3.out.bw hb)
        replace Bc := Lib.hid (Bc.out.trans hb)
        clear hb
        have Q8 := Lib.hid (HpB.new x8.now (.cells #[.bool false, .int .i64 0, .slice none 0 0] 41))
        generalize x8.now.alloc (.cells #[.bool false, .int .i64 0, .slice none 0 0] 41) = wn8 at *
        generalize x8.now.heap.size = g8 at *
        try simp only [Act.put, List.setIfInBounds_toArray, List.set_cons_succ, List.set_cons_zero]
        refine effectL 10 rfl (by kernel_rfl) rfl (by kernel_rfl) rfl (fun x10 K hK => ?_)
        have hb := x10.bw
        try replace Q8 := Lib.hid (Q8.out.bw hb)
        try replace Q9 := Lib.hid (Q9.out.bw hb)
        try replace Gc2 := Lib.hid (Gc2.out.bw hb)
        try replace Gc3 := Lib.hid (Gc3.out.bw hb)
        replace Bc := Lib.hid (Bc.out.trans hb)
        clear hb
        have hst := still_rowS x10.now g8 #[.bool bis, .int .i64 bc, .slice sb nb cb]
        have G2n := Lib.hid (Gc2.out.st hst (by simpa using (hp_ne Gc2.out Q8.out (by decide))))
        have G3n := Lib.hid (Gc3.out.st hst (by simpa using (hp_ne Gc3.out Q8.out (by decide))))
        have Q9n := Lib.hid (Q9.out.st hst (by simpa using (fun e => hne.out e.symm)))
        have Bn := Lib.hid (BW.stP Bc.out hst (fun k hk => by obtain rfl : k = g8 := (by simpa using hk); exact hzG8.out))
        have Q8n := Lib.hid (Q8.out.rowS #[.bool bis, .int .i64 bc, .slice sb nb cb])
        have Gold := Q8
        clear hst Gc2 Gc3 Q8 Q9 Bc
        have Gc2 := G2n
        have Gc3 := G3n
        have Q8 := Q8n
        have Q9 := Q9n
        have Bc := Bn
        clear G2n G3n Q8n Q9n Bn
        refine swStO swTk rfl rfl rfl Gold.out rfl rfl (by kernel_rfl) ?_
        refine hK _ _ ?_
        clear hK K Gold
        generalize x10.now.setRow g8 #[.bool bis, .int .i64 bc, .slice sb nb cb] = wk8 at *
        try simp only [Act.put, List.setIfInBounds_toArray, List.set_cons_succ, List.set_cons_zero]
        refine effectL 11 rfl (by kernel_rfl) rfl (by kernel_rfl) rfl (fun x11 K hK => ?_)
        have hb := x11.bw
        try replace Q8 := Lib.hid (Q8.out.bw hb)
        try replace Q9 := Lib.hid (Q9.out.bw hb)
        try replace Gc2 := Lib.hid (Gc2.out.bw hb)
        try replace Gc3 := Lib.hid (Gc3.out.bw hb)
        replace Bc := Lib.hid (Bc.out.trans hb)
        clear hb
        have hst := still_rowS x11.now g9 #[.bool bis, .int .i64 bc, .slice sb' nb cb']
        have Q8n := Lib.hid (Q8.out.st hst (by simpa using (fun e => hne.out e)))
        have Bn := Lib.hid (BW.stP Bc.out hst (fun k hk => by obtain rfl : k = g9 := (by simpa using hk); exact hzG9.out))
        have Q9n := Lib.hid (Q9.out.rowS #[.bool bis, .int .i64 bc, .slice sb' nb cb'])
        have Gold := Q9
        clear hst Gc2 Gc3 Q8 Q9 Bc
        have Q8 := Q8n
        have Q9 := Q9n
        have Bc := Bn
        clear Q8n Q9n Bn
        refine swStO swTk rfl rfl rfl Gold.out rfl rfl (by kernel_rfl) ?_
        refine hK _ _ ?_
        clear hK K Gold
        generalize x11.now.setRow g9 #[.bool bis, .int .i64 bc, .slice sb' nb cb'] = wk9 at *
        try simp only [Act.put, List.setIfInBounds_toArray, List.set_cons_succ, List.set_cons_zero]
        refine done (by kernel_rfl) (fun xr => ?_)
        have P8 := Lib.hid (Q8.out.bw xr.bw)
        have P9 := Lib.hid (Q9.out.bw xr.bw)
        have BB := Lib.hid (Bc.out.trans xr.bw)
        generalize xr.now = w10 at *
        go_wp2_with fail
        go_meet
        exact ⟨g8, g9, rfl, rfl, P8, P9, BB⟩
       ·skip
        go_simp
        refine hK _ _ (Still.of_below ((Below.refl _ _).alloc (Nat.le_refl _) _)) ?_
        clear hK K
        have hb0 := x8.bw
        try have hne := Lib.hid (Nat.ne_of_gt (Q9.out.bw hb0).lt)
        have hzG8 := Lib.hid (Nat.le_trans Bc.out.size hb0.size)
        have hb := hb0.trans ((BW.refl x8.now).alloc (o := .cells #[.bool false, .int .i64 0, .slice none 0 0] 41))
        clear hb0
        try replace Q8 := Lib.hid (Q8.out.bw hb)
        try replace Q9 := Lib.hid (Q9.out.bw hb)
        try replace Gc2 := Lib.hid (Gc2.out.bw hb)
        try replace Gc3 := Lib.hid (Gc3.out.bw hb)
        replace Bc := Lib.hid (Bc.out.trans hb)
        clear hb
        have Q8 := Lib.hid (HpB.new x8.now (.cells #[.bool false, .int .i64 0, .slice none 0 0] 41))
        generalize x8.now.alloc (.cells #[.bool false, .int .i64 0, .slice none 0 0] 41) = wn8 at *
        generalize x8.now.heap.size = g8 at *
        try simp only [Act.put, List.setIfInBounds_toArray, List.set_cons_succ, List.set_cons_zero]
        refine effectM [7, 10] (by kernel_rfl) (by simp) (by kernel_rfl) (mem2 ⟨_, rfl, rfl, fun x7 K hK => ?_⟩ ⟨_, rfl, rfl, fun x10 K hK => ?_⟩)
        ·skip
         have hb := x7.bw
         try replace Q8 := Lib.hid (Q8.out.bw hb)
         try replace Q9 := Lib.hid (Q9.out.bw hb)
         try replace Gc2 := Lib.hid (Gc2.out.bw hb)
         try replace Gc3 := Lib.hid (Gc3.out.bw hb)
         replace Bc := Lib.hid (Bc.out.trans hb)
         clear hb
         refine swLdO swTk rfl rfl (Gc3.out.range 4 [.bool bis, .int .i64 bc, .slice sb' nb cb'] rfl) rfl ?_
         refine hK _ _ (Still.refl _ _) ?_
         clear hK K
         try simp only [Act.put, List.setIfInBounds_toArray, List.set_cons_succ, List.set_cons_zero]
         refine effectL 10 rfl (by kernel_rfl) rfl (by kernel_rfl) rfl (fun x10 K hK => ?_)
         have hb := x10.bw
         try replace Q8 := Lib.hid (Q8.out.bw hb)
         try replace Q9 := Lib.hid (Q9.out.bw hb)
         try replace Gc2 := Lib.hid (Gc2.out.bw hb)
         try replace Gc3 := Lib.hid (Gc3.out.bw hb)
         replace Bc := Lib.hid (Bc.out.trans hb)
         clear hb
         have hst := still_rowS x10.now g8 #[.bool bis, .int .i64 bc, .slice sb nb cb]
         have G2n := Lib.hid (Gc2.out.st hst (by simpa using (hp_ne Gc2.out Q8.out (by decide))))
         have G3n := Lib.hid (Gc3.out.st hst (by simpa using (hp_ne Gc3.out Q8.out (by decide))))
         have Q9n := Lib.hid (Q9.out.st hst (by simpa using (fun e => hne.out e.symm)))
         have Bn := Lib.hid (BW.stP Bc.out hst (fun k hk => by obtain rfl : k = g8 := (by simpa using hk); exact hzG8.out))
         have Q8n := Lib.hid (Q8.out.rowS #[.bool bis, .int .i64 bc, .slice sb nb cb])
         have Gold := Q8
         clear hst Gc2 Gc3 Q8 Q9 Bc
         have Gc2 := G2n
         have Gc3 := G3n
         have Q8 := Q8n
         have Q9 := Q9n
         have Bc := Bn
         clear G2n G3n Q8n Q9n Bn
         refine swStO swTk rfl rfl rfl Gold.out rfl rfl (by kernel_rfl) ?_
         refine hK _ _ ?_
         clear hK K Gold
         generalize x10.now.setRow g8 #[.bool bis, .int .i64 bc, .slice sb nb cb] = wk8 at *
         try simp only [Act.put, List.setIfInBounds_toArray, List.set_cons_succ, List.set_cons_zero]
         refine effectL 11 rfl (by kernel_rfl) rfl (by kernel_rfl) rfl (fun x11 K hK => ?_)
         have hb := x11.bw
         try replace Q8 := Lib.hid (Q8.out.bw hb)
         try replace Q9 := Lib.hid (Q9.out.bw hb)
         try replace Gc2 := Lib.hid (Gc2.out.bw hb)
         try replace Gc3 := Lib.hid (Gc3.out.bw hb)
         replace Bc := Lib.hid (Bc.out.trans hb)
         clear hb
         have hst := still_rowS x11.now g9 #[.bool bis, .int .i64 bc, .slice sb' nb cb']
         have Q8n := Lib.hid (Q8.out.st hst (by simpa using (fun e => hne.out e)))
         have Bn := Lib.hid (BW.stP Bc.out hst (fun k hk => by obtain rfl : k = g9 := (by simpa using hk); exact hzG9.out))
         have Q9n := Lib.hid (Q9.out.rowS #[.bool bis, .int .i64 bc, .slice sb' nb cb'])
         have Gold := Q9
         clear hst Gc2 Gc3 Q8 Q9 Bc
         have Q8 := Q8n
         have Q9 := Q9n
         have Bc := Bn
         clear Q8n Q9n Bn
         refine swStO swTk rfl rfl rfl Gold.out rfl rfl (by kernel_rfl) ?_
         refine hK _ _ ?_
         clear hK K Gold
         generalize x11.now.setRow g9 #[.bool bis, .int .i64 bc, .slice sb' nb cb'] = wk9 at *
         try simp only [Act.put, List.setIfInBounds_toArray, List.set_cons_succ, List.set_cons_zero]
         refine done (by kernel_rfl) (fun xr => ?_)
         have P8 := Lib.hid (Q8.out.bw xr.bw)
         have P9 := Lib.hid (Q9.out.bw xr.bw)
         have BB := Lib.hid (Bc.out.trans xr.bw)
         generalize xr.now = w10 at *
         go_wp2_with fail
         go_meet
         exact ⟨g8, g9, rfl, rfl, P8, P9, BB⟩
        ·skip
         replace hK := fun a' w' hg => hK a' w' trivial hg
         have hb := x10.bw
         try replace Q8 := Lib.hid (Q8.out.bw hb)
         try replace Q9 := Lib.hid (Q9.out.bw hb)
         try replace Gc2 := Lib.hid (Gc2.out.bw hb)
         try replace Gc3 := Lib.hid (Gc3.out.bw hb)
         replace Bc := Lib.hid (Bc.out.trans hb)
         clear hb
         have hst := still_rowS x10.now g8 #[.bool bis, .int .i64 bc, .slice sb nb cb]
         have G2n := Lib.hid (Gc2.out.st hst (by simpa using (hp_ne Gc2.out Q8.out (by decide))))
         have G3n := Lib.hid (Gc3.out.st hst (by simpa using (hp_ne Gc3.out Q8.out (by decide))))
         have Q9n := Lib.hid (Q9.out.st hst (by simpa using (fun e => hne.out e.symm)))
         have Bn := Lib.hid (BW.stP Bc.out hst (fun k hk => by obtain rfl : k = g8 := (by simpa using hk); exact hzG8.out))
         have Q8n := Lib.hid (Q8.out.rowS #[.bool bis, .int .i64 bc, .slice sb nb cb])
         have Gold := Q8
         clear hst Gc2 Gc3 Q8 Q9 Bc
         have Gc2 := G2n
         have Gc3 := G3n
         have Q8 := Q8n
         have Q9 := Q9n
         have Bc := Bn
         clear G2n G3n Q8n Q9n Bn
         refine swStO swTk rfl rfl rfl Gold.out rfl rfl (by kernel_rfl) ?_
         refine hK _ _ ?_
         clear hK K Gold
         generalize x10.now.setRow g8 #[.bool bis, .int .i64 bc, .slice sb nb cb] = wk8 at *
         try simp only [Act.put, List.setIfInBounds_toArray, List.set_cons_succ, List.set_cons_zero]
         refine effect 7 rfl (by kernel_rfl) (by kernel_rfl) rfl (fun x7 K hK => ?_)
         have hb := x7.bw
         try replace Q8 := Lib.hid (Q8.out.bw hb)
         try replace Q9 := Lib.hid (Q9.out.bw hb)
         try replace Gc2 := Lib.hid (Gc2.out.bw hb)
         try replace Gc3 := Lib.hid (Gc3.out.bw hb)
         replace Bc := Lib.hid (Bc.out.trans hb)
         clear hb
         refine swLdO swTk rfl rfl (Gc3.out.range 4 [.bool bis, .int .i64 bc, .slice sb' nb cb'] rfl) rfl ?_
         refine hK _ _ (Still.refl _ _) ?_
         clear hK K
         try simp only [Act.put, List.setIfInBounds_toArray, List.set_cons_succ, List.set_cons_zero]
         refine effectL 11 rfl (by kernel_rfl) rfl (by kernel_rfl) rfl (fun x11 K hK => ?_)
         have hb := x11.bw
         try replace Q8 := Lib.hid (Q8.out.bw hb)
         try replace Q9 := Lib.hid (Q9.out.bw hb)
         try replace Gc2 := Lib.hid (Gc2.out.bw hb)
         try replace Gc3 := Lib.hid (Gc3.out.bw hb)
         replace Bc := Lib.hid (Bc.out.trans hb)
         clear hb
         have hst := still_rowS x11.now g9 #[.bool bis, .int .i64 bc, .slice sb' nb cb']
         have Q8n := Lib.hid (Q8.out.st hst (by simpa using (fun e => hne.out e)))
         have Bn := Lib.hid (BW.stP Bc.out hst (fun k hk => by obtain rfl : k = g9 := (by simpa using hk); exact hzG9.out))
         have Q9n := Lib.hid (Q9.out.rowS #[.bool bis, .int .i64 bc, .slice sb' nb cb'])
         have Gold := Q9
         clear hst Gc2 Gc3 Q8 Q9 Bc
         have Q8 := Q8n
         have Q9 := Q9n
         have Bc := Bn
         clear Q8n Q9n Bn
         refine swStO swTk rfl rfl rfl Gold.out rfl rfl (by kernel_rfl) ?_
         refine hK _ _ ?_
         clear hK K Gold
         generalize x11.now.setRow g9 #[.bool bis, .int .i64 bc, .slice sb' nb cb'] = wk9 at *
         try simp only [Act.put, List.setIfInBounds_toArray, List.set_cons_succ, List.set_cons_zero]
         refine done (by kernel_rfl) (fun xr => ?_)
         have P8 := Lib.hid (Q8.out.bw xr.bw)
         have P9 := Lib.hid (Q9.out.bw xr.bw)
         have BB := Lib.hid (Bc.out.trans xr.bw)
         generalize xr.now = w10 at *
         go_wp2_with fail
         go_meet
         exact ⟨g8, g9, rfl, rfl, P8, P9, BB⟩
     case rest =>
      obtain ⟨g7, g8, rfl, rfl, Y7, Y8, BZ⟩ := hcut
      have z0 := hp_cell (Y7.out) 0
      have z1 := hp_cell (Y7.out) 1
      have z2 := hp_cell (Y7.out) 2
      simp only [List.getElem?_toArray, List.getElem?_cons_zero, List.getElem?_cons_succ] at z0 z1 z2
      have y0 := hp_cell (Y8.out) 0
      have y1 := hp_cell (Y8.out) 1
      have y2 := hp_cell (Y8.out) 2
      simp only [List.getElem?_toArray, List.getElem?_cons_zero, List.getElem?_cons_succ] at y0 y1 y2
      have QA := Lib.hid (hB.out.bw BZ.out)
      have QB := Lib.hid (hB'.out.bw BZ.out)
      have hpl := hnb
      go_upto_region 15 with (fail)
      clear z0 z1 z2 y0 y1 y2
      generalize bp = pl at *
      generalize nb = np at *
      go_loopg [9] np (fun m' nx wx => ∃ i : Nat, m' = np - i ∧ i ≤ np ∧ nx = .int .i64 (i : Nat) ∧ Hid (BW wc wx))
      case atStart => exact ⟨0, by omega, by omega, rfl, BW.refl _⟩
      case round =>
       obtain ⟨i, rfl, hi, rfl, B10⟩ := hrel
       have z0 := hp_cell (Y7.out.bw B10.out) 0
       have z1 := hp_cell (Y7.out.bw B10.out) 1
       have z2 := hp_cell (Y7.out.bw B10.out) 2
       simp only [List.getElem?_toArray, List.getElem?_cons_zero, List.getElem?_cons_succ] at z0 z1 z2
       have y0 := hp_cell (Y8.out.bw B10.out) 0
       have y1 := hp_cell (Y8.out.bw B10.out) 1
       have y2 := hp_cell (Y8.out.bw B10.out) 2
       simp only [List.getElem?_toArray, List.getElem?_cons_zero, List.getElem?_cons_succ] at y0 y1 y2
       by_cases hin : i < np
       ·have d6 : decide ((i : Int) < (np : Int)) = true := by simp; omega
        have hil : i < pl.length := by rw [hpl.out]; exact hin
        obtain ⟨gp1, op1, rfl, hc1⟩ := i1_form (QA.out.bw B10.out) (by omega)
        obtain ⟨gp2, op2, rfl, hc2⟩ := i1_form (QB.out.bw B10.out) (by omega)
        have c1 := hc1 i hil
        have c2 := hc2 i hil
        generalize pl[i] = pv at *
        have d7 : (pv != pv) = false := by simp
        clear hc1 hc2
        go_upto_region 17 with (fail)
        have mz : ∀ y : LaterS [] wr, _ := fun y => y.bw.cell z2
        have my : ∀ y : LaterS [] wr, _ := fun y => y.bw.cell y2
        have m1 : ∀ y : LaterS [] wr, _ := fun y => y.bw.cell c1
        have m2 : ∀ y : LaterS [] wr, _ := fun y => y.bw.cell c2
        clear z0 z1 z2 y0 y1 y2 c1 c2
        try simp only [Act.put, List.setIfInBounds_toArray, List.set_cons_succ, List.set_cons_zero]
        refine wp_region_gg [] [] [] (by kernel_rfl) ?_
        refine hoist [] [] (a1 := ?_) 0 rfl (by kernel_rfl) (.inl ⟨rfl, rfl⟩) rfl rfl rfl (fun x K hK => ?_) ?_
        rotate_left
        ·go_big_quiet_op
         exact hK
        refine hoist [] [] (a1 := ?_) 1 rfl (by kernel_rfl) (.inl ⟨rfl, rfl⟩) rfl rfl rfl (fun x K hK => ?_) ?_
        rotate_left
        ·go_big_quiet_op
         exact hK
        refine hoist [] [] (a1 := ?_) 2 rfl (by kernel_rfl) (.inl ⟨rfl, rfl⟩) rfl rfl rfl (fun x K hK => ?_) ?_
        rotate_left
        ·go_big_quiet_op
         exact hK
        refine hoist [] [] (a1 := ?_) 3 rfl (by kernel_rfl) (.inl ⟨rfl, rfl⟩) rfl rfl rfl (fun x K hK => ?_) ?_
        rotate_left
        ·go_big_quiet_op
         exact hK
        refine hoist [] [] (a1 := ?_) 4 rfl (by kernel_rfl) (.inl ⟨rfl, rfl⟩) rfl rfl rfl (fun x K hK => ?_) ?_
        rotate_left
        ·go_big_quiet_op
         exact hK
        refine hoist [] [] (a1 := ?_) 5 rfl (by kernel_rfl) (.inl ⟨rfl, rfl⟩) rfl rfl rfl (fun x K hK => ?_) ?_
        rotate_left
        ·go_big_quiet_op
         exact hK
        refine hoist [] [] (a1 := ?_) 6 rfl (by kernel_rfl) (.inl ⟨rfl, rfl⟩) rfl rfl rfl (fun x K hK => ?_) ?_
        rotate_left
        ·go_big_quiet_op
         exact hK
        refine hoist [] [] (a1 := ?_) 7 rfl (by kernel_rfl) (.inl ⟨rfl, rfl⟩) rfl rfl rfl (fun x K hK => ?_) ?_
        rotate_left
        ·go_big_quiet_op
         exact hK
        refine hoist [] [] (a1 := ?_) 8 rfl (by kernel_rfl) (.inl ⟨rfl, rfl⟩) rfl rfl rfl (fun x K hK => ?_) ?_
        rotate_left
        ·go_big_quiet_op
         exact hK
        refine hoist [] [] (a1 := ?_) 9 rfl (by kernel_rfl) (.inl ⟨rfl, rfl⟩) rfl rfl rfl (fun x K hK => ?_) ?_
        rotate_left
        ·go_big_quiet_op
         exact hK
        refine hoist [] [] (a1 := ?_) 10 rfl (by kernel_rfl) (.inl ⟨rfl, rfl⟩) rfl rfl rfl (fun x K hK => ?_) ?_
        rotate_left
        ·go_big_quiet_op
         exact hK
        refine done (by kernel_rfl) (fun xr => ?_)
        replace B10 := Lib.hid (B10.out.trans xr.bw)
        clear mz my m1 m2
        generalize xr.now = w11 at *
        clear xr
        go_wp2_with fail
        go_roundg (np - (i + 1))
        case measure => omega
        case rel => exact ⟨i + 1, rfl, by omega, by first | rfl | (push_cast; rfl), B10⟩
       ·obtain rfl : i = np := by omega
        have d6 : decide ((i : Int) < (i : Int)) = false := by simp
        have B11 := Lib.hid (BZ.out.trans B10.out)
        go_wp2_with fail
        go_roundg 0
        case measure => omega
        case rel => exact ⟨2, rfl, by omega, rfl, B11⟩
    ·have B9 := Lib.hid (B1.out.trans B3.out)
     go_wp2_with fail
     go_ret
     exact ⟨rfl, B9.out⟩
end Go.Proofs.Ytebeifkgjhgmeaa
