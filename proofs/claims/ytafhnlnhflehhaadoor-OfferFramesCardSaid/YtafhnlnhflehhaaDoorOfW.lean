/- Frames: the same as itself; lists of frames with the same content are the same. No condition but the sizes'. -/
import Derived.Test.YtafhnlnhflehhaaDoorOfV
import Derived.Test.YtafhnlnhflehhaaDoorOfS
namespace Go.Proofs.YtafhnlnhflehhaaDoor
open Go.RowKit
set_option maxRecDepth 100000 in
set_option maxHeartbeats 8000000 in
theorem frSame_true (c1 c2 : Array Value) (d : FrD) (w : World) (h1 : FrV w c1 d) (h2 : FrV w c2 d) :
  Calls Tryd.prog 15 #[.agg c1, .agg c2] w fun e w' => e = .returned (.bool true) ∧ BW w w' := by
 obtain ⟨s1, n0, e1, rfl, N1⟩ := h1
 obtain ⟨s2, n9, e2, rfl, N2⟩ := h2
 obtain rfl : d.srcs.length = n0 := N1.1
 obtain rfl : d.srcs.length = n9 := N2.1
 obtain ⟨_, _, he, n1, m1⟩ := N1.len
 cases he
 obtain ⟨_, _, he, n2, m2⟩ := N2.len
 cases he
 unfold maxLen at m1 m2
 obtain ⟨k, s, nc, r, t, o, l, L⟩ := d
 dsimp only at *
 simp only [frC] at *
 generalize hLn : L.length = n at *
 have B1 : BW w (w.alloc (.cells #[.int .i64 k, .int .i64 s, .int .u64 (nc : Nat), .int .i64 r, .int .i64 t, .int .i64 o, .int .i64 l, .slice s1 n e1] 43)) := (BW.refl w).alloc
 have B2 : BW (w.alloc (.cells #[.int .i64 k, .int .i64 s, .int .u64 (nc : Nat), .int .i64 r, .int .i64 t, .int .i64 o, .int .i64 l, .slice s1 n e1] 43)) ((w.alloc (.cells #[.int .i64 k, .int .i64 s, .int .u64 (nc : Nat), .int .i64 r, .int .i64 t, .int .i64 o, .int .i64 l, .slice s1 n e1] 43)).alloc (.cells #[.int .i64 k, .int .i64 s, .int .u64 (nc : Nat), .int .i64 r, .int .i64 t, .int .i64 o, .int .i64 l, .slice s2 n e2] 43)) := (BW.refl _).alloc
 have P1 := Lib.hid ((HpB.new w (.cells #[.int .i64 k, .int .i64 s, .int .u64 (nc : Nat), .int .i64 r, .int .i64 t, .int .i64 o, .int .i64 l, .slice s1 n e1] 43)).bw B2)
 have P2 : Hid (HpB ((w.alloc (.cells #[.int .i64 k, .int .i64 s, .int .u64 (nc : Nat), .int .i64 r, .int .i64 t, .int .i64 o, .int .i64 l, .slice s1 n e1] 43)).alloc (.cells #[.int .i64 k, .int .i64 s, .int .u64 (nc : Nat), .int .i64 r, .int .i64 t, .int .i64 o, .int .i64 l, .slice s2 n e2] 43)) (w.heap.size + 1) (.cells #[.int .i64 k, .int .i64 s, .int .u64 (nc : Nat), .int .i64 r, .int .i64 t, .int .i64 o, .int .i64 l, .slice s2 n e2] 43)) := hp_new _ _ _ (by simp)
 have B := Lib.hid (B1.trans B2)
 clear B1 B2
 replace N1 := Lib.hid N1
 replace N2 := Lib.hid N2
 replace hLn := Lib.hid hLn
 go_enter Tryd.func15, Tryd.ntmps15
 go_upto_region 1 with (fail)
 generalize (w.alloc (.cells #[.int .i64 k, .int .i64 s, .int .u64 (nc : Nat), .int .i64 r, .int .i64 t, .int .i64 o, .int .i64 l, .slice s1 n e1] 43)).alloc (.cells #[.int .i64 k, .int .i64 s, .int .u64 (nc : Nat), .int .i64 r, .int .i64 t, .int .i64 o, .int .i64 l, .slice s2 n e2] 43) = w2 at *
 have z0 := hp_cell (P1.out) 0
 have z1 := hp_cell (P1.out) 1
 have z2 := hp_cell (P1.out) 2
 have z3 := hp_cell (P1.out) 3
 have z4 := hp_cell (P1.out) 4
 have z5 := hp_cell (P1.out) 5
 have z6 := hp_cell (P1.out) 6
 have z7 := hp_cell (P1.out) 7
 simp only [List.getElem?_toArray, List.getElem?_cons_zero, List.getElem?_cons_succ] at z0 z1 z2 z3 z4 z5 z6 z7
 have y0 := hp_cell (P2.out) 0
 have y1 := hp_cell (P2.out) 1
 have y2 := hp_cell (P2.out) 2
 have y3 := hp_cell (P2.out) 3
 have y4 := hp_cell (P2.out) 4
 have y5 := hp_cell (P2.out) 5
 have y6 := hp_cell (P2.out) 6
 have y7 := hp_cell (P2.out) 7
 simp only [List.getElem?_toArray, List.getElem?_cons_zero, List.getElem?_cons_succ] at y0 y1 y2 y3 y4 y5 y6 y7
 go_upto_region 4 with (fail)
 clear z0 z1 z2 z3 z4 z5 z6 z7 y0 y1 y2 y3 y4 y5 y6 y7
 go_loopg [5] n (fun m' i wx => ∃ j : Nat, m' = n - j ∧ j ≤ n ∧ i = .int .i64 (j : Nat) ∧ Hid (BW w2 wx))
 case atStart => exact ⟨0, rfl, by omega, rfl, BW.refl _⟩
 case round =>
  obtain ⟨j, rfl, hj, rfl, C⟩ := hrel
  have p7 := hp_cell (P1.out.bw C.out) 7
  have q7 := hp_cell (P2.out.bw C.out) 7
  simp only [List.getElem?_toArray, List.getElem?_cons_zero, List.getElem?_cons_succ] at p7 q7
  obtain ⟨wq, rfl⟩ : ∃ x, x = wr := ⟨_, rfl⟩
  by_cases hjn : j < n
  ·have d : decide ((j : Int) < (n : Int)) = true := by simp; omega
   obtain ⟨b1, o1, rfl, hc1⟩ := u4_cellS (N1.out.bw (B.out.trans C.out)) (by omega)
   obtain ⟨b2, o2, rfl, hc2⟩ := u4_cellS (N2.out.bw (B.out.trans C.out)) (by omega)
   have z1 := hc1 j hjn
   have z2 := hc2 j hjn
   clear hc1 hc2
   go_upto_region 6 with (fail)
   have a1 : ∀ y : LaterS [] wq, _ := fun y => y.bw.cell p7
   have a2 : ∀ y : LaterS [] wq, _ := fun y => y.bw.cell q7
   have a3 : ∀ y : LaterS [] wq, _ := fun y => y.bw.cell z1
   have a4 : ∀ y : LaterS [] wq, _ := fun y => y.bw.cell z2
   refine wp_region_gg [] [] [] (by kernel_rfl) ?_
   refine hoist [] [] (a1 := ?_) 0 rfl (by kernel_rfl) (.inl ⟨rfl, rfl⟩) rfl rfl rfl (fun x K hK => ?_) ?_
   rotate_left
   ·go_big_quiet_op
    exact hK
   refine hoist [] [] (a1 := ?_) 1 rfl (by kernel_rfl) (.inl ⟨rfl, rfl⟩) rfl rfl rfl (fun x K hK => ?_) ?_
   rotate_left
   ·go_big_quiet_op
    exact hK
   refine hoist [] [] (a1 := ?_) 2 rfl (by kernel_rfl) (.inl ⟨rfl, rfl⟩) rfl rfl rfl (fun x K hK => ?_) ?_
   rotate_left
   ·go_big_quiet_op
    exact hK
   refine hoist [] [] (a1 := ?_) 3 rfl (by kernel_rfl) (.inl ⟨rfl, rfl⟩) rfl rfl rfl (fun x K hK => ?_) ?_
   rotate_left
   ·go_big_quiet_op
    exact hK
   refine hoist [] [] (a1 := ?_) 4 rfl (by kernel_rfl) (.inl ⟨rfl, rfl⟩) rfl rfl rfl (fun x K hK => ?_) ?_
   rotate_left
   ·go_big_quiet_op
    exact hK
   refine hoist [] [] (a1 := ?_) 5 rfl (by kernel_rfl) (.inl ⟨rfl, rfl⟩) rfl rfl rfl (fun x K hK => ?_) ?_
   rotate_left
   ·go_big_quiet_op
    exact hK
   refine hoist [] [] (a1 := ?_) 6 rfl (by kernel_rfl) (.inl ⟨rfl, rfl⟩) rfl rfl rfl (fun x K hK => ?_) ?_
   rotate_left
   ·go_big_quiet_op
    exact hK
   refine hoist [] [] (a1 := ?_) 7 rfl (by kernel_rfl) (.inl ⟨rfl, rfl⟩) rfl rfl rfl (fun x K hK => ?_) ?_
   rotate_left
   ·go_big_quiet_op
    exact hK
   refine hoist [] [] (a1 := ?_) 8 rfl (by kernel_rfl) (.inl ⟨rfl, rfl⟩) rfl rfl rfl (fun x K hK => ?_) ?_
   rotate_left
   ·go_big_quiet_op
    exact hK
   refine hoist [] [] (a1 := ?_) 9 rfl (by kernel_rfl) (.inl ⟨rfl, rfl⟩) rfl rfl rfl (fun x K hK => ?_) ?_
   rotate_left
   ·go_big_quiet_op
    exact hK
   refine hoist [] [] (a1 := ?_) 10 rfl (by kernel_rfl) (.inl ⟨rfl, rfl⟩) rfl rfl rfl (fun x K hK => ?_) ?_
   rotate_left
   ·go_big_quiet_op
    exact hK
   refine done (by kernel_rfl) (fun xr => ?_)
   have C2 := Lib.hid (C.out.trans xr.bw)
   clear a1 a2 a3 a4 z1 z2 p7 q7 d C
   generalize xr.now = w9 at *
   go_wp2_with fail
   go_roundg (n - (j + 1))
   case measure => omega
   case rel => exact ⟨j + 1, rfl, by omega, by push_cast; rfl, C2⟩
  ·obtain rfl : j = n := by omega
   have d : decide ((j : Int) < (j : Int)) = false := by simp
   go_wp2_with fail
   go_ret
   exact ⟨rfl, B.out.trans C.out⟩
theorem fm_at {w0 w : World} {base n cap : Nat} {sv : Option Addr} {L : List FrD} (h : EQ (EFm w0) 43 w base (.slice sv n cap) n L) (h0 : 0 < n) (hb : BW w0 w) : ∃ g o, sv = some ⟨g, o, none⟩ ∧ ∀ i (hi : i < n), ∃ cl : List Value, cl.length = 8 ∧ w.rangeAt g (o + i * 8) cl ∧ ∃ d, L[i]? = some d ∧ FrV w cl.toArray d := by
 have hl := h.1
 obtain ⟨g, o, cap', hsl, _, _, _, _, hce⟩ := h.form h0
 simp only [Value.slice.injEq] at hsl
 refine ⟨g, o, hsl.1, fun i hi => ?_⟩
 obtain ⟨c, hc, hcc⟩ := hce i (by omega)
 have e2 : (EFm w0).size = 8 := rfl
 have hlen := (EFm w0).len hc
 refine ⟨c, hlen, fun j v hv => ?_, L[i], List.getElem?_eq_getElem (by omega), frR.v hc hb⟩
 have hj : j < c.length := (List.getElem?_eq_some_iff.1 hv).1
 have := hcc j (by rw [← hlen]; exact hj)
 rw [e2, ← Nat.add_assoc] at this
 rw [this, hv]
set_option maxRecDepth 100000 in
set_option maxHeartbeats 8000000 in
theorem samelists_any (w0 : World) (b1 b2 n c1 c2 : Nat) (s1 s2 : Option Addr) (L : List FrD) (w : World) (hn : n ≤ 1000) (h1 : EQ (EFm w0) 43 w b1 (.slice s1 n c1) n L) (h2 : EQ (EFm w0) 43 w b2 (.slice s2 n c2) n L) (hb : BW w0 w) :
  Calls Tryd.prog 8 #[.slice s1 n c1, .slice s2 n c2] w fun e w' => e = .returned (.bool true) ∧ BW w w' := by
 obtain ⟨_, _, he, n1, m1⟩ := h1.len
 cases he
 obtain ⟨_, _, he, n2, m2⟩ := h2.len
 cases he
 unfold maxLen at m1 m2
 have Q1 := Lib.hid h1
 have Q2 := Lib.hid h2
 have B0 := Lib.hid hb
 clear h1 h2 hb
 have dn : ((n : Int) != (n : Int)) = false := by simp
 go_enter Tryd.func8, Tryd.ntmps8
 go_upto_region 4 with (fail)
 clear dn
 go_loopg [5] n (fun m' v5 wx => ∃ i : Nat, m' = n - i ∧ i ≤ n ∧ v5 = .int .i64 (i : Nat) ∧ Hid (BW w wx))
 case atStart => exact ⟨0, by omega, by omega, rfl, Lib.hid (BW.refl _)⟩
 case round =>
  obtain ⟨i, rfl, hi, rfl, B⟩ := hrel
  by_cases hin : i < n
  ·have di : decide ((i : Int) < (n : Int)) = true := by simp; omega
   obtain ⟨g1, o1, rfl, hc1⟩ := fm_at (Q1.out.bw B.out) (by omega) (B0.out.trans B.out)
   obtain ⟨g2, o2, rfl, hc2⟩ := fm_at (Q2.out.bw B.out) (by omega) (B0.out.trans B.out)
   obtain ⟨l1, k1, r1, d1, e1, v1⟩ := hc1 i hin
   obtain ⟨l2, k2, r2, d2, e2, v2⟩ := hc2 i hin
   obtain rfl : d1 = d2 := Option.some.inj (e1.symm.trans e2)
   have cS := Lib.hid (fun (y : World) (hy : BW wr y) => frSame_true l1.toArray l2.toArray d1 y (v1.bw hy) (v2.bw hy))
   have R1 := Lib.hid r1
   have R2 := Lib.hid r2
   clear hc1 hc2 r1 r2 e1 e2 v1 v2
   go_upto_region 6 with (fail)
   refine wp_region_gg [] [] [] (by kernel_rfl) ?_
   refine hoist [] [] (a1 := ?_) 0 rfl (by kernel_rfl) (.inl ⟨rfl, rfl⟩) rfl rfl rfl (fun x K hK => ?_) ?_
   rotate_left
   ·go_big_quiet_op
    exact hK
   refine hoist [] [] (a1 := ?_) 1 rfl (by kernel_rfl) (.inl ⟨rfl, rfl⟩) rfl rfl rfl (fun x K hK => ?_) ?_
   rotate_left
   ·go_big_quiet_op
    exact hK
   refine hoist [] [] (a1 := ?_) 2 rfl (by kernel_rfl) (.inl ⟨rfl, rfl⟩) rfl rfl rfl (fun x K hK => ?_) ?_
   rotate_left
   ·go_big_quiet_op
    exact hK
   refine hoist [] [] (a1 := ?_) 3 rfl (by kernel_rfl) (.inl ⟨rfl, rfl⟩) rfl rfl rfl (fun x K hK => ?_) ?_
   rotate_left
   ·refine swQl swFr (l := l1) rfl (by rfl) k1 (fun w' hw => by subst hw; exact rangeAt_bw R1.out x.bw) (by simp only [Act.put, List.setIfInBounds_toArray, List.set_cons_succ, List.set_cons_zero]; rfl) ?_
    exact hK
   refine hoist [] [] (a1 := ?_) 4 rfl (by kernel_rfl) (.inl ⟨rfl, rfl⟩) rfl rfl rfl (fun x K hK => ?_) ?_
   rotate_left
   ·go_big_quiet_op
    exact hK
   refine hoist [] [] (a1 := ?_) 5 rfl (by kernel_rfl) (.inl ⟨rfl, rfl⟩) rfl rfl rfl (fun x K hK => ?_) ?_
   rotate_left
   ·go_big_quiet_op
    exact hK
   refine hoist [] [] (a1 := ?_) 6 rfl (by kernel_rfl) (.inl ⟨rfl, rfl⟩) rfl rfl rfl (fun x K hK => ?_) ?_
   rotate_left
   ·go_big_quiet_op
    exact hK
   refine hoist [] [] (a1 := ?_) 7 rfl (by kernel_rfl) (.inl ⟨rfl, rfl⟩) rfl rfl rfl (fun x K hK => ?_) ?_
   rotate_left
   ·refine swQl swFr (l := l2) rfl (by rfl) k2 (fun w' hw => by subst hw; exact rangeAt_bw R2.out x.bw) (by simp only [Act.put, List.setIfInBounds_toArray, List.set_cons_succ, List.set_cons_zero]; rfl) ?_
    exact hK
   refine hoist_call [] [] (a1 := ?_) 8 rfl (by kernel_rfl) (.inl ⟨rfl, rfl⟩) rfl rfl rfl (fun x K hK => ?_) ?_
   rotate_left
   ·go_big_quiet_op
    apply Exists.intro
    refine ⟨fun y => ?_, ?_⟩
    ·exact Calls.laterS_of (cS.out y.now (x.bw.trans y.bw))
    ·exact hK
   refine hoist [] [] (a1 := ?_) 9 rfl (by kernel_rfl) (.inl ⟨rfl, rfl⟩) rfl rfl rfl (fun x K hK => ?_) ?_
   rotate_left
   ·go_big_quiet_op
    exact hK
   refine done (by kernel_rfl) (fun xr => ?_)
   have B2 := Lib.hid (B.out.trans xr.bw)
   clear R1 R2 cS B
   generalize xr.now = w5 at *
   clear xr
   go_wp2_with fail
   go_roundg (n - (i + 1))
   case measure => omega
   case rel => exact ⟨i + 1, rfl, by omega, by first | rfl | (push_cast; rfl), B2⟩
  ·obtain rfl : i = n := by omega
   have di : decide ((i : Int) < (i : Int)) = false := by simp
   go_wp2_with fail
   go_ret
   exact ⟨rfl, B.out⟩
end Go.Proofs.YtafhnlnhflehhaaDoor
