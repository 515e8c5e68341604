/- The reference's Same and Equal of the same content. No condition but the sizes'. -/
import Derived.Test.YtafhnlnhflehhaaGreatDoorOfX
namespace Go.Proofs.YtafhnlnhflehhaaGreatDoor
open Go.RowKit
theorem hp_newA (w : World) (o o2 : Obj) : HpB ((w.alloc o).alloc o2) (w.heap.size + 1) o2 := by
 have := HpB.new (w.alloc o) o2
 rwa [show (w.alloc o).heap.size = w.heap.size + 1 from by simp] at this
set_option maxRecDepth 100000 in
set_option maxHeartbeats 8000000 in
theorem wsame_any (t c : Int) (s1 s2 : Option Addr) (n c1 c2 : Nat) (l : List Nat) (w : World) (h1 : SQ EU4 w 0 (.slice s1 n c1) n l) (h2 : SQ EU4 w 0 (.slice s2 n c2) n l) :
  Calls Tryz.prog 24 #[.agg #[.int .i64 t, .int .i64 c, .slice s1 n c1], .agg #[.int .i64 t, .int .i64 c, .slice s2 n c2]] w fun e w' => e = .returned (.bool true) ∧ BW w w' := by
 obtain ⟨_, _, he, n1, m1⟩ := h1.len
 cases he
 obtain ⟨_, _, he, n2, m2⟩ := h2.len
 cases he
 unfold maxLen at m1 m2
 have B := ((BW.refl w).alloc (o := .cells #[.int .i64 t, .int .i64 c, .slice s1 n c1] 41)).alloc (o := .cells #[.int .i64 t, .int .i64 c, .slice s2 n c2] 41)
 have P1 := (HpB.new w (.cells #[.int .i64 t, .int .i64 c, .slice s1 n c1] 41)).bw ((BW.refl _).alloc (o := .cells #[.int .i64 t, .int .i64 c, .slice s2 n c2] 41))
 have P2 : HpB ((w.alloc (.cells #[.int .i64 t, .int .i64 c, .slice s1 n c1] 41)).alloc (.cells #[.int .i64 t, .int .i64 c, .slice s2 n c2] 41)) (w.heap.size + 1) (.cells #[.int .i64 t, .int .i64 c, .slice s2 n c2] 41) := hp_newA ..
 have N1 := Lib.hid h1
 have N2 := Lib.hid h2
 clear h1 h2
 have dt : (t != t) = false := by simp
 have dc : (c != c) = false := by simp
 have dn : ((n : Int) != (n : Int)) = false := by simp
 replace B := Lib.hid B
 replace P1 := Lib.hid P1
 replace P2 := Lib.hid P2
 go_enter Tryz.func24, Tryz.ntmps24
 go_upto_region 1 with (fail)
 generalize (w.alloc _).alloc _ = w2 at *
 generalize w.heap.size + 1 = g2 at *
 generalize w.heap.size = g1 at *
 have z0 := hp_cell (P1.out) 0
 have z1 := hp_cell (P1.out) 1
 have z2 := hp_cell (P1.out) 2
 simp only [List.getElem?_toArray, List.getElem?_cons_zero, List.getElem?_cons_succ] at z0 z1 z2
 have y0 := hp_cell (P2.out) 0
 have y1 := hp_cell (P2.out) 1
 have y2 := hp_cell (P2.out) 2
 simp only [List.getElem?_toArray, List.getElem?_cons_zero, List.getElem?_cons_succ] at y0 y1 y2
 go_upto_region 4 with (fail)
 clear z0 z1 z2
 clear y0 y1 y2
 clear dt dc dn
 go_loopg [5] n (fun m' i wx => ∃ j : Nat, m' = n - j ∧ j ≤ n ∧ i = .int .i64 (j : Nat) ∧ Hid (BW w2 wx))
 case atStart => exact ⟨0, rfl, by omega, rfl, BW.refl _⟩
 case round =>
  obtain ⟨j, rfl, hj, rfl, C⟩ := hrel
  have p2 := (hp_cell (P1.out.bw C.out) 2).trans (show _ = some (.slice s1 n c1) from rfl)
  have q2 := (hp_cell (P2.out.bw C.out) 2).trans (show _ = some (.slice s2 n c2) from rfl)
  by_cases hjn : j < n
  ·have d : decide ((j : Int) < (n : Int)) = true := by simp; omega
   obtain ⟨b1, o1, rfl, hc1⟩ := u4_cellS (N1.out.bw (B.out.trans C.out)) (by omega)
   obtain ⟨b2, o2, rfl, hc2⟩ := u4_cellS (N2.out.bw (B.out.trans C.out)) (by omega)
   have z1 := hc1 j hjn
   have z2 := hc2 j hjn
   clear hc1 hc2
   go_upto_region 6 with (fail)
   have a1 : ∀ y : LaterS [] wr, _ := fun y => y.bw.cell p2
   have a2 : ∀ y : LaterS [] wr, _ := fun y => y.bw.cell q2
   have a3 : ∀ y : LaterS [] wr, _ := fun y => y.bw.cell z1
   have a4 : ∀ y : LaterS [] wr, _ := fun y => y.bw.cell z2
   refine wp_region_gg [] [] [] (by kernel_rfl) ?_
   refine hoist [] [] (a1 := ?_) 0 rfl (by kernel_rfl) (.inl ⟨rfl, rfl⟩) rfl rfl rfl (fun x K hK => ?_) ?_
   rotate_left
   ·go_big_quiet_op
    exact hK
   refine hoist [] [] (a1 := ?_) 1 rfl (by kernel_rfl) (.inl ⟨rfl, rfl⟩) rfl rfl rfl (fun x K hK => ?_) ?_
   rotate_left
   ·go_big_quiet_op
    exact hK
   refine hoist [] [] (a1 := ?_) 2 rfl (by kernel_rfl) (.inl ⟨rfl, rfl⟩) rfl rfl rfl (fun x K hK => ?_) ?_
   rotate_left
   ·go_big_quiet_op
    exact hK
   refine hoist [] [] (a1 := ?_) 3 rfl (by kernel_rfl) (.inl ⟨rfl, rfl⟩) rfl rfl rfl (fun x K hK => ?_) ?_
   rotate_left
   ·go_big_quiet_op
    exact hK
   refine hoist [] [] (a1 := ?_) 4 rfl (by kernel_rfl) (.inl ⟨rfl, rfl⟩) rfl rfl rfl (fun x K hK => ?_) ?_
   rotate_left
   ·go_big_quiet_op
    exact hK
   refine hoist [] [] (a1 := ?_) 5 rfl (by kernel_rfl) (.inl ⟨rfl, rfl⟩) rfl rfl rfl (fun x K hK => ?_) ?_
   rotate_left
   ·go_big_quiet_op
    exact hK
   refine hoist [] [] (a1 := ?_) 6 rfl (by kernel_rfl) (.inl ⟨rfl, rfl⟩) rfl rfl rfl (fun x K hK => ?_) ?_
   rotate_left
   ·go_big_quiet_op
    exact hK
   refine hoist [] [] (a1 := ?_) 7 rfl (by kernel_rfl) (.inl ⟨rfl, rfl⟩) rfl rfl rfl (fun x K hK => ?_) ?_
   rotate_left
   ·go_big_quiet_op
    exact hK
   refine hoist [] [] (a1 := ?_) 8 rfl (by kernel_rfl) (.inl ⟨rfl, rfl⟩) rfl rfl rfl (fun x K hK => ?_) ?_
   rotate_left
   ·go_big_quiet_op
    exact hK
   refine hoist [] [] (a1 := ?_) 9 rfl (by kernel_rfl) (.inl ⟨rfl, rfl⟩) rfl rfl rfl (fun x K hK => ?_) ?_
   rotate_left
   ·go_big_quiet_op
    exact hK
   refine hoist [] [] (a1 := ?_) 10 rfl (by kernel_rfl) (.inl ⟨rfl, rfl⟩) rfl rfl rfl (fun x K hK => ?_) ?_
   rotate_left
   ·go_big_quiet_op
    exact hK
   refine done (by kernel_rfl) (fun xr => ?_)
   have C2 := Lib.hid (C.out.trans xr.bw)
   clear a1 a2 a3 a4 z1 z2 p2 q2 d C
   generalize xr.now = w9 at *
   go_wp2_with fail
   go_roundg (n - (j + 1))
   case measure => omega
   case rel => exact ⟨j + 1, rfl, by omega, by push_cast; rfl, C2⟩
  ·obtain rfl : j = n := by omega
   have d : decide ((j : Int) < (j : Int)) = false := by simp
   go_wp2_with fail
   go_ret
   exact ⟨rfl, B.out.trans C.out⟩
set_option maxRecDepth 100000 in
set_option maxHeartbeats 8000000 in
theorem equal_any (cs1 cs2 : Array Value) (d : OffD) (sW1 sW2 sH1 sH2 : Option Addr) (cW1 cW2 cH1 cH2 : Nat) (w : World) (h1 : OffV w cs1 d sW1 cW1 sH1 cH1) (h2 : OffV w cs2 d sW2 cW2 sH2 cH2) :
  Calls Tryz.prog 11 #[.agg cs1, .agg cs2] w fun e w' => e = .returned (.bool true) ∧ BW w w' := by
 obtain ⟨rfl, hw1, hh1⟩ := h1
 obtain ⟨rfl, hw2, hh2⟩ := h2
 obtain ⟨seat, W, H⟩ := d
 unfold offC
 dsimp only at hw1 hh1 hw2 hh2 ⊢
 obtain ⟨_, _, he, a1, a2⟩ := hw1.len
 cases he
 obtain ⟨_, _, he, a3, a4⟩ := hw2.len
 cases he
 obtain ⟨_, _, he, a5, a6⟩ := hh1.len
 cases he
 obtain ⟨_, _, he, a7, a8⟩ := hh2.len
 cases he
 unfold maxLen at a2 a4 a6 a8
 obtain ⟨nW, hnW⟩ : ∃ n, W.length = n := ⟨_, rfl⟩
 obtain ⟨nH, hnH⟩ : ∃ n, H.length = n := ⟨_, rfl⟩
 rw [hnW] at hw1 hw2 a1 a3 ⊢
 rw [hnH] at hh1 hh2 a5 a7 ⊢
 have B := ((BW.refl w).alloc (o := .cells #[.int .i64 seat, .slice sW1 nW cW1, .slice sH1 nH cH1] 25)).alloc (o := .cells #[.int .i64 seat, .slice sW2 nW cW2, .slice sH2 nH cH2] 25)
 have P1 := (HpB.new w (.cells #[.int .i64 seat, .slice sW1 nW cW1, .slice sH1 nH cH1] 25)).bw ((BW.refl _).alloc (o := .cells #[.int .i64 seat, .slice sW2 nW cW2, .slice sH2 nH cH2] 25))
 have P2 : HpB ((w.alloc (.cells #[.int .i64 seat, .slice sW1 nW cW1, .slice sH1 nH cH1] 25)).alloc (.cells #[.int .i64 seat, .slice sW2 nW cW2, .slice sH2 nH cH2] 25)) (w.heap.size + 1) (.cells #[.int .i64 seat, .slice sW2 nW cW2, .slice sH2 nH cH2] 25) := hp_newA ..
 have W1 := Lib.hid hw1
 have W2 := Lib.hid hw2
 have H1 := Lib.hid hh1
 have H2 := Lib.hid hh2
 clear hw1 hw2 hh1 hh2
 have d1 : (seat != seat) = false := by simp
 have d2 : ((nW : Int) != (nW : Int)) = false := by simp
 have d3 : ((nH : Int) != (nH : Int)) = false := by simp
 replace B := Lib.hid B
 replace P1 := Lib.hid P1
 replace P2 := Lib.hid P2
 replace hnW := Lib.hid hnW
 replace hnH := Lib.hid hnH
 go_enter Tryz.func11, Tryz.ntmps11
 go_upto_region 1 with (fail)
 generalize (w.alloc _).alloc _ = w2 at *
 generalize w.heap.size + 1 = g2 at *
 generalize w.heap.size = g1 at *
 have z0 := hp_cell (P1.out) 0
 have z1 := hp_cell (P1.out) 1
 have z2 := hp_cell (P1.out) 2
 simp only [List.getElem?_toArray, List.getElem?_cons_zero, List.getElem?_cons_succ] at z0 z1 z2
 have y0 := hp_cell (P2.out) 0
 have y1 := hp_cell (P2.out) 1
 have y2 := hp_cell (P2.out) 2
 simp only [List.getElem?_toArray, List.getElem?_cons_zero, List.getElem?_cons_succ] at y0 y1 y2
 go_upto_region 4 with (fail)
 clear z0 z1 z2
 clear y0 y1 y2
 clear d1 d2 d3
 go_loopg [5] nW (fun m' i wx => ∃ j : Nat, m' = nW - j ∧ j ≤ nW ∧ i = .int .i64 (j : Nat) ∧ Hid (BW w2 wx))
 case atStart => exact ⟨0, rfl, by omega, rfl, BW.refl _⟩
 case round =>
  obtain ⟨j, rfl, hj, rfl, C⟩ := hrel
  have p1 := (hp_cell (P1.out.bw C.out) 1).trans (show _ = some (.slice sW1 nW cW1) from rfl)
  have q1 := (hp_cell (P2.out.bw C.out) 1).trans (show _ = some (.slice sW2 nW cW2) from rfl)
  by_cases hjn : j < nW
  ·have d : decide ((j : Int) < (nW : Int)) = true := by simp; omega
   have hjL : j < W.length := by rw [hnW.out]; exact hjn
   obtain ⟨b1, o1, rfl, -, hc1⟩ := wi_form (W1.out.bw (B.out.trans C.out)) (by omega)
   obtain ⟨b2, o2, rfl, -, hc2⟩ := wi_form (W2.out.bw (B.out.trans C.out)) (by omega)
   obtain ⟨s1, m1, c1, x0, x1, x2, k1⟩ := hc1 j hjL
   obtain ⟨s2, m2, c2, y0, y1, y2, k2⟩ := hc2 j hjL
   obtain rfl : m1 = m2 := k1.1.symm.trans k2.1
   clear hc1 hc2
   generalize W[j] = wj at *
   obtain ⟨t, c, l⟩ := wj
   dsimp only at *
   have cS := Lib.hid (fun (y : World) (hy : BW wr y) => wsame_any t c s1 s2 m1 c1 c2 l y (k1.bw hy) (k2.bw hy))
   clear k1 k2
   replace hjL := Lib.hid hjL
   go_upto_region 6 with (fail)
   have e1 : ∀ y : LaterS [] wr, _ := fun y => y.bw.cell p1
   have e2 : ∀ y : LaterS [] wr, _ := fun y => y.bw.cell q1
   have f0 : ∀ y : LaterS [] wr, _ := fun y => y.bw.cell x0
   have f1 : ∀ y : LaterS [] wr, _ := fun y => y.bw.cell x1
   have f2 : ∀ y : LaterS [] wr, _ := fun y => y.bw.cell x2
   have g0 : ∀ y : LaterS [] wr, _ := fun y => y.bw.cell y0
   have g1' : ∀ y : LaterS [] wr, _ := fun y => y.bw.cell y1
   have g2' : ∀ y : LaterS [] wr, _ := fun y => y.bw.cell y2
   clear x0 x1 x2 y0 y1 y2 p1 q1
   refine wp_region_gg [] [] [] (by kernel_rfl) ?_
   refine hoist [] [] (a1 := ?_) 0 rfl (by kernel_rfl) (.inl ⟨rfl, rfl⟩) rfl rfl rfl (fun x K hK => ?_) ?_
   rotate_left
   ·go_big_quiet_op
    exact hK
   refine hoist [] [] (a1 := ?_) 1 rfl (by kernel_rfl) (.inl ⟨rfl, rfl⟩) rfl rfl rfl (fun x K hK => ?_) ?_
   rotate_left
   ·go_big_quiet_op
    exact hK
   refine hoist [] [] (a1 := ?_) 2 rfl (by kernel_rfl) (.inl ⟨rfl, rfl⟩) rfl rfl rfl (fun x K hK => ?_) ?_
   rotate_left
   ·go_big_quiet_op
    exact hK
   refine hoist [] [] (a1 := ?_) 3 rfl (by kernel_rfl) (.inl ⟨rfl, rfl⟩) rfl rfl rfl (fun x K hK => ?_) ?_
   rotate_left
   ·go_big_quiet_op
    exact hK
   refine hoist [] [] (a1 := ?_) 4 rfl (by kernel_rfl) (.inl ⟨rfl, rfl⟩) rfl rfl rfl (fun x K hK => ?_) ?_
   rotate_left
   ·go_big_quiet_op
    exact hK
   refine hoist [] [] (a1 := ?_) 5 rfl (by kernel_rfl) (.inl ⟨rfl, rfl⟩) rfl rfl rfl (fun x K hK => ?_) ?_
   rotate_left
   ·go_big_quiet_op
    exact hK
   refine hoist [] [] (a1 := ?_) 6 rfl (by kernel_rfl) (.inl ⟨rfl, rfl⟩) rfl rfl rfl (fun x K hK => ?_) ?_
   rotate_left
   ·go_big_quiet_op
    exact hK
   refine hoist [] [] (a1 := ?_) 7 rfl (by kernel_rfl) (.inl ⟨rfl, rfl⟩) rfl rfl rfl (fun x K hK => ?_) ?_
   rotate_left
   ·go_big_quiet_op
    exact hK
   refine hoist [] [] (a1 := ?_) 8 rfl (by kernel_rfl) (.inl ⟨rfl, rfl⟩) rfl rfl rfl (fun x K hK => ?_) ?_
   rotate_left
   ·go_big_quiet_op
    exact hK
   refine hoist [] [] (a1 := ?_) 9 rfl (by kernel_rfl) (.inl ⟨rfl, rfl⟩) rfl rfl rfl (fun x K hK => ?_) ?_
   rotate_left
   ·go_big_quiet_op
    exact hK
   refine hoist_call [] [] (a1 := ?_) 10 rfl (by kernel_rfl) (.inl ⟨rfl, rfl⟩) rfl rfl rfl (fun x K hK => ?_) ?_
   rotate_left
   ·go_big_quiet_op
    apply Exists.intro
    refine ⟨fun y => ?_, ?_⟩
    ·exact Calls.laterS_of (cS.out y.now (x.bw.trans y.bw))
    ·exact hK
   refine hoist [] [] (a1 := ?_) 11 rfl (by kernel_rfl) (.inl ⟨rfl, rfl⟩) rfl rfl rfl (fun x K hK => ?_) ?_
   rotate_left
   ·go_big_quiet_op
    exact hK
   refine done (by kernel_rfl) (fun xr => ?_)
   have C2 := Lib.hid (C.out.trans xr.bw)
   clear e1 e2 f0 f1 f2 g0 g1' g2' d C cS
   generalize xr.now = w9 at *
   clear xr
   go_wp2_with fail
   go_roundg (nW - (j + 1))
   case measure => omega
   case rel => exact ⟨j + 1, rfl, by omega, by push_cast; rfl, C2⟩
  ·obtain rfl : j = nW := by omega
   have d : decide ((j : Int) < (j : Int)) = false := by simp
   go_upto_region 9 with (fail)
   clear d p1 q1
   go_loopg [6] nH (fun m' i wx => ∃ k : Nat, m' = nH - k ∧ k ≤ nH ∧ i = .int .i64 (k : Nat) ∧ Hid (BW w2 wx))
   case atStart => exact ⟨0, rfl, by omega, rfl, C⟩
   case round =>
    clear C
    obtain ⟨k, rfl, hk, rfl, C⟩ := hrel
    have p2 := (hp_cell (P1.out.bw C.out) 2).trans (show _ = some (.slice sH1 nH cH1) from rfl)
    have q2 := (hp_cell (P2.out.bw C.out) 2).trans (show _ = some (.slice sH2 nH cH2) from rfl)
    by_cases hkn : k < nH
    ·have d : decide ((k : Int) < (nH : Int)) = true := by simp; omega
     have hkL : k < H.length := by rw [hnH.out]; exact hkn
     obtain ⟨b1, o1, rfl, hc1⟩ := he_form (H1.out.bw (B.out.trans C.out)) (by omega)
     obtain ⟨b2, o2, rfl, hc2⟩ := he_form (H2.out.bw (B.out.trans C.out)) (by omega)
     obtain ⟨x0, x1, x2⟩ := hc1 k hkL
     obtain ⟨y0, y1, y2⟩ := hc2 k hkL
     clear hc1 hc2
     generalize he H k = hk' at *
     obtain ⟨o, t, l⟩ := hk'
     dsimp only at *
     replace hkL := Lib.hid hkL
     go_upto_region 11 with (fail)
     have e1 : ∀ y : LaterS [] wr, _ := fun y => y.bw.cell p2
     have e2 : ∀ y : LaterS [] wr, _ := fun y => y.bw.cell q2
     have f0 : ∀ y : LaterS [] wr, _ := fun y => y.bw.cell x0
     have f1 : ∀ y : LaterS [] wr, _ := fun y => y.bw.cell x1
     have f2 : ∀ y : LaterS [] wr, _ := fun y => y.bw.cell x2
     have g0 : ∀ y : LaterS [] wr, _ := fun y => y.bw.cell y0
     have g1' : ∀ y : LaterS [] wr, _ := fun y => y.bw.cell y1
     have g2' : ∀ y : LaterS [] wr, _ := fun y => y.bw.cell y2
     clear x0 x1 x2 y0 y1 y2 p2 q2
     refine wp_region_gg [] [] [] (by kernel_rfl) ?_
     refine hoist [] [] (a1 := ?_) 0 rfl (by kernel_rfl) (.inl ⟨rfl, rfl⟩) rfl rfl rfl (fun x K hK => ?_) ?_
     rotate_left
     ·go_big_quiet_op
      exact hK
     refine hoist [] [] (a1 := ?_) 1 rfl (by kernel_rfl) (.inl ⟨rfl, rfl⟩) rfl rfl rfl (fun x K hK => ?_) ?_
     rotate_left
     ·go_big_quiet_op
      exact hK
     refine hoist [] [] (a1 := ?_) 2 rfl (by kernel_rfl) (.inl ⟨rfl, rfl⟩) rfl rfl rfl (fun x K hK => ?_) ?_
     rotate_left
     ·go_big_quiet_op
      exact hK
     refine hoist [] [] (a1 := ?_) 3 rfl (by kernel_rfl) (.inl ⟨rfl, rfl⟩) rfl rfl rfl (fun x K hK => ?_) ?_
     rotate_left
     ·go_big_quiet_op
      exact hK
     refine hoist [] [] (a1 := ?_) 4 rfl (by kernel_rfl) (.inl ⟨rfl, rfl⟩) rfl rfl rfl (fun x K hK => ?_) ?_
     rotate_left
     ·go_big_quiet_op
      exact hK
     refine hoist [] [] (a1 := ?_) 5 rfl (by kernel_rfl) (.inl ⟨rfl, rfl⟩) rfl rfl rfl (fun x K hK => ?_) ?_
     rotate_left
     ·go_big_quiet_op
      exact hK
     refine hoist [] [] (a1 := ?_) 6 rfl (by kernel_rfl) (.inl ⟨rfl, rfl⟩) rfl rfl rfl (fun x K hK => ?_) ?_
     rotate_left
     ·go_big_quiet_op
      exact hK
     refine hoist [] [] (a1 := ?_) 7 rfl (by kernel_rfl) (.inl ⟨rfl, rfl⟩) rfl rfl rfl (fun x K hK => ?_) ?_
     rotate_left
     ·go_big_quiet_op
      exact hK
     refine hoist [] [] (a1 := ?_) 8 rfl (by kernel_rfl) (.inl ⟨rfl, rfl⟩) rfl rfl rfl (fun x K hK => ?_) ?_
     rotate_left
     ·go_big_quiet_op
      exact hK
     refine hoist [] [] (a1 := ?_) 9 rfl (by kernel_rfl) (.inl ⟨rfl, rfl⟩) rfl rfl rfl (fun x K hK => ?_) ?_
     rotate_left
     ·go_big_quiet_op
      exact hK
     refine hoist [] [] (a1 := ?_) 10 rfl (by kernel_rfl) (.inl ⟨rfl, rfl⟩) rfl rfl rfl (fun x K hK => ?_) ?_
     rotate_left
     ·go_big_quiet_op
      exact hK
     refine done (by kernel_rfl) (fun xr => ?_)
     have C2 := Lib.hid (C.out.trans xr.bw)
     clear e1 e2 f0 f1 f2 g0 g1' g2' d C
     generalize xr.now = w9 at *
     clear xr
     go_wp2_with fail
     go_roundg (nH - (k + 1))
     case measure => omega
     case rel => exact ⟨k + 1, rfl, by omega, by push_cast; rfl, C2⟩
    ·obtain rfl : k = nH := by omega
     have d : decide ((k : Int) < (k : Int)) = false := by simp
     go_wp2_with fail
     go_ret
     exact ⟨rfl, B.out.trans C.out⟩
end Go.Proofs.YtafhnlnhflehhaaGreatDoor
