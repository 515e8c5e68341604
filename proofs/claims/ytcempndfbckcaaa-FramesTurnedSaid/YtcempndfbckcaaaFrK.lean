/- Frames: a frame is the same as itself. No condition. -/
import Derived.Test.YtcempndfbckcaaaFrI
namespace Go.Proofs.Ytcempndfbckcaaa
open Go.RowKit

set_option maxRecDepth 100000 in
set_option maxHeartbeats 8000000 in
theorem frSame_true (c1 c2 : Array Value) (d : FrD) (w : World) (h1 : FrV w c1 d) (h2 : FrV w c2 d) :
    Calls Try.prog 27 #[.agg c1, .agg c2] w fun e w' => e = .returned (.bool true) ∧ BW w w' := by
  obtain ⟨s1, e1, rfl, N1, n1, m1⟩ := h1.open
  obtain ⟨s2, e2, rfl, N2, n2, m2⟩ := h2.open
  obtain ⟨k, s, nc, r, t, o, l, L⟩ := d
  dsimp only at *
  clear h1 h2
  simp only [frC] at *
  generalize hLn : L.length = n at *
  have B1 : BW w (w.alloc (.cells #[.int .i64 k, .int .i64 s, .int .u64 (nc : Nat), .int .i64 r, .int .i64 t, .int .i64 o, .int .i64 l, .slice s1 n e1] 35)) := (BW.refl w).alloc
  have B2 : BW (w.alloc (.cells #[.int .i64 k, .int .i64 s, .int .u64 (nc : Nat), .int .i64 r, .int .i64 t, .int .i64 o, .int .i64 l, .slice s1 n e1] 35)) ((w.alloc (.cells #[.int .i64 k, .int .i64 s, .int .u64 (nc : Nat), .int .i64 r, .int .i64 t, .int .i64 o, .int .i64 l, .slice s1 n e1] 35)).alloc (.cells #[.int .i64 k, .int .i64 s, .int .u64 (nc : Nat), .int .i64 r, .int .i64 t, .int .i64 o, .int .i64 l, .slice s2 n e2] 35)) := (BW.refl _).alloc
  have P1 := Lib.hid ((HpB.new w (.cells #[.int .i64 k, .int .i64 s, .int .u64 (nc : Nat), .int .i64 r, .int .i64 t, .int .i64 o, .int .i64 l, .slice s1 n e1] 35)).bw B2)
  have P2 : Hid (HpB ((w.alloc (.cells #[.int .i64 k, .int .i64 s, .int .u64 (nc : Nat), .int .i64 r, .int .i64 t, .int .i64 o, .int .i64 l, .slice s1 n e1] 35)).alloc (.cells #[.int .i64 k, .int .i64 s, .int .u64 (nc : Nat), .int .i64 r, .int .i64 t, .int .i64 o, .int .i64 l, .slice s2 n e2] 35)) (w.heap.size + 1) (.cells #[.int .i64 k, .int .i64 s, .int .u64 (nc : Nat), .int .i64 r, .int .i64 t, .int .i64 o, .int .i64 l, .slice s2 n e2] 35)) := hp_new _ _ _ (by simp)
  have B := Lib.hid (B1.trans B2)
  clear B1 B2
  replace N1 := Lib.hid N1
  replace N2 := Lib.hid N2
  replace hLn := Lib.hid hLn
  go_enter Try.func27, Try.ntmps27
  go_upto_region 1 with (fail)
  generalize (w.alloc (.cells #[.int .i64 k, .int .i64 s, .int .u64 (nc : Nat), .int .i64 r, .int .i64 t, .int .i64 o, .int .i64 l, .slice s1 n e1] 35)).alloc (.cells #[.int .i64 k, .int .i64 s, .int .u64 (nc : Nat), .int .i64 r, .int .i64 t, .int .i64 o, .int .i64 l, .slice s2 n e2] 35) = w2 at *
  have z0 := hp_cell (P1.out) 0
  have z1 := hp_cell (P1.out) 1
  have z2 := hp_cell (P1.out) 2
  have z3 := hp_cell (P1.out) 3
  have z4 := hp_cell (P1.out) 4
  have z5 := hp_cell (P1.out) 5
  have z6 := hp_cell (P1.out) 6
  have z7 := hp_cell (P1.out) 7
  simp only [List.getElem?_toArray, List.getElem?_cons_zero, List.getElem?_cons_succ] at z0 z1 z2 z3 z4 z5 z6 z7
  have y0 := hp_cell (P2.out) 0
  have y1 := hp_cell (P2.out) 1
  have y2 := hp_cell (P2.out) 2
  have y3 := hp_cell (P2.out) 3
  have y4 := hp_cell (P2.out) 4
  have y5 := hp_cell (P2.out) 5
  have y6 := hp_cell (P2.out) 6
  have y7 := hp_cell (P2.out) 7
  simp only [List.getElem?_toArray, List.getElem?_cons_zero, List.getElem?_cons_succ] at y0 y1 y2 y3 y4 y5 y6 y7
  go_upto_region 4 with (fail)
  clear z0 z1 z2 z3 z4 z5 z6 z7 y0 y1 y2 y3 y4 y5 y6 y7
  go_loopg [5] n (fun m' i wx => ∃ j : Nat, m' = n - j ∧ j ≤ n ∧ i = .int .i64 (j : Nat) ∧ Hid (BW w2 wx))
  case atStart => exact ⟨0, rfl, by omega, rfl, BW.refl _⟩
  case round =>
    obtain ⟨j, rfl, hj, rfl, C⟩ := hrel
    have p7 := hp_cell (P1.out.bw C.out) 7
    have q7 := hp_cell (P2.out.bw C.out) 7
    simp only [List.getElem?_toArray, List.getElem?_cons_zero, List.getElem?_cons_succ] at p7 q7
    obtain ⟨wq, rfl⟩ : ∃ x, x = wr := ⟨_, rfl⟩
    by_cases hjn : j < n
    · have d : decide ((j : Int) < (n : Int)) = true := by simp; omega
      obtain ⟨b1, o1, cp1, he, _, _, _, hc1⟩ := (N1.out.bw (B.out.trans C.out)).form (by omega)
      cases he
      obtain ⟨b2, o2, cp2, he, _, _, _, hc2⟩ := (N2.out.bw (B.out.trans C.out)).form (by omega)
      cases he
      have z1 := hc1 j hjn
      have z2 := hc2 j hjn
      clear hc1 hc2
      go_upto_region 6 with (fail)
      have a1 : ∀ y : LaterS [] wq, _ := fun y => y.bw.cell p7
      have a2 : ∀ y : LaterS [] wq, _ := fun y => y.bw.cell q7
      have a3 : ∀ y : LaterS [] wq, _ := fun y => y.bw.cell z1
      have a4 : ∀ y : LaterS [] wq, _ := fun y => y.bw.cell z2
      refine wp_region_gg [] [] [] (by kernel_rfl) ?_
      refine hoist [] [] (a1 := ?_) 0 rfl (by kernel_rfl) (.inl ⟨rfl, rfl⟩) rfl rfl rfl (fun x K hK => ?_) ?_
      rotate_left
      · go_big_quiet_op
        exact hK
      refine hoist [] [] (a1 := ?_) 1 rfl (by kernel_rfl) (.inl ⟨rfl, rfl⟩) rfl rfl rfl (fun x K hK => ?_) ?_
      rotate_left
      · go_big_quiet_op
        exact hK
      refine hoist [] [] (a1 := ?_) 2 rfl (by kernel_rfl) (.inl ⟨rfl, rfl⟩) rfl rfl rfl (fun x K hK => ?_) ?_
      rotate_left
      · go_big_quiet_op
        exact hK
      refine hoist [] [] (a1 := ?_) 3 rfl (by kernel_rfl) (.inl ⟨rfl, rfl⟩) rfl rfl rfl (fun x K hK => ?_) ?_
      rotate_left
      · go_big_quiet_op
        exact hK
      refine hoist [] [] (a1 := ?_) 4 rfl (by kernel_rfl) (.inl ⟨rfl, rfl⟩) rfl rfl rfl (fun x K hK => ?_) ?_
      rotate_left
      · go_big_quiet_op
        exact hK
      refine hoist [] [] (a1 := ?_) 5 rfl (by kernel_rfl) (.inl ⟨rfl, rfl⟩) rfl rfl rfl (fun x K hK => ?_) ?_
      rotate_left
      · go_big_quiet_op
        exact hK
      refine hoist [] [] (a1 := ?_) 6 rfl (by kernel_rfl) (.inl ⟨rfl, rfl⟩) rfl rfl rfl (fun x K hK => ?_) ?_
      rotate_left
      · go_big_quiet_op
        exact hK
      refine hoist [] [] (a1 := ?_) 7 rfl (by kernel_rfl) (.inl ⟨rfl, rfl⟩) rfl rfl rfl (fun x K hK => ?_) ?_
      rotate_left
      · go_big_quiet_op
        exact hK
      refine hoist [] [] (a1 := ?_) 8 rfl (by kernel_rfl) (.inl ⟨rfl, rfl⟩) rfl rfl rfl (fun x K hK => ?_) ?_
      rotate_left
      · go_big_quiet_op
        exact hK
      refine hoist [] [] (a1 := ?_) 9 rfl (by kernel_rfl) (.inl ⟨rfl, rfl⟩) rfl rfl rfl (fun x K hK => ?_) ?_
      rotate_left
      · go_big_quiet_op
        exact hK
      refine hoist [] [] (a1 := ?_) 10 rfl (by kernel_rfl) (.inl ⟨rfl, rfl⟩) rfl rfl rfl (fun x K hK => ?_) ?_
      rotate_left
      · go_big_quiet_op
        exact hK
      refine done (by kernel_rfl) (fun xr => ?_)
      have C2 := Lib.hid (C.out.trans xr.bw)
      clear a1 a2 a3 a4 z1 z2 p7 q7 d C
      generalize xr.now = w9 at *
      go_wp2_with fail
      go_roundg (n - (j + 1))
      case measure => omega
      case rel => exact ⟨j + 1, rfl, by omega, by push_cast; rfl, C2⟩
    · obtain rfl : j = n := by omega
      have d : decide ((j : Int) < (j : Int)) = false := by simp
      go_wp2_with fail
      go_ret
      exact ⟨rfl, B.out.trans C.out⟩
end Go.Proofs.Ytcempndfbckcaaa
