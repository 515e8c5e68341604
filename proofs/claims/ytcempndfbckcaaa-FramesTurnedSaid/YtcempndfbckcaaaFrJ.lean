/- Frames: the reference's Read. No condition but the sizes'. -/
import Derived.Test.YtcempndfbckcaaaFrI
import Derived.Test.YtcempndfbckcaaaGFr
import Derived.Test.YtcempndfbckcaaaRfM
import Derived.Test.YtcempndfbckcaaaBsj
namespace Go.Proofs.Ytcempndfbckcaaa
open Go.RowKit

section
variable {T E : TypeId} {bytes : Nat}
/-- append(s, x...) of numbers, beside other operations. -/
theorem wp_apN (hT : SlTy Try.prog T E 1 bytes) {o : Oper} {a : Act} {w : World} {K : Act → World → Prop} {Q : Exit → Act → World → Prop} (s x : Operand)
    (ho : o.op = .call { callee := .builtin .append, args := #[s, x], argTypes := #[T, T] }) (base : Nat) (k : IntKind) (v : Value) (n : Nat) (l : List Int) (hs : a.eval s = v) (hown : NO w base E k v n l) (xv : Value) (hx : a.eval x = xv) (m : Nat) (ys : List Int) (hk : NB w k xv m ys)
    (hsz : (n + m) * bytes ≤ 140737488355328) (hbase : base ≤ w.heap.size)
    (h : ∀ sa cap w', n + m ≤ cap → cap ≤ maxLen → NO w' base E k (.slice sa (n + m) cap) (n + m) (l ++ ys) → Still v.ownBlock.toList w w' → Below base w w' → (∀ j, (Value.slice sa (n + m) cap).ownBlock = some j → v.ownBlock = some j ∨ w.heap.size ≤ j) → K (a.put o.dst (.slice sa (n + m) cap)) w') : o.wp Try.prog a w K Q := by
  refine wp_aps hT T s x ho base v n (nvs k l) hs hown.2 xv hx m (nvs k ys) (.sl _ _ _ _ _ hT.ht hk.2 (nvs_one k ys)) hsz hbase fun v' w' h1 h2 h3 => ?_
  have h4 : NO w' base E k v' (n + m) (l ++ ys) := ⟨by rw [List.length_append, hown.1, hk.1], by rw [← nvs_append]; exact h1⟩
  obtain ⟨sa, cap, rfl, hc, hm⟩ := h4.len
  exact h sa cap w' hc hm h4 (Still.of_row h2) (Ows.grown hbase (Nat.le_refl _) hown.2 h2) h3
end
set_option maxRecDepth 100000 in
set_option maxHeartbeats 8000000 in
theorem frRRead_any (sb : Option Addr) (n cb : Nat) (l : List Nat) (sk : Option Addr) (nk ck : Nat) (key : List Nat) (w : World) (h : SB w (.slice sb n cb) n l) (hk : SB w (.slice sk nk ck) nk key) (hn : n ≤ 1000000) (hnk : nk ≤ 1000000) :
    Calls Try.prog 28 #[.slice sb n cb, .slice sk nk ck] w (FrRdPost (rdF key l) w) := by
  have hR2 := Lib.hid (fun h => rd_short (key := key) (l := l) h)
  have hR3 := Lib.hid (fun h1 h2 => rd_form (key := key) (l := l) h1 h2)
  have hR4 := Lib.hid (fun h1 h2 h3 => rd_may (key := key) h.2.1 h1 h2 h3)
  have hR5 := Lib.hid (fun h1 h2 h3 => rd_ok (key := key) h.2.1 h1 h2 h3)
  have hwf := Lib.hid (fun m h2 => frOf_wf h.2.1 (m := m) h2)
  obtain ⟨RR, hRR⟩ : ∃ RR, rdF key l = RR := ⟨_, rfl⟩
  simp only [hRR] at hR2 hR3 hR4 hR5
  rw [hRR]
  clear hRR
  obtain ⟨_, _, he, hc, hm⟩ := h.len
  cases he
  obtain ⟨_, _, he, hkc, hkm⟩ := hk.len
  cases he
  unfold maxLen at hm hkm
  have hby := fun i => ByL.get h.2.1 i
  have hll := h.1
  have SBl := Lib.hid h.2.1
  have Z : Hid (HpB ((w.alloc (.cells #[.int .i64 0, .int .i64 0, .int .u64 0, .int .i64 0, .int .i64 0, .int .i64 0, .int .i64 0, .slice none 0 0] 35)).alloc (.cells #[.int .i64 0, .int .i64 0, .int .u64 0, .int .i64 0, .int .i64 0, .int .i64 0, .int .i64 0, .slice none 0 0] 35)) w.heap.size (.cells #[.int .i64 0, .int .i64 0, .int .u64 0, .int .i64 0, .int .i64 0, .int .i64 0, .int .i64 0, .slice none 0 0] 35)) := (HpB.new w _).bw (BW.refl _).alloc
  have G : Hid (HpB ((w.alloc (.cells #[.int .i64 0, .int .i64 0, .int .u64 0, .int .i64 0, .int .i64 0, .int .i64 0, .int .i64 0, .slice none 0 0] 35)).alloc (.cells #[.int .i64 0, .int .i64 0, .int .u64 0, .int .i64 0, .int .i64 0, .int .i64 0, .int .i64 0, .slice none 0 0] 35)) (w.heap.size + 1) (.cells #[.int .i64 0, .int .i64 0, .int .u64 0, .int .i64 0, .int .i64 0, .int .i64 0, .int .i64 0, .slice none 0 0] 35)) := hp_new _ _ _ (by simp)
  have B : Hid (BW w ((w.alloc (.cells #[.int .i64 0, .int .i64 0, .int .u64 0, .int .i64 0, .int .i64 0, .int .i64 0, .int .i64 0, .slice none 0 0] 35)).alloc (.cells #[.int .i64 0, .int .i64 0, .int .u64 0, .int .i64 0, .int .i64 0, .int .i64 0, .int .i64 0, .slice none 0 0] 35))) := ((BW.refl w).alloc).alloc
  have V := Lib.hid h
  have K := Lib.hid hk
  clear h hk
  unfold FrRdPost
  rw [hll] at hR2 hR3 hR4 hR5
  replace hby := Lib.hid hby
  replace hll := Lib.hid hll
  go_enter Try.func28, Try.ntmps28
  go_upto_region 2 with (fail)
  generalize (w.alloc (.cells #[.int .i64 0, .int .i64 0, .int .u64 0, .int .i64 0, .int .i64 0, .int .i64 0, .int .i64 0, .slice none 0 0] 35)).alloc (.cells #[.int .i64 0, .int .i64 0, .int .u64 0, .int .i64 0, .int .i64 0, .int .i64 0, .int .i64 0, .slice none 0 0] 35) = w1 at *
  by_cases h1 : n < 25
  · have d : decide ((n : Int) < 25) = true := by simp; omega
    have hRd := Lib.hid (hR2.out h1)
    go_upto_region 3 with (fail)
    have z0 := hp_cell (Z.out) 0
    have y0 := hp_frz (Z.out) 0
    have z1 := hp_cell (Z.out) 1
    have y1 := hp_frz (Z.out) 1
    have z2 := hp_cell (Z.out) 2
    have y2 := hp_frz (Z.out) 2
    have z3 := hp_cell (Z.out) 3
    have y3 := hp_frz (Z.out) 3
    have z4 := hp_cell (Z.out) 4
    have y4 := hp_frz (Z.out) 4
    have z5 := hp_cell (Z.out) 5
    have y5 := hp_frz (Z.out) 5
    have z6 := hp_cell (Z.out) 6
    have y6 := hp_frz (Z.out) 6
    have z7 := hp_cell (Z.out) 7
    have y7 := hp_frz (Z.out) 7
    simp only [zFC, frC, List.getElem?_toArray, List.getElem?_cons_zero, List.getElem?_cons_succ] at z0 z1 z2 z3 z4 z5 z6 z7
    have k0 := hp_cell (G.out) 0
    have k1 := hp_cell (G.out) 1
    have k2 := hp_cell (G.out) 2
    have k3 := hp_cell (G.out) 3
    have k4 := hp_cell (G.out) 4
    have k5 := hp_cell (G.out) 5
    have k6 := hp_cell (G.out) 6
    have k7 := hp_cell (G.out) 7
    simp only [List.getElem?_toArray, List.getElem?_cons_zero, List.getElem?_cons_succ] at k0 k1 k2 k3 k4 k5 k6 k7
    go_wp2_with fail
    clear z0 z1 z2 z3 z4 z5 z6 z7 y0 y1 y2 y3 y4 y5 y6 y7 k0 k1 k2 k3 k4 k5 k6 k7
    have TS := still_st8 w1 w.heap.size (.int .i64 0) (.int .i64 0) (.int .u64 0) (.int .i64 0) (.int .i64 0) (.int .i64 0) (.int .i64 0) (.slice none 0 0)
    have Z4 := Z.out.st8 rfl (.int .i64 0) (.int .i64 0) (.int .u64 0) (.int .i64 0) (.int .i64 0) (.int .i64 0) (.int .i64 0) (.slice none 0 0)
    have T4 := B.out.stP TS (by simp)
    have z0 := hp_cell (Z4) 0
    have z1 := hp_cell (Z4) 1
    have z2 := hp_cell (Z4) 2
    have z3 := hp_cell (Z4) 3
    have z4 := hp_cell (Z4) 4
    have z5 := hp_cell (Z4) 5
    have z6 := hp_cell (Z4) 6
    have z7 := hp_cell (Z4) 7
    simp only [List.getElem?_toArray, List.getElem?_cons_zero, List.getElem?_cons_succ] at z0 z1 z2 z3 z4 z5 z6 z7
    have V4 := FrV.zero ((((((((w1.setCell ⟨w.heap.size, 0, none⟩ (.int .i64 0)).setCell ⟨w.heap.size, 1, none⟩ (.int .i64 0)).setCell ⟨w.heap.size, 2, none⟩ (.int .u64 0)).setCell ⟨w.heap.size, 3, none⟩ (.int .i64 0)).setCell ⟨w.heap.size, 4, none⟩ (.int .i64 0)).setCell ⟨w.heap.size, 5, none⟩ (.int .i64 0)).setCell ⟨w.heap.size, 6, none⟩ (.int .i64 0)).setCell ⟨w.heap.size, 7, none⟩ (.slice none 0 0))
    replace Z4 := Lib.hid Z4
    replace TS := Lib.hid TS
    replace T4 := Lib.hid T4
    replace V4 := Lib.hid V4
    exact bodyPost_ret (v := .tuple #[.agg zFC, .int .i64 2]) (by simp [results, Try.results28, go_sem, z0, z1, z2, z3, z4, z5, z6, z7, zFC, frC]) rfl ⟨_, by rw [hRd.out]; rfl, by rw [hRd.out]; exact V4.out, T4.out⟩
  have d : decide ((n : Int) < 25) = false := by simp; omega
  obtain ⟨b, o, cap', he, _, _, hbw, hcell⟩ := V.out.form (by omega)
  cases he
  have x0 := B.out.cell (hcell 0 (by omega))
  have x1 := B.out.cell (hcell 1 (by omega))
  have x10 := B.out.cell (hcell 10 (by omega))
  have x11 := B.out.cell (hcell 11 (by omega))
  have x12 := B.out.cell (hcell 12 (by omega))
  have x13 := B.out.cell (hcell 13 (by omega))
  have x14 := B.out.cell (hcell 14 (by omega))
  rw [Nat.add_zero] at x0
  have l0 := hby.out 0
  have l1 := hby.out 1
  have l10 := hby.out 10
  have l11 := hby.out 11
  have l12 := hby.out 12
  have l13 := hby.out 13
  have l14 := hby.out 14
  have hfo : frOf l (l.getD 14 0) = ⟨(l.getD 0 0 : Nat), (l.getD 1 0 : Nat), numB ((l.drop 2).take 8), (l.getD 10 0 : Nat), (l.getD 11 0 : Nat), (l.getD 12 0 : Nat), layF (l.getD 13 0), srcF l (l.getD 14 0)⟩ := rfl
  replace hwf := Lib.hid (hwf.out (l.getD 14 0))
  rw [hfo] at hR4 hR5 hwf
  clear hcell hfo hR2
  generalize l.getD 0 0 = b0 at *
  generalize l.getD 1 0 = b1 at *
  generalize l.getD 10 0 = b10 at *
  generalize l.getD 11 0 = b11 at *
  generalize l.getD 12 0 = b12 at *
  generalize l.getD 13 0 = b13 at *
  generalize l.getD 14 0 = m at *
  by_cases h2 : n = 25 + 4 * m
  case neg =>
    have q : ((n : Int) != 25 + 4 * (m : Int)) = true := by rw [bne_iff_ne]; omega
    have hRd := Lib.hid (hR3.out h1 h2)
    replace h2 := Lib.hid h2
    go_upto_region 6 with (fail)
    have z0 := hp_cell (Z.out) 0
    have y0 := hp_frz (Z.out) 0
    have z1 := hp_cell (Z.out) 1
    have y1 := hp_frz (Z.out) 1
    have z2 := hp_cell (Z.out) 2
    have y2 := hp_frz (Z.out) 2
    have z3 := hp_cell (Z.out) 3
    have y3 := hp_frz (Z.out) 3
    have z4 := hp_cell (Z.out) 4
    have y4 := hp_frz (Z.out) 4
    have z5 := hp_cell (Z.out) 5
    have y5 := hp_frz (Z.out) 5
    have z6 := hp_cell (Z.out) 6
    have y6 := hp_frz (Z.out) 6
    have z7 := hp_cell (Z.out) 7
    have y7 := hp_frz (Z.out) 7
    simp only [zFC, frC, List.getElem?_toArray, List.getElem?_cons_zero, List.getElem?_cons_succ] at z0 z1 z2 z3 z4 z5 z6 z7
    have k0 := hp_cell (G.out) 0
    have k1 := hp_cell (G.out) 1
    have k2 := hp_cell (G.out) 2
    have k3 := hp_cell (G.out) 3
    have k4 := hp_cell (G.out) 4
    have k5 := hp_cell (G.out) 5
    have k6 := hp_cell (G.out) 6
    have k7 := hp_cell (G.out) 7
    simp only [List.getElem?_toArray, List.getElem?_cons_zero, List.getElem?_cons_succ] at k0 k1 k2 k3 k4 k5 k6 k7
    go_wp2_with fail
    clear z0 z1 z2 z3 z4 z5 z6 z7 y0 y1 y2 y3 y4 y5 y6 y7 k0 k1 k2 k3 k4 k5 k6 k7
    have TS := still_st8 w1 w.heap.size (.int .i64 0) (.int .i64 0) (.int .u64 0) (.int .i64 0) (.int .i64 0) (.int .i64 0) (.int .i64 0) (.slice none 0 0)
    have Z4 := Z.out.st8 rfl (.int .i64 0) (.int .i64 0) (.int .u64 0) (.int .i64 0) (.int .i64 0) (.int .i64 0) (.int .i64 0) (.slice none 0 0)
    have T4 := B.out.stP TS (by simp)
    have z0 := hp_cell (Z4) 0
    have z1 := hp_cell (Z4) 1
    have z2 := hp_cell (Z4) 2
    have z3 := hp_cell (Z4) 3
    have z4 := hp_cell (Z4) 4
    have z5 := hp_cell (Z4) 5
    have z6 := hp_cell (Z4) 6
    have z7 := hp_cell (Z4) 7
    simp only [List.getElem?_toArray, List.getElem?_cons_zero, List.getElem?_cons_succ] at z0 z1 z2 z3 z4 z5 z6 z7
    have V4 := FrV.zero ((((((((w1.setCell ⟨w.heap.size, 0, none⟩ (.int .i64 0)).setCell ⟨w.heap.size, 1, none⟩ (.int .i64 0)).setCell ⟨w.heap.size, 2, none⟩ (.int .u64 0)).setCell ⟨w.heap.size, 3, none⟩ (.int .i64 0)).setCell ⟨w.heap.size, 4, none⟩ (.int .i64 0)).setCell ⟨w.heap.size, 5, none⟩ (.int .i64 0)).setCell ⟨w.heap.size, 6, none⟩ (.int .i64 0)).setCell ⟨w.heap.size, 7, none⟩ (.slice none 0 0))
    replace Z4 := Lib.hid Z4
    replace TS := Lib.hid TS
    replace T4 := Lib.hid T4
    replace V4 := Lib.hid V4
    exact bodyPost_ret (v := .tuple #[.agg zFC, .int .i64 3]) (by simp [results, Try.results28, go_sem, z0, z1, z2, z3, z4, z5, z6, z7, zFC, frC]) rfl ⟨_, by rw [hRd.out]; rfl, by rw [hRd.out]; exact V4.out, T4.out⟩
  have q : ((n : Int) != 25 + 4 * (m : Int)) = false := by rw [bne_eq_false_iff_eq]; omega
  replace h2 := Lib.hid h2
  obtain ⟨nn, hnn⟩ : ∃ nn, numB ((l.drop 2).take 8) = nn := ⟨_, rfl⟩
  have cN := fun wz hb => Lib.hid (rnum8_ok (.slice (some ⟨b, o, none⟩) n cb) n l 2 8 2 8 (by decide) (by decide) (by omega) (by omega) rfl rfl wz (V.out.bw (B.out.trans (b := w1) hb)))
  rw [hnn] at hR4 hR5 hwf
  simp only [hnn] at cN
  clear hnn
  have m0 : ∀ y : LaterS [] w1, _ := fun y => y.bw.cell x0
  have m1 : ∀ y : LaterS [] w1, _ := fun y => y.bw.cell x1
  have m10 : ∀ y : LaterS [] w1, _ := fun y => y.bw.cell x10
  have m11 : ∀ y : LaterS [] w1, _ := fun y => y.bw.cell x11
  have m12 : ∀ y : LaterS [] w1, _ := fun y => y.bw.cell x12
  have m13 : ∀ y : LaterS [] w1, _ := fun y => y.bw.cell x13
  replace cN := Lib.hid cN
  have hg6 : w.heap.size + 1 < w1.heap.size := G.out.lt
  go_upto_region 7 with (fail)
  refine wp_region_gg [] [] [26] (by kernel_rfl) ?_
  refine hoist [] [] (a1 := ?_) 0 rfl (by kernel_rfl) (.inl ⟨rfl, rfl⟩) rfl rfl rfl (fun x K hK => ?_) ?_
  rotate_left
  · go_big_quiet_op
    exact hK
  refine hoist [] [] (a1 := ?_) 1 rfl (by kernel_rfl) (.inl ⟨rfl, rfl⟩) rfl rfl rfl (fun x K hK => ?_) ?_
  rotate_left
  · go_big_quiet_op
    exact hK
  refine hoist [] [] (a1 := ?_) 2 rfl (by kernel_rfl) (.inl ⟨rfl, rfl⟩) rfl rfl rfl (fun x K hK => ?_) ?_
  rotate_left
  · go_big_quiet_op
    exact hK
  refine hoist [] [] (a1 := ?_) 3 rfl (by kernel_rfl) (.inl ⟨rfl, rfl⟩) rfl rfl rfl (fun x K hK => ?_) ?_
  rotate_left
  · go_big_quiet_op
    exact hK
  refine hoist [] [] (a1 := ?_) 4 rfl (by kernel_rfl) (.inl ⟨rfl, rfl⟩) rfl rfl rfl (fun x K hK => ?_) ?_
  rotate_left
  · go_big_quiet_op
    exact hK
  refine hoist [] [] (a1 := ?_) 5 rfl (by kernel_rfl) (.inl ⟨rfl, rfl⟩) rfl rfl rfl (fun x K hK => ?_) ?_
  rotate_left
  · go_big_quiet_op
    exact hK
  refine hoist [] [] (a1 := ?_) 6 rfl (by kernel_rfl) (.inl ⟨rfl, rfl⟩) rfl rfl rfl (fun x K hK => ?_) ?_
  rotate_left
  · go_big_quiet_op
    exact hK
  refine hoist [] [] (a1 := ?_) 7 rfl (by kernel_rfl) (.inl ⟨rfl, rfl⟩) rfl rfl rfl (fun x K hK => ?_) ?_
  rotate_left
  · go_big_quiet_op
    exact hK
  refine hoist [] [] (a1 := ?_) 8 rfl (by kernel_rfl) (.inl ⟨rfl, rfl⟩) rfl rfl rfl (fun x K hK => ?_) ?_
  rotate_left
  · go_big_quiet_op
    exact hK
  refine hoist_call [] [] (a1 := ?_) 9 rfl (by kernel_rfl) (.inl ⟨rfl, rfl⟩) rfl rfl rfl (fun x K hK => ?_) ?_
  rotate_left
  · go_big_quiet_op
    apply Exists.intro
    refine ⟨fun y => ?_, ?_⟩
    · exact ((cN.out y.now (x.bw.trans y.bw)).out.mono fun _ _ h => ⟨h.1, y, h.2.symm⟩)
    · exact hK
  refine hoist [] [] (a1 := ?_) 10 rfl (by kernel_rfl) (.inl ⟨rfl, rfl⟩) rfl rfl rfl (fun x K hK => ?_) ?_
  rotate_left
  · go_big_quiet_op
    exact hK
  refine hoist [] [] (a1 := ?_) 11 rfl (by kernel_rfl) (.inl ⟨rfl, rfl⟩) rfl rfl rfl (fun x K hK => ?_) ?_
  rotate_left
  · go_big_quiet_op
    exact hK
  refine hoist [] [] (a1 := ?_) 12 rfl (by kernel_rfl) (.inl ⟨rfl, rfl⟩) rfl rfl rfl (fun x K hK => ?_) ?_
  rotate_left
  · go_big_quiet_op
    exact hK
  refine hoist [] [] (a1 := ?_) 13 rfl (by kernel_rfl) (.inl ⟨rfl, rfl⟩) rfl rfl rfl (fun x K hK => ?_) ?_
  rotate_left
  · go_big_quiet_op
    exact hK
  refine hoist [] [] (a1 := ?_) 14 rfl (by kernel_rfl) (.inl ⟨rfl, rfl⟩) rfl rfl rfl (fun x K hK => ?_) ?_
  rotate_left
  · go_big_quiet_op
    exact hK
  refine hoist [] [] (a1 := ?_) 15 rfl (by kernel_rfl) (.inl ⟨rfl, rfl⟩) rfl rfl rfl (fun x K hK => ?_) ?_
  rotate_left
  · go_big_quiet_op
    exact hK
  refine hoist [] [] (a1 := ?_) 16 rfl (by kernel_rfl) (.inl ⟨rfl, rfl⟩) rfl rfl rfl (fun x K hK => ?_) ?_
  rotate_left
  · go_big_quiet_op
    exact hK
  refine hoist [] [] (a1 := ?_) 17 rfl (by kernel_rfl) (.inl ⟨rfl, rfl⟩) rfl rfl rfl (fun x K hK => ?_) ?_
  rotate_left
  · go_big_quiet_op
    exact hK
  refine hoist [] [] (a1 := ?_) 18 rfl (by kernel_rfl) (.inl ⟨rfl, rfl⟩) rfl rfl rfl (fun x K hK => ?_) ?_
  rotate_left
  · go_big_quiet_op
    exact hK
  refine hoist [] [] (a1 := ?_) 19 rfl (by kernel_rfl) (.inl ⟨rfl, rfl⟩) rfl rfl rfl (fun x K hK => ?_) ?_
  rotate_left
  · go_big_quiet_op
    exact hK
  refine hoist [] [] (a1 := ?_) 20 rfl (by kernel_rfl) (.inl ⟨rfl, rfl⟩) rfl rfl rfl (fun x K hK => ?_) ?_
  rotate_left
  · go_big_quiet_op
    exact hK
  refine hoist [] [] (a1 := ?_) 21 rfl (by kernel_rfl) (.inl ⟨rfl, rfl⟩) rfl rfl rfl (fun x K hK => ?_) ?_
  rotate_left
  · go_big_quiet_op
    exact hK
  refine hoist [] [] (a1 := ?_) 22 rfl (by kernel_rfl) (.inl ⟨rfl, rfl⟩) rfl rfl rfl (fun x K hK => ?_) ?_
  rotate_left
  · go_big_quiet_op
    exact hK
  refine hoist [] [] (a1 := ?_) 23 rfl (by kernel_rfl) (.inl ⟨rfl, rfl⟩) rfl rfl rfl (fun x K hK => ?_) ?_
  rotate_left
  · go_big_quiet_op
    exact hK
  refine hoist [] [] (a1 := ?_) 24 rfl (by kernel_rfl) (.inl ⟨rfl, rfl⟩) rfl rfl rfl (fun x K hK => ?_) ?_
  rotate_left
  · go_big_quiet_op
    exact hK
  refine hoist [] [] (a1 := ?_) 25 rfl (by kernel_rfl) (.inl ⟨rfl, rfl⟩) rfl rfl rfl (fun x K hK => ?_) ?_
  rotate_left
  · go_big_quiet_op
    exact hK
  refine tail 26 rfl (by kernel_rfl) rfl (fun xr => ?_)
  simp only [List.drop_succ_cons, List.drop_zero]
  have hw1 := xr.bw.size
  have G2 := Lib.hid (G.out.bw xr.bw)
  have Z2 := Lib.hid (Z.out.bw xr.bw)
  have B2 := Lib.hid (B.out.trans xr.bw)
  have x13' := xr.bw.cell x13
  clear G Z m0 m1 m10 m11 m12 m13 x0 x1 x10 x11 x12 x14 cN
  generalize xr.now = w2 at *
  have z0 := hp_cell (G2.out) 0
  have y0 := hp_frz (G2.out) 0
  have z1 := hp_cell (G2.out) 1
  have y1 := hp_frz (G2.out) 1
  have z2 := hp_cell (G2.out) 2
  have y2 := hp_frz (G2.out) 2
  have z3 := hp_cell (G2.out) 3
  have y3 := hp_frz (G2.out) 3
  have z4 := hp_cell (G2.out) 4
  have y4 := hp_frz (G2.out) 4
  have z5 := hp_cell (G2.out) 5
  have y5 := hp_frz (G2.out) 5
  have z6 := hp_cell (G2.out) 6
  have y6 := hp_frz (G2.out) 6
  have z7 := hp_cell (G2.out) 7
  have y7 := hp_frz (G2.out) 7
  simp only [List.getElem?_toArray, List.getElem?_cons_zero, List.getElem?_cons_succ] at z0 z1 z2 z3 z4 z5 z6 z7
  go_upto_region 8 with (fail)
  clear z0 z1 z2 z3 z4 z5 z6 z7 y0 y1 y2 y3 y4 y5 y6 y7
  have TS := still_st8 w2 (w.heap.size + 1) (.int .i64 (b0 : Nat)) (.int .i64 (b1 : Nat)) (.int .u64 (nn : Nat)) (.int .i64 (b10 : Nat)) (.int .i64 (b11 : Nat)) (.int .i64 (b12 : Nat)) (.int .i64 (b13 : Nat)) (.slice none 0 0)
  replace hw1 := Nat.le_trans hw1 TS.size
  have G3 := G2.out.st8 rfl (.int .i64 (b0 : Nat)) (.int .i64 (b1 : Nat)) (.int .u64 (nn : Nat)) (.int .i64 (b10 : Nat)) (.int .i64 (b11 : Nat)) (.int .i64 (b12 : Nat)) (.int .i64 (b13 : Nat)) (.slice none 0 0)
  have B3 := B2.out.stP TS (by simp)
  have Z3 := Z2.out.st TS (by simp)
  have z13 := TS.cellN x13' (by simp; omega)
  clear G2 Z2 B2 TS x13 x13'
  replace G3 := Lib.hid G3
  replace B3 := Lib.hid B3
  replace Z3 := Lib.hid Z3
  generalize ((((((((w2.setCell ⟨w.heap.size + 1, 0, none⟩ (.int .i64 (b0 : Nat))).setCell ⟨w.heap.size + 1, 1, none⟩ (.int .i64 (b1 : Nat))).setCell ⟨w.heap.size + 1, 2, none⟩ (.int .u64 (nn : Nat))).setCell ⟨w.heap.size + 1, 3, none⟩ (.int .i64 (b10 : Nat))).setCell ⟨w.heap.size + 1, 4, none⟩ (.int .i64 (b11 : Nat))).setCell ⟨w.heap.size + 1, 5, none⟩ (.int .i64 (b12 : Nat))).setCell ⟨w.heap.size + 1, 6, none⟩ (.int .i64 (b13 : Nat))).setCell ⟨w.heap.size + 1, 7, none⟩ (.slice none 0 0)) = w3 at *
  go_upto_if 56 with (fail)
  go_cut [] (fun wc => w1.heap.size ≤ wc.heap.size ∧ Hid (HpB wc (w.heap.size + 1) (.cells #[.int .i64 (b0 : Nat), .int .i64 (b1 : Nat), .int .u64 (nn : Nat), .int .i64 (b10 : Nat), .int .i64 (b11 : Nat), .int .i64 (b12 : Nat), .int .i64 (layF b13), .slice none 0 0] 35)) ∧ Hid (BW w wc) ∧ Hid (HpB wc w.heap.size (.cells #[.int .i64 0, .int .i64 0, .int .u64 0, .int .i64 0, .int .i64 0, .int .i64 0, .int .i64 0, .slice none 0 0] 35)))
  case first =>
    by_cases h255 : b13 = 255
    · have q2 : ((b13 : Int) == 255) = true := by rw [h255]; rfl
      have hla : layF b13 = -1 := if_pos h255
      replace hla := Lib.hid hla
      replace h255 := Lib.hid h255
      have y2 := hp_cell G3.out 6
      have f2 := hp_frz G3.out 6
      simp only [List.getElem?_toArray, List.getElem?_cons_zero, List.getElem?_cons_succ] at y2
      have hw13 := Nat.le_trans hw1 (still_sc w3 (w.heap.size + 1) 6 (.int .i64 (-1))).size
      have F13 := HpB.st1 G3.out 6 (.int .i64 (-1))
      have B13 := B3.out.stP (still_sc w3 (w.heap.size + 1) 6 (.int .i64 (-1))) (by simp)
      have Z13 := Z3.out.st (still_sc w3 (w.heap.size + 1) 6 (.int .i64 (-1))) (by simp)
      simp only [List.setIfInBounds_toArray, List.set_cons_zero, List.set_cons_succ] at F13
      replace F13 := Lib.hid F13
      replace B13 := Lib.hid B13
      replace Z13 := Lib.hid Z13
      go_wp2_with fail
      go_meet
      rw [hla.out]
      exact ⟨hw13, F13, B13, Z13⟩
    · have q2 : ((b13 : Int) == 255) = false := by rw [beq_eq_false_iff_ne]; omega
      have hla : layF b13 = (b13 : Nat) := if_neg h255
      replace hla := Lib.hid hla
      replace h255 := Lib.hid h255
      go_wp2_with fail
      go_meet
      rw [hla.out]
      exact ⟨hw1, G3, B3, Z3⟩
  case rest =>
    clear hw1
    obtain ⟨hw1, F13, B13, Z13⟩ := hcut
    clear G3 B3 Z3 z13
    generalize layF b13 = ly at *
    go_upto_region 11 with (fail)
    go_loopg [8] m (fun m' i wx => ∃ (k : Nat) (so : Option Addr) (co : Nat), m' = m - k ∧ k ≤ m ∧ i = .int .i64 (k : Int) ∧ co ≤ 9223372036854775807 ∧ Hid (HpB wx (w.heap.size + 1) (.cells #[.int .i64 (b0 : Nat), .int .i64 (b1 : Nat), .int .u64 (nn : Nat), .int .i64 (b10 : Nat), .int .i64 (b11 : Nat), .int .i64 (b12 : Nat), .int .i64 (ly), .slice so k co] 35)) ∧ Hid (NO wx w1.heap.size 73 .u32 (.slice so k co) k (nzl (srcF l k))) ∧ Hid (BW w wx) ∧ Hid (HpB wx w.heap.size (.cells #[.int .i64 0, .int .i64 0, .int .u64 0, .int .i64 0, .int .i64 0, .int .i64 0, .int .i64 0, .slice none 0 0] 35)) ∧ w1.heap.size ≤ wx.heap.size)
    case atStart => exact ⟨0, none, 0, rfl, by omega, rfl, by omega, F13, NO.nil _ _ _ _, B13, Z13, hw1⟩
    case round =>
      clear F13 B13 Z13
      obtain ⟨k, so, co, rfl, hk, rfl, hco, F, O, Bx, Zx, hzx⟩ := hrel
      by_cases hkn : k < m
      · have d : decide ((k : Int) < (m : Int)) = true := by simp; omega
        have h2' := h2.out
        have hsn := srcF_snoc l k
        have cN := fun wz hb => Lib.hid (rnum_ok (.slice (some ⟨b, o, none⟩) n cb) n l (15 + 4 * k) 4 (15 + 4 * (k : Int)) 4 (by decide) (by decide) (by omega) (by omega) (by push_cast; rfl) rfl wz (V.out.bw (Bx.out.trans (b := wr) hb)))
        have hxb : numB ((l.drop (15 + 4 * k)).take 4) < 4294967296 := by
          have := numB_lt ((l.drop (15 + 4 * k)).take 4) ((SBl.out.drop _).take _)
          have h4 : ((l.drop (15 + 4 * k)).take 4).length = 4 := by
            have := hll.out
            rw [List.length_take, List.length_drop]; omega
          rw [h4] at this
          exact this
        have q4 : IntKind.i64.wrap (4 * (k : Int)) = 4 * (k : Int) := IntWalk.i64_in _ (by omega)
        have q5 : IntKind.i64.wrap (15 + 4 * (k : Int)) = 15 + 4 * (k : Int) := IntWalk.i64_in _ (by omega)
        generalize numB ((l.drop (15 + 4 * k)).take 4) = xv at *
        have q6 : IntKind.u32.wrap (xv : Int) = (xv : Int) := IntWalk.u32_in _ (by omega)
        obtain ⟨wq, rfl⟩ : ∃ x, x = wr := ⟨_, rfl⟩
        have y7 := hp_cell F.out 7
        simp only [List.getElem?_toArray, List.getElem?_cons_zero, List.getElem?_cons_succ] at y7
        have m7 : ∀ y : LaterS [] wq, _ := fun y => y.bw.cell y7
        clear y7 h2'
        replace hsn := Lib.hid hsn
        replace cN := Lib.hid cN
        go_upto_region 13 with (fail)
        refine wp_region_gg ((Value.slice so k co).ownBlock.toList) [9] [11] (by kernel_rfl) ?_
        refine hoist [] [9] (a1 := ?_) 0 rfl (by kernel_rfl) (.inl ⟨rfl, rfl⟩) rfl rfl rfl (fun x K hK => ?_) ?_
        rotate_left
        · go_big_quiet_op
          exact hK
        refine hoist [] [9] (a1 := ?_) 1 rfl (by kernel_rfl) (.inl ⟨rfl, rfl⟩) rfl rfl rfl (fun x K hK => ?_) ?_
        rotate_left
        · go_big_quiet_op
          exact hK
        refine hoist [] [9] (a1 := ?_) 2 rfl (by kernel_rfl) (.inl ⟨rfl, rfl⟩) rfl rfl rfl (fun x K hK => ?_) ?_
        rotate_left
        · go_big_quiet_op
          exact hK
        refine hoist [] [9] (a1 := ?_) 3 rfl (by kernel_rfl) (.inl ⟨rfl, rfl⟩) rfl rfl rfl (fun x K hK => ?_) ?_
        rotate_left
        · go_big_quiet_op
          exact hK
        refine hoist [] [9] (a1 := ?_) 4 rfl (by kernel_rfl) (.inl ⟨rfl, rfl⟩) rfl rfl rfl (fun x K hK => ?_) ?_
        rotate_left
        · go_big_quiet_op
          exact hK
        refine hoist [] [9] (a1 := ?_) 5 rfl (by kernel_rfl) (.inl ⟨rfl, rfl⟩) rfl rfl rfl (fun x K hK => ?_) ?_
        rotate_left
        · go_big_quiet_op
          exact hK
        refine hoist_call [] [9] (a1 := ?_) 6 rfl (by kernel_rfl) (.inl ⟨rfl, rfl⟩) rfl rfl rfl (fun x K hK => ?_) ?_
        rotate_left
        · go_big_quiet_op
          apply Exists.intro
          refine ⟨fun y => ?_, ?_⟩
          · exact ((cN.out y.now (x.bw.trans y.bw)).out.mono fun _ _ h => ⟨h.1, y, h.2.symm⟩)
          · exact hK
        refine hoist [] [9] (a1 := ?_) 7 rfl (by kernel_rfl) (.inl ⟨rfl, rfl⟩) rfl rfl rfl (fun x K hK => ?_) ?_
        rotate_left
        · go_big_quiet_op
          exact hK
        refine effect 8 rfl (by kernel_rfl) (by kernel_rfl) rfl (fun x8 K hK => ?_)
        go_simp
        refine hK _ _ (Still.of_below ((Below.refl _ _).alloc (Nat.le_refl _) _)) ?_
        clear hK K
        have N8 := Lib.hid (NB.new1 x8.now 73 .u32 (xv : Nat))
        have B8 : Hid (BW wq (x8.now.alloc (.cells #[.int .u32 (xv : Nat)] 73))) := x8.bw.alloc
        generalize x8.now.alloc (.cells #[.int .u32 (xv : Nat)] 73) = w8 at *
        generalize x8.now.heap.size = g8 at *
        try simp only [Act.put, List.setIfInBounds_toArray, List.set_cons_succ, List.set_cons_zero]
        refine effect 9 rfl (by kernel_rfl) (by kernel_rfl) rfl (fun x9 K hK => ?_)
        skip
        have hb9 := B8.out.trans x9.bw
        have O9 := O.out.bw hb9
        have F9 := F.out.bw hb9
        have Z9 := Zx.out.bw hb9
        have hz9 := hb9.size
        refine wp_apN slU32q _ _ rfl w1.heap.size .u32 (.slice so k co) k (nzl (srcF l k)) rfl O9 _ rfl 1 [(xv : Int)] (N8.out.bw x9.bw) (by omega) (by omega) fun s15 c15 w15 hc15 hm15 O15 T15 BB15 G15 => hK _ _ T15 ?_
        simp only [Act.put, List.setIfInBounds_toArray, List.set_cons_succ, List.set_cons_zero]
        have F15 := Lib.hid (F9.st T15 (fun hm => O9.2.ne F9 (by decide) (w.heap.size + 1) (by simpa using hm) rfl))
        have Z15 := Lib.hid (Z9.st T15 (fun hm => by have := O9.ge' _ (Option.mem_toList.1 hm); omega))
        have B15 := Lib.hid (BW.stP (Bx.out.trans hb9) T15 (fun j hj => by have := O9.ge' j (Option.mem_toList.1 hj); omega))
        have hz15 := T15.size
        unfold maxLen at hm15
        clear hK K hb9 O9 F9 Z9 BB15 G15 T15 N8 B8
        replace O15 := Lib.hid O15
        refine hoist [] [9] (a1 := ?_) 10 rfl (by kernel_rfl) (.inl ⟨rfl, rfl⟩) rfl rfl rfl (fun x K hK => ?_) ?_
        rotate_left
        · go_big_quiet_op
          exact hK
        refine tail 11 rfl (by kernel_rfl) rfl (fun xr => ?_)
        simp only [List.drop_succ_cons, List.drop_zero]
        have O16 := O15.out.bw xr.bw
        have F16 := F15.out.bw xr.bw
        have Z16 := Z15.out.bw xr.bw
        have B16 := B15.out.trans xr.bw
        have hz16 := xr.bw.size
        clear O15 F15 Z15 B15 m7 cN
        generalize xr.now = w16 at *
        have y7 := hp_cell F16 7
        have f7 := hp_frz F16 7
        simp only [List.getElem?_toArray, List.getElem?_cons_zero, List.getElem?_cons_succ] at y7
        have TS := still_sc w16 (w.heap.size + 1) 7 (.slice s15 (k + 1) c15)
        have F17 := F16.st1 7 (.slice s15 (k + 1) c15)
        simp only [List.setIfInBounds_toArray, List.set_cons_zero, List.set_cons_succ] at F17
        have O17 : NO (w16.setCell ⟨w.heap.size + 1, 7, none⟩ (.slice s15 (k + 1) c15)) w1.heap.size 73 .u32 (.slice s15 (k + 1) c15) (k + 1) (nzl (srcF l (k + 1))) := by
          have h := O16.still TS (fun g hg hm => by have := O16.ge' g hg; simp at hm; omega)
          rw [hsn.out]
          unfold nzl at h ⊢
          rw [List.map_append]
          exact h
        have Z17 := Z16.st TS (by simp)
        have B17 := B16.stP TS (by simp)
        have hz17 : w1.heap.size ≤ (w16.setCell ⟨w.heap.size + 1, 7, none⟩ (.slice s15 (k + 1) c15)).heap.size := by have := TS.size; omega
        clear F16 Z16 B16 O16 TS d F O Bx Zx
        replace F17 := Lib.hid F17
        replace O17 := Lib.hid O17
        replace Z17 := Lib.hid Z17
        replace B17 := Lib.hid B17
        go_wp2_with fail
        clear y7 f7
        go_roundg (m - (k + 1))
        case measure => omega
        case rel => exact ⟨k + 1, s15, c15, rfl, by omega, by push_cast; rfl, hm15, F17, O17, B17, Z17, hz17⟩
      · obtain rfl : k = m := by omega
        have d : decide ((k : Int) < (k : Int)) = false := by simp
        obtain ⟨dd, hdd⟩ : ∃ dd : FrD, dd = ⟨(b0 : Nat), (b1 : Nat), nn, (b10 : Nat), (b11 : Nat), (b12 : Nat), ly, srcF l k⟩ := ⟨_, rfl⟩
        have hFV : FrV wr #[.int .i64 (b0 : Nat), .int .i64 (b1 : Nat), .int .u64 (nn : Nat), .int .i64 (b10 : Nat), .int .i64 (b11 : Nat), .int .i64 (b12 : Nat), .int .i64 ly, .slice so k co] dd := by
          rw [hdd]; exact ⟨_, rfl, by rw [srcF_len]; exact O.out.nb⟩
        rw [← hdd] at hR4 hR5 hwf
        have h2' := h2.out
        have cW := Lib.hid (frRWrite_any _ dd sk nk ck key wr hFV (hwf.out (by rw [hll.out]; omega)) (K.out.bw Bx.out) hnk)
        unfold FrRWPost at cW
        have hXb := frN_byt key dd
        have h4 := hR4.out h1 h2'
        have h5 := hR5.out h1 h2'
        clear hFV hwf hR4 hR5 hR3 h2'
        generalize frN key dd = X at *
        replace hdd := Lib.hid hdd
        replace h4 := Lib.hid h4
        replace h5 := Lib.hid h5
        replace hXb := Lib.hid hXb
        go_upto_region 14 with (fail)
        have k'0 := hp_cell (F.out) 0
        have k'1 := hp_cell (F.out) 1
        have k'2 := hp_cell (F.out) 2
        have k'3 := hp_cell (F.out) 3
        have k'4 := hp_cell (F.out) 4
        have k'5 := hp_cell (F.out) 5
        have k'6 := hp_cell (F.out) 6
        have k'7 := hp_cell (F.out) 7
        simp only [List.getElem?_toArray, List.getElem?_cons_zero, List.getElem?_cons_succ] at k'0 k'1 k'2 k'3 k'4 k'5 k'6 k'7
        go_wp2_with fail
        refine Calls.mono cW.out ?_
        rintro e w5 ⟨hr, hb⟩
        have B5 := Lib.hid (Bx.out.trans hb)
        have Z5 := Lib.hid (Zx.out.bw hb)
        have F5 := Lib.hid (F.out.bw hb)
        have O5 := Lib.hid (O.out.bw hb)
        clear k'0 k'1 k'2 k'3 k'4 k'5 k'6 k'7
        clear cW hb F O Bx Zx
        rcases hr with ⟨hM, v, rfl, OX⟩ | ⟨hM, rfl⟩
        case inr =>
          have hRd := Lib.hid (h4.out hM)
          have B := B5
          have Z := Z5
          clear B5 Z5 F5 O5 h4 h5 hdd
          obtain ⟨wb, rfl⟩ : ∃ x, x = w5 := ⟨_, rfl⟩
          replace hM := Lib.hid hM
          dsimp only
          go_upto_region 16 with (fail)
          have z0 := hp_cell (Z.out) 0
          have y0 := hp_frz (Z.out) 0
          have z1 := hp_cell (Z.out) 1
          have y1 := hp_frz (Z.out) 1
          have z2 := hp_cell (Z.out) 2
          have y2 := hp_frz (Z.out) 2
          have z3 := hp_cell (Z.out) 3
          have y3 := hp_frz (Z.out) 3
          have z4 := hp_cell (Z.out) 4
          have y4 := hp_frz (Z.out) 4
          have z5 := hp_cell (Z.out) 5
          have y5 := hp_frz (Z.out) 5
          have z6 := hp_cell (Z.out) 6
          have y6 := hp_frz (Z.out) 6
          have z7 := hp_cell (Z.out) 7
          have y7 := hp_frz (Z.out) 7
          simp only [zFC, frC, List.getElem?_toArray, List.getElem?_cons_zero, List.getElem?_cons_succ] at z0 z1 z2 z3 z4 z5 z6 z7
          go_wp2_with fail
          clear z0 z1 z2 z3 z4 z5 z6 z7 y0 y1 y2 y3 y4 y5 y6 y7
          have TS := still_st8 wb w.heap.size (.int .i64 0) (.int .i64 0) (.int .u64 0) (.int .i64 0) (.int .i64 0) (.int .i64 0) (.int .i64 0) (.slice none 0 0)
          have Z4 := Z.out.st8 rfl (.int .i64 0) (.int .i64 0) (.int .u64 0) (.int .i64 0) (.int .i64 0) (.int .i64 0) (.int .i64 0) (.slice none 0 0)
          have T4 := B.out.stP TS (by simp)
          have z0 := hp_cell (Z4) 0
          have z1 := hp_cell (Z4) 1
          have z2 := hp_cell (Z4) 2
          have z3 := hp_cell (Z4) 3
          have z4 := hp_cell (Z4) 4
          have z5 := hp_cell (Z4) 5
          have z6 := hp_cell (Z4) 6
          have z7 := hp_cell (Z4) 7
          simp only [List.getElem?_toArray, List.getElem?_cons_zero, List.getElem?_cons_succ] at z0 z1 z2 z3 z4 z5 z6 z7
          have V4 := FrV.zero ((((((((wb.setCell ⟨w.heap.size, 0, none⟩ (.int .i64 0)).setCell ⟨w.heap.size, 1, none⟩ (.int .i64 0)).setCell ⟨w.heap.size, 2, none⟩ (.int .u64 0)).setCell ⟨w.heap.size, 3, none⟩ (.int .i64 0)).setCell ⟨w.heap.size, 4, none⟩ (.int .i64 0)).setCell ⟨w.heap.size, 5, none⟩ (.int .i64 0)).setCell ⟨w.heap.size, 6, none⟩ (.int .i64 0)).setCell ⟨w.heap.size, 7, none⟩ (.slice none 0 0))
          replace Z4 := Lib.hid Z4
          replace TS := Lib.hid TS
          replace T4 := Lib.hid T4
          replace V4 := Lib.hid V4
          exact bodyPost_ret (v := .tuple #[.agg zFC, .int .i64 3]) (by simp [results, Try.results28, go_sem, z0, z1, z2, z3, z4, z5, z6, z7, zFC, frC]) rfl ⟨_, by rw [hRd.out]; rfl, by rw [hRd.out]; exact V4.out, T4.out⟩
        have h6 := h5.out hM
        clear h4 h5
        obtain ⟨sx, cx, rfl, hcx, hmx⟩ := OX.len
        unfold maxLen at hmx
        have k1 := conv_sb OX.sb
        have k2 := conv_sb (V.out.bw B5.out)
        clear OX
        generalize hXn : X.length = nX at *
        replace hXn := Lib.hid hXn
        by_cases hXl : X = l
        · rw [if_pos hXl] at h6
          rw [hXl] at k1
          have hRd := Lib.hid h6
          replace hM := Lib.hid hM
          replace hXl := Lib.hid hXl
          generalize bstr l = zs at *
          clear h6
          dsimp only
          go_upto_region 19 with (fail)
          have hzs := Z5.out.lt
          have z0 := hp_cell (Z5.out) 0
          have y0 := hp_frz (Z5.out) 0
          have z1 := hp_cell (Z5.out) 1
          have y1 := hp_frz (Z5.out) 1
          have z2 := hp_cell (Z5.out) 2
          have y2 := hp_frz (Z5.out) 2
          have z3 := hp_cell (Z5.out) 3
          have y3 := hp_frz (Z5.out) 3
          have z4 := hp_cell (Z5.out) 4
          have y4 := hp_frz (Z5.out) 4
          have z5 := hp_cell (Z5.out) 5
          have y5 := hp_frz (Z5.out) 5
          have z6 := hp_cell (Z5.out) 6
          have y6 := hp_frz (Z5.out) 6
          have z7 := hp_cell (Z5.out) 7
          have y7 := hp_frz (Z5.out) 7
          simp only [List.getElem?_toArray, List.getElem?_cons_zero, List.getElem?_cons_succ] at z0 z1 z2 z3 z4 z5 z6 z7
          have k'0 := hp_cell (F5.out) 0
          have k'1 := hp_cell (F5.out) 1
          have k'2 := hp_cell (F5.out) 2
          have k'3 := hp_cell (F5.out) 3
          have k'4 := hp_cell (F5.out) 4
          have k'5 := hp_cell (F5.out) 5
          have k'6 := hp_cell (F5.out) 6
          have k'7 := hp_cell (F5.out) 7
          simp only [List.getElem?_toArray, List.getElem?_cons_zero, List.getElem?_cons_succ] at k'0 k'1 k'2 k'3 k'4 k'5 k'6 k'7
          go_wp2_with fail
          clear z0 z1 z2 z3 z4 z5 z6 z7 y0 y1 y2 y3 y4 y5 y6 y7 k'0 k'1 k'2 k'3 k'4 k'5 k'6 k'7
          have TS := still_st8 w5 w.heap.size (.int .i64 (b0 : Nat)) (.int .i64 (b1 : Nat)) (.int .u64 (nn : Nat)) (.int .i64 (b10 : Nat)) (.int .i64 (b11 : Nat)) (.int .i64 (b12 : Nat)) (.int .i64 ly) (.slice so k co)
          have Z4 := Z5.out.st8 rfl (.int .i64 (b0 : Nat)) (.int .i64 (b1 : Nat)) (.int .u64 (nn : Nat)) (.int .i64 (b10 : Nat)) (.int .i64 (b11 : Nat)) (.int .i64 (b12 : Nat)) (.int .i64 ly) (.slice so k co)
          have T4 := B5.out.stP TS (by simp)
          have z0 := hp_cell (Z4) 0
          have z1 := hp_cell (Z4) 1
          have z2 := hp_cell (Z4) 2
          have z3 := hp_cell (Z4) 3
          have z4 := hp_cell (Z4) 4
          have z5 := hp_cell (Z4) 5
          have z6 := hp_cell (Z4) 6
          have z7 := hp_cell (Z4) 7
          simp only [List.getElem?_toArray, List.getElem?_cons_zero, List.getElem?_cons_succ] at z0 z1 z2 z3 z4 z5 z6 z7
          have V4 : FrV _ (frC (b0 : Nat) (b1 : Nat) nn (b10 : Nat) (b11 : Nat) (b12 : Nat) ly (.slice so k co)) ⟨(b0 : Nat), (b1 : Nat), nn, (b10 : Nat), (b11 : Nat), (b12 : Nat), ly, srcF l k⟩ := ⟨_, rfl, by rw [srcF_len]; exact (O5.out.still TS (fun g hg hm => by have := O5.out.ge' g hg; simp at hm; omega)).nb⟩
          have hRd2 := Lib.hid (hRd.out.trans (by rw [hdd.out]))
          replace Z4 := Lib.hid Z4
          replace TS := Lib.hid TS
          replace T4 := Lib.hid T4
          replace V4 := Lib.hid V4
          exact bodyPost_ret (v := .tuple #[.agg (frC (b0 : Nat) (b1 : Nat) nn (b10 : Nat) (b11 : Nat) (b12 : Nat) ly (.slice so k co)), .int .i64 0]) (by simp [results, Try.results28, go_sem, z0, z1, z2, z3, z4, z5, z6, z7, frC]) rfl ⟨_, by rw [hRd2.out]; rfl, by rw [hRd2.out]; exact V4.out, T4.out⟩
        · rw [if_neg hXl] at h6
          have hRd := Lib.hid h6
          have e1 := bstr_eqb hXb.out SBl.out
          rw [decide_eq_false hXl] at e1
          have e2 : ((bstr X).toList != (bstr l).toList) = true := by rw [bne, e1]; rfl
          replace hM := Lib.hid hM
          replace hXl := Lib.hid hXl
          generalize bstr l = zs at *
          generalize bstr X = zx at *
          have B := B5
          have Z := Z5
          clear B5 Z5 F5 O5 hdd h6
          obtain ⟨wb, rfl⟩ : ∃ x, x = w5 := ⟨_, rfl⟩
          dsimp only
          go_upto_region 18 with (fail)
          have z0 := hp_cell (Z.out) 0
          have y0 := hp_frz (Z.out) 0
          have z1 := hp_cell (Z.out) 1
          have y1 := hp_frz (Z.out) 1
          have z2 := hp_cell (Z.out) 2
          have y2 := hp_frz (Z.out) 2
          have z3 := hp_cell (Z.out) 3
          have y3 := hp_frz (Z.out) 3
          have z4 := hp_cell (Z.out) 4
          have y4 := hp_frz (Z.out) 4
          have z5 := hp_cell (Z.out) 5
          have y5 := hp_frz (Z.out) 5
          have z6 := hp_cell (Z.out) 6
          have y6 := hp_frz (Z.out) 6
          have z7 := hp_cell (Z.out) 7
          have y7 := hp_frz (Z.out) 7
          simp only [zFC, frC, List.getElem?_toArray, List.getElem?_cons_zero, List.getElem?_cons_succ] at z0 z1 z2 z3 z4 z5 z6 z7
          go_wp2_with fail
          clear z0 z1 z2 z3 z4 z5 z6 z7 y0 y1 y2 y3 y4 y5 y6 y7
          have TS := still_st8 wb w.heap.size (.int .i64 0) (.int .i64 0) (.int .u64 0) (.int .i64 0) (.int .i64 0) (.int .i64 0) (.int .i64 0) (.slice none 0 0)
          have Z4 := Z.out.st8 rfl (.int .i64 0) (.int .i64 0) (.int .u64 0) (.int .i64 0) (.int .i64 0) (.int .i64 0) (.int .i64 0) (.slice none 0 0)
          have T4 := B.out.stP TS (by simp)
          have z0 := hp_cell (Z4) 0
          have z1 := hp_cell (Z4) 1
          have z2 := hp_cell (Z4) 2
          have z3 := hp_cell (Z4) 3
          have z4 := hp_cell (Z4) 4
          have z5 := hp_cell (Z4) 5
          have z6 := hp_cell (Z4) 6
          have z7 := hp_cell (Z4) 7
          simp only [List.getElem?_toArray, List.getElem?_cons_zero, List.getElem?_cons_succ] at z0 z1 z2 z3 z4 z5 z6 z7
          have V4 := FrV.zero ((((((((wb.setCell ⟨w.heap.size, 0, none⟩ (.int .i64 0)).setCell ⟨w.heap.size, 1, none⟩ (.int .i64 0)).setCell ⟨w.heap.size, 2, none⟩ (.int .u64 0)).setCell ⟨w.heap.size, 3, none⟩ (.int .i64 0)).setCell ⟨w.heap.size, 4, none⟩ (.int .i64 0)).setCell ⟨w.heap.size, 5, none⟩ (.int .i64 0)).setCell ⟨w.heap.size, 6, none⟩ (.int .i64 0)).setCell ⟨w.heap.size, 7, none⟩ (.slice none 0 0))
          replace Z4 := Lib.hid Z4
          replace TS := Lib.hid TS
          replace T4 := Lib.hid T4
          replace V4 := Lib.hid V4
          exact bodyPost_ret (v := .tuple #[.agg zFC, .int .i64 4]) (by simp [results, Try.results28, go_sem, z0, z1, z2, z3, z4, z5, z6, z7, zFC, frC]) rfl ⟨_, by rw [hRd.out]; rfl, by rw [hRd.out]; exact V4.out, T4.out⟩
end Go.Proofs.Ytcempndfbckcaaa
