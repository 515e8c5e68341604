/- The table of tasks: which is less; two of the queue's elements swapped. No condition but the sizes'. -/
import Derived.Test.YtcempndfbckcaaaSeA
import Derived.Test.YtcempndfbckcaaaRg2
import Derived.Test.YtcempndfbckcaaaHea
namespace Go.Proofs.Ytcempndfbckcaaa
open Go.RowKit

set_option maxRecDepth 100000 in
set_option maxHeartbeats 8000000 in
theorem tless_any (base : Nat) (v : Value) (n : Nat) (L : List Tk) (i k : Nat) (hi : i < L.length) (hk : k < L.length) (w : World) (h : EQ TN 144 w base v n L) :
    Calls Try.prog 176 #[v, .int .i64 (i : Nat), .int .i64 (k : Nat)] w fun e w' => e = .returned (.bool (decide ((L[i]).key < (L[k]).key))) ∧ BW w w' := by
  obtain ⟨sv, cv, rfl, hnc, hcm⟩ := h.len
  unfold maxLen at hcm
  have hl := h.1
  obtain ⟨g, o, rfl, -, hc⟩ := tn_form h (by omega)
  obtain ⟨a0, a1, -, -, r1, r2⟩ := hc i hi
  obtain ⟨b0, b1, -, -, r3, r4⟩ := hc k hk
  have hkl := Lib.hid (key_lt (x := L[i]) (y := L[k]) ⟨r1, r2⟩ ⟨r3, r4⟩)
  have m0 : ∀ y : LaterS [] w, _ := fun y => y.bw.cell a0
  have m1 : ∀ y : LaterS [] w, _ := fun y => y.bw.cell a1
  have m2 : ∀ y : LaterS [] w, _ := fun y => y.bw.cell b0
  have m3 : ∀ y : LaterS [] w, _ := fun y => y.bw.cell b1
  have hin : i < n := by omega
  have hkn : k < n := by omega
  clear hc h a0 a1 b0 b1 r1 r2 r3 r4
  generalize (L[i]).key = ki at *
  generalize (L[k]).key = kk at *
  generalize (L[i]).t = ti at *
  generalize (L[k]).t = tk at *
  generalize (L[i]).n = ni at *
  generalize (L[k]).n = nk at *
  clear hl hi hk
  go_enter Try.func176, Try.ntmps176
  go_upto_region 1 with (fail)
  refine wp_region_gg [] [] [] (by kernel_rfl) ?_
  refine hoist [] [] (a1 := ?_) 0 rfl (by kernel_rfl) (.inl ⟨rfl, rfl⟩) rfl rfl rfl (fun x K hK => ?_) ?_
  rotate_left
  · go_big_quiet_op
    exact hK
  refine hoist [] [] (a1 := ?_) 1 rfl (by kernel_rfl) (.inl ⟨rfl, rfl⟩) rfl rfl rfl (fun x K hK => ?_) ?_
  rotate_left
  · go_big_quiet_op
    exact hK
  refine hoist [] [] (a1 := ?_) 2 rfl (by kernel_rfl) (.inl ⟨rfl, rfl⟩) rfl rfl rfl (fun x K hK => ?_) ?_
  rotate_left
  · go_big_quiet_op
    exact hK
  refine hoist [] [] (a1 := ?_) 3 rfl (by kernel_rfl) (.inl ⟨rfl, rfl⟩) rfl rfl rfl (fun x K hK => ?_) ?_
  rotate_left
  · go_big_quiet_op
    exact hK
  refine hoist [] [] (a1 := ?_) 4 rfl (by kernel_rfl) (.inl ⟨rfl, rfl⟩) rfl rfl rfl (fun x K hK => ?_) ?_
  rotate_left
  · go_big_quiet_op
    exact hK
  refine hoist [] [] (a1 := ?_) 5 rfl (by kernel_rfl) (.inl ⟨rfl, rfl⟩) rfl rfl rfl (fun x K hK => ?_) ?_
  rotate_left
  · go_big_quiet_op
    exact hK
  refine hoist [] [] (a1 := ?_) 6 rfl (by kernel_rfl) (.inl ⟨rfl, rfl⟩) rfl rfl rfl (fun x K hK => ?_) ?_
  rotate_left
  · go_big_quiet_op
    exact hK
  refine hoist [] [] (a1 := ?_) 7 rfl (by kernel_rfl) (.inl ⟨rfl, rfl⟩) rfl rfl rfl (fun x K hK => ?_) ?_
  rotate_left
  · go_big_quiet_op
    exact hK
  refine hoist [] [] (a1 := ?_) 8 rfl (by kernel_rfl) (.inl ⟨rfl, rfl⟩) rfl rfl rfl (fun x K hK => ?_) ?_
  rotate_left
  · go_big_quiet_op
    exact hK
  refine hoist [] [] (a1 := ?_) 9 rfl (by kernel_rfl) (.inl ⟨rfl, rfl⟩) rfl rfl rfl (fun x K hK => ?_) ?_
  rotate_left
  · go_big_quiet_op
    exact hK
  refine hoist [] [] (a1 := ?_) 11 rfl (by kernel_rfl) (.inl ⟨rfl, rfl⟩) rfl rfl rfl (fun x K hK => ?_) ?_
  rotate_left
  · go_big_quiet_op
    exact hK
  refine hoist [] [] (a1 := ?_) 12 rfl (by kernel_rfl) (.inl ⟨rfl, rfl⟩) rfl rfl rfl (fun x K hK => ?_) ?_
  rotate_left
  · go_big_quiet_op
    exact hK
  refine hoist [] [] (a1 := ?_) 13 rfl (by kernel_rfl) (.inl ⟨rfl, rfl⟩) rfl rfl rfl (fun x K hK => ?_) ?_
  rotate_left
  · go_big_quiet_op
    exact hK
  refine hoist [] [] (a1 := ?_) 14 rfl (by kernel_rfl) (.inl ⟨rfl, rfl⟩) rfl rfl rfl (fun x K hK => ?_) ?_
  rotate_left
  · go_big_quiet_op
    exact hK
  refine hoist [] [] (a1 := ?_) 15 rfl (by kernel_rfl) (.inl ⟨rfl, rfl⟩) rfl rfl rfl (fun x K hK => ?_) ?_
  rotate_left
  · go_big_quiet_op
    exact hK
  refine hoist [] [] (a1 := ?_) 16 rfl (by kernel_rfl) (.inl ⟨rfl, rfl⟩) rfl rfl rfl (fun x K hK => ?_) ?_
  rotate_left
  · go_big_quiet_op
    exact hK
  refine hoist [] [] (a1 := ?_) 17 rfl (by kernel_rfl) (.inl ⟨rfl, rfl⟩) rfl rfl rfl (fun x K hK => ?_) ?_
  rotate_left
  · go_big_quiet_op
    exact hK
  refine hoist [] [] (a1 := ?_) 18 rfl (by kernel_rfl) (.inl ⟨rfl, rfl⟩) rfl rfl rfl (fun x K hK => ?_) ?_
  rotate_left
  · go_big_quiet_op
    exact hK
  refine hoist [] [] (a1 := ?_) 19 rfl (by kernel_rfl) (.inl ⟨rfl, rfl⟩) rfl rfl rfl (fun x K hK => ?_) ?_
  rotate_left
  · go_big_quiet_op
    exact hK
  refine hoist [] [] (a1 := ?_) 20 rfl (by kernel_rfl) (.inl ⟨rfl, rfl⟩) rfl rfl rfl (fun x K hK => ?_) ?_
  rotate_left
  · go_big_quiet_op
    exact hK
  refine effect 10 rfl (by kernel_rfl) (by kernel_rfl) rfl (fun x10 K hK => ?_)
  go_simp
  refine Calls.mono (cmp64_any ti tk _) ?_
  rintro e w5 ⟨rfl, rfl⟩
  refine hK _ _ ((BW.refl _).still _) ?_
  clear hK K
  have b10 := Lib.hid x10.bw
  try simp only [Act.put, List.setIfInBounds_toArray, List.set_cons_succ, List.set_cons_zero]
  refine effect 21 rfl (by kernel_rfl) (by kernel_rfl) rfl (fun x21 K hK => ?_)
  go_simp
  refine Calls.mono (cmpn_any ni nk _) ?_
  rintro e w5 ⟨rfl, rfl⟩
  refine hK _ _ ((BW.refl _).still _) ?_
  clear hK K
  have b21 := Lib.hid (b10.out.trans x21.bw)
  generalize cmpI ti tk = ct at *
  generalize cmpI ni nk = cn at *
  clear m0 m1 m2 m3
  try simp only [Act.put, List.setIfInBounds_toArray, List.set_cons_succ, List.set_cons_zero]
  refine effect 22 rfl (by kernel_rfl) (by kernel_rfl) rfl (fun x22 K hK => ?_)
  go_simp
  refine hK _ _ (Still.of_below ((Below.refl _ _).alloc (Nat.le_refl _) _)) ?_
  clear hK K
  have b22 := Lib.hid ((b21.out.trans x22.bw).trans ((BW.refl x22.now).alloc (o := .cells #[.int .i64 ct, .int .i64 cn] 3)))
  have X22 := Lib.hid (HpB.new x22.now (.cells #[.int .i64 ct, .int .i64 cn] 3))
  generalize x22.now.alloc (.cells #[.int .i64 ct, .int .i64 cn] 3) = w22 at *
  generalize x22.now.heap.size = g22 at *
  try simp only [Act.put, List.setIfInBounds_toArray, List.set_cons_succ, List.set_cons_zero]
  refine effect 23 rfl (by kernel_rfl) (by kernel_rfl) rfl (fun x23 K hK => ?_)
  go_simp
  have X23 := X22.out.bw x23.bw
  refine Calls.mono (or_any ct cn g22 x23.now ((hp_cell X23 0).trans rfl) ((hp_cell X23 1).trans rfl)) ?_
  rintro e w5 ⟨rfl, rfl⟩
  refine hK _ _ ((BW.refl _).still _) ?_
  clear hK K X23
  have b23 := Lib.hid (b22.out.trans x23.bw)
  generalize orI ct cn = oc at *
  try simp only [Act.put, List.setIfInBounds_toArray, List.set_cons_succ, List.set_cons_zero]
  refine hoist [] [] (a1 := ?_) 24 rfl (by kernel_rfl) (.inl ⟨rfl, rfl⟩) rfl rfl rfl (fun x K hK => ?_) ?_
  rotate_left
  · go_big_quiet_op
    exact hK
  refine hoist [] [] (a1 := ?_) 25 rfl (by kernel_rfl) (.inl ⟨rfl, rfl⟩) rfl rfl rfl (fun x K hK => ?_) ?_
  rotate_left
  · go_big_quiet_op
    exact hK
  refine done (by kernel_rfl) (fun xr => ?_)
  have B := Lib.hid (b23.out.trans xr.bw)
  have hkl2 := hkl.out
  replace hkl2 := Lib.hid hkl2
  go_wp2_with fail
  go_ret
  exact ⟨by rw [← hkl2.out]; rfl, B.out⟩
set_option maxRecDepth 100000 in
set_option maxHeartbeats 8000000 in
theorem tswap_any (base g o cv : Nat) (n : Nat) (L : List Tk) (i k : Nat) (hi : i < L.length) (hk : k < L.length) (w : World) (h : EQ TN 144 w base (.slice (some ⟨g, o, none⟩) n cv) n L) :
    Calls Try.prog 177 #[.slice (some ⟨g, o, none⟩) n cv, .int .i64 (i : Nat), .int .i64 (k : Nat)] w fun e w' => e = .returned (.tuple #[]) ∧ EQ TN 144 w' base (.slice (some ⟨g, o, none⟩) n cv) n (swapL L i k hi hk) ∧ Still [g] w w' := by
  have hl := h.1
  have hin : i < n := by omega
  have hkn : k < n := by omega
  obtain ⟨_, _, he, hnc, hcm⟩ := h.len
  cases he
  unfold maxLen at hcm
  obtain ⟨g', o', he, hgb, hc⟩ := tn_form h (by omega)
  cases he
  obtain ⟨a0, a1, a2, a3, ri⟩ := hc i hi
  obtain ⟨b0, b1, b2, b3, rk⟩ := hc k hk
  have hsw : swapL L i k hi hk = (L.set i L[k]).set k L[i] := rfl
  have m0 : ∀ y : LaterS [] w, _ := fun y => y.bw.cell a0
  have m1 : ∀ y : LaterS [] w, _ := fun y => y.bw.cell a1
  have m2 : ∀ y : LaterS [] w, _ := fun y => y.bw.cell a2
  have m3 : ∀ y : LaterS [] w, _ := fun y => y.bw.cell a3
  have k0 : ∀ y : LaterS [] w, _ := fun y => y.bw.cell b0
  have k1 : ∀ y : LaterS [] w, _ := fun y => y.bw.cell b1
  have k2 : ∀ y : LaterS [] w, _ := fun y => y.bw.cell b2
  have k3 : ∀ y : LaterS [] w, _ := fun y => y.bw.cell b3
  have hQ := Lib.hid h
  have hfr := Lib.hid (fun (w' : World) (L' : List Tk) (h' : EQ TN 144 w' base (.slice (some ⟨g, o, none⟩) n cv) n L') => h'.frz (by omega))
  clear hc h
  generalize swapL L i k hi hk = SL at *
  generalize hEi : L[i] = ei at *
  generalize hEk : L[k] = ek at *
  obtain ⟨ii, bi, ti, ui⟩ := ei
  obtain ⟨ik, bk, tk, uk⟩ := ek
  dsimp only at *
  replace hl := Lib.hid hl
  replace hsw := Lib.hid hsw
  replace hEi := Lib.hid hEi
  replace hEk := Lib.hid hEk
  replace ri := Lib.hid ri
  replace rk := Lib.hid rk
  go_enter Try.func177, Try.ntmps177
  go_upto_region 0 with (fail)
  refine wp_region_gg ([g]) [13, 15] [] (by kernel_rfl) ?_
  refine hoist [] [13, 15] (a1 := ?_) 0 rfl (by kernel_rfl) (.inl ⟨rfl, rfl⟩) rfl rfl rfl (fun x K hK => ?_) ?_
  rotate_left
  · go_big_quiet_op
    exact hK
  refine hoist [] [13, 15] (a1 := ?_) 1 rfl (by kernel_rfl) (.inl ⟨rfl, rfl⟩) rfl rfl rfl (fun x K hK => ?_) ?_
  rotate_left
  · go_big_quiet_op
    exact hK
  refine hoist ([g]) [] (a1 := ?_) 2 rfl (by kernel_rfl) (.inr rfl) rfl rfl rfl (fun x K hK => ?_) ?_
  rotate_left
  · go_big_quiet_op
    exact hK
  refine hoist ([g]) [] (a1 := ?_) 3 rfl (by kernel_rfl) (.inr rfl) rfl rfl rfl (fun x K hK => ?_) ?_
  rotate_left
  · go_big_quiet_op
    exact hK
  refine hoist [] [13, 15] (a1 := ?_) 4 rfl (by kernel_rfl) (.inl ⟨rfl, rfl⟩) rfl rfl rfl (fun x K hK => ?_) ?_
  rotate_left
  · go_big_quiet_op
    exact hK
  refine hoist [] [13, 15] (a1 := ?_) 5 rfl (by kernel_rfl) (.inl ⟨rfl, rfl⟩) rfl rfl rfl (fun x K hK => ?_) ?_
  rotate_left
  · go_big_quiet_op
    exact hK
  refine hoist [] [13, 15] (a1 := ?_) 6 rfl (by kernel_rfl) (.inl ⟨rfl, rfl⟩) rfl rfl rfl (fun x K hK => ?_) ?_
  rotate_left
  · go_big_quiet_op
    exact hK
  refine hoist [] [13, 15] (a1 := ?_) 7 rfl (by kernel_rfl) (.inl ⟨rfl, rfl⟩) rfl rfl rfl (fun x K hK => ?_) ?_
  rotate_left
  · go_big_quiet_op
    exact hK
  refine hoist [] [13, 15] (a1 := ?_) 8 rfl (by kernel_rfl) (.inl ⟨rfl, rfl⟩) rfl rfl rfl (fun x K hK => ?_) ?_
  rotate_left
  · go_big_quiet_op
    exact hK
  refine hoist [] [13, 15] (a1 := ?_) 9 rfl (by kernel_rfl) (.inl ⟨rfl, rfl⟩) rfl rfl rfl (fun x K hK => ?_) ?_
  rotate_left
  · go_big_quiet_op
    exact hK
  refine hoist [] [13, 15] (a1 := ?_) 10 rfl (by kernel_rfl) (.inl ⟨rfl, rfl⟩) rfl rfl rfl (fun x K hK => ?_) ?_
  rotate_left
  · go_big_quiet_op
    exact hK
  refine hoist [] [13, 15] (a1 := ?_) 11 rfl (by kernel_rfl) (.inl ⟨rfl, rfl⟩) rfl rfl rfl (fun x K hK => ?_) ?_
  rotate_left
  · go_big_quiet_op
    exact hK
  refine hoist [] [13, 15] (a1 := ?_) 12 rfl (by kernel_rfl) (.inl ⟨rfl, rfl⟩) rfl rfl rfl (fun x K hK => ?_) ?_
  rotate_left
  · go_big_quiet_op
    exact hK
  refine effect 13 rfl (by kernel_rfl) (by kernel_rfl) rfl (fun x13 K hK => ?_)
  have QA := hQ.out.bw x13.bw
  have f0 := hfr.out _ _ QA (o + i * 4)
  have f1 := hfr.out _ _ QA (o + i * 4 + 1)
  have f2 := hfr.out _ _ QA (o + i * 4 + 2)
  have f3 := hfr.out _ _ QA (o + i * 4 + 3)
  have y0 := x13.bw.cell a0
  have y1 := x13.bw.cell a1
  have y2 := x13.bw.cell a2
  have y3 := x13.bw.cell a3
  have RA : TN.R x13.now base ⟨ik, bk, tk, uk⟩ [.int .i64 ik, .int .i64 bk, .int .i64 tk, .string uk] := ⟨rfl, rk.out⟩
  have QB := Lib.hid (QA.put4 rfl trivial RA i hin)
  have TB := Lib.hid ((x13.bw.still [g]).trans (still_put4 x13.now g o i (.int .i64 ik) (.int .i64 bk) (.int .i64 tk) (.string uk)))
  have TC := still_put4 x13.now g o i (.int .i64 ik) (.int .i64 bk) (.int .i64 tk) (.string uk)
  clear m0 m1 m2 m3 k0 k1 k2 k3 QA RA
  replace TC := Lib.hid TC
  go_simp
  refine hK _ _ TC.out ?_
  clear hK K f0 f1 f2 f3 y0 y1 y2 y3 TC
  generalize (((x13.now.setCell ⟨g, o + i * 4, none⟩ (.int .i64 ik)).setCell ⟨g, o + i * 4 + 1, none⟩ (.int .i64 bk)).setCell ⟨g, o + i * 4 + 2, none⟩ (.int .i64 tk)).setCell ⟨g, o + i * 4 + 3, none⟩ (.string uk) = wB at *
  try simp only [Act.put, List.setIfInBounds_toArray, List.set_cons_succ, List.set_cons_zero]
  refine hoist [] [13, 15] (a1 := ?_) 14 rfl (by kernel_rfl) (.inl ⟨rfl, rfl⟩) rfl rfl rfl (fun x K hK => ?_) ?_
  rotate_left
  · go_big_quiet_op
    exact hK
  refine effect 15 rfl (by kernel_rfl) (by kernel_rfl) rfl (fun x15 K hK => ?_)
  have QC := QB.out.bw x15.bw
  have hkl2 : k < (L.set i ⟨ik, bk, tk, uk⟩).length := by rw [List.length_set]; exact hk
  obtain ⟨g', o', he, _, hc⟩ := tn_form QC (by omega)
  cases he
  obtain ⟨y0, y1, y2, y3, _⟩ := hc k hkl2
  have f0 := hfr.out _ _ QC (o + k * 4)
  have f1 := hfr.out _ _ QC (o + k * 4 + 1)
  have f2 := hfr.out _ _ QC (o + k * 4 + 2)
  have f3 := hfr.out _ _ QC (o + k * 4 + 3)
  have RC : TN.R x15.now base ⟨ii, bi, ti, ui⟩ [.int .i64 ii, .int .i64 bi, .int .i64 ti, .string ui] := ⟨rfl, ri.out⟩
  have QD := Lib.hid (QC.put4 rfl trivial RC k hkn)
  have TD := Lib.hid (still_put4 x15.now g o k (.int .i64 ii) (.int .i64 bi) (.int .i64 ti) (.string ui))
  have TE := Lib.hid ((TB.out.trans (x15.bw.still [g])).trans TD.out)
  generalize (L.set i ⟨ik, bk, tk, uk⟩)[k] = old at *
  clear QC RC hc QB TB hkl2
  go_simp
  refine hK _ _ TD.out ?_
  clear hK K f0 f1 f2 f3 y0 y1 y2 y3 TD
  generalize (((x15.now.setCell ⟨g, o + k * 4, none⟩ (.int .i64 ii)).setCell ⟨g, o + k * 4 + 1, none⟩ (.int .i64 bi)).setCell ⟨g, o + k * 4 + 2, none⟩ (.int .i64 ti)).setCell ⟨g, o + k * 4 + 3, none⟩ (.string ui) = wD at *
  try simp only [Act.put, List.setIfInBounds_toArray, List.set_cons_succ, List.set_cons_zero]
  refine done (by kernel_rfl) (fun xr => ?_)
  have QE := Lib.hid (QD.out.bw xr.bw)
  have TF := Lib.hid (TE.out.trans (xr.bw.still [g]))
  clear QD TE
  generalize xr.now = wz at *
  go_wp2_with fail
  go_end0
  refine ⟨rfl, ?_, TF.out⟩
  rw [hsw.out]
  exact QE.out
end Go.Proofs.Ytcempndfbckcaaa
