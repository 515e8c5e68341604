/- Packets put into order: two of the queue's elements swapped. No condition but the sizes'. -/
import Derived.Test.YtcempndfbckcaaaReA
import Derived.Test.YtcempndfbckcaaaRg2
import Derived.Test.YtcempndfbckcaaaHea
namespace Go.Proofs.Ytcempndfbckcaaa
open Go.RowKit

set_option maxRecDepth 100000 in
set_option maxHeartbeats 8000000 in
theorem swap_any (base g o cv : Nat) (n : Nat) (L : List Ent) (i k : Nat) (hi : i < L.length) (hk : k < L.length) (w : World) (h : EQ EN 131 w base (.slice (some ⟨g, o, none⟩) n cv) n L) :
    Calls Try.prog 172 #[.slice (some ⟨g, o, none⟩) n cv, .int .i64 (i : Nat), .int .i64 (k : Nat)] w fun e w' => e = .returned (.tuple #[]) ∧ EQ EN 131 w' base (.slice (some ⟨g, o, none⟩) n cv) n (swapL L i k hi hk) ∧ Still [g] w w' := by
  have hl := h.1
  have hin : i < n := by omega
  have hkn : k < n := by omega
  obtain ⟨_, _, he, hnc, hcm⟩ := h.len
  cases he
  unfold maxLen at hcm
  obtain ⟨g', o', he, hgb, hc⟩ := en_form h (by omega)
  cases he
  obtain ⟨si, ci, a0, a1, a2, Oi⟩ := hc i hi
  obtain ⟨sk, ck, b0, b1, b2, Ok⟩ := hc k hk
  have hsw : swapL L i k hi hk = (L.set i L[k]).set k L[i] := rfl
  have m0 : ∀ y : LaterS [] w, _ := fun y => y.bw.cell a0
  have m1 : ∀ y : LaterS [] w, _ := fun y => y.bw.cell a1
  have m2 : ∀ y : LaterS [] w, _ := fun y => y.bw.cell a2
  have k0 : ∀ y : LaterS [] w, _ := fun y => y.bw.cell b0
  have k1 : ∀ y : LaterS [] w, _ := fun y => y.bw.cell b1
  have k2 : ∀ y : LaterS [] w, _ := fun y => y.bw.cell b2
  have hNB : NoB w g := h.noB (by decide) g (by simp [Value.ownBlock])
  have hQ := Lib.hid h
  have hfr := Lib.hid (fun (w' : World) (L' : List Ent) (h' : EQ EN 131 w' base (.slice (some ⟨g, o, none⟩) n cv) n L') => h'.frz (by omega))
  clear hc h
  generalize swapL L i k hi hk = SL at *
  generalize hEi : L[i] = ei at *
  generalize hEk : L[k] = ek at *
  obtain ⟨ii, bi, ti⟩ := ei
  obtain ⟨ik, bk, tk⟩ := ek
  dsimp only at *
  generalize hbi : bi.length = ni at *
  generalize hbk : bk.length = nk at *
  replace hl := Lib.hid hl
  replace hsw := Lib.hid hsw
  replace hEi := Lib.hid hEi
  replace hEk := Lib.hid hEk
  replace hbi := Lib.hid hbi
  replace hbk := Lib.hid hbk
  replace Oi := Lib.hid Oi
  replace Ok := Lib.hid Ok
  replace hNB := Lib.hid hNB
  go_enter Try.func172, Try.ntmps172
  go_upto_region 0 with (fail)
  refine wp_region_gg ([g]) [13, 15] [] (by kernel_rfl) ?_
  refine hoist [] [13, 15] (a1 := ?_) 0 rfl (by kernel_rfl) (.inl ⟨rfl, rfl⟩) rfl rfl rfl (fun x K hK => ?_) ?_
  rotate_left
  · go_big_quiet_op
    exact hK
  refine hoist [] [13, 15] (a1 := ?_) 1 rfl (by kernel_rfl) (.inl ⟨rfl, rfl⟩) rfl rfl rfl (fun x K hK => ?_) ?_
  rotate_left
  · go_big_quiet_op
    exact hK
  refine hoist ([g]) [] (a1 := ?_) 2 rfl (by kernel_rfl) (.inr rfl) rfl rfl rfl (fun x K hK => ?_) ?_
  rotate_left
  · go_big_quiet_op
    exact hK
  refine hoist ([g]) [] (a1 := ?_) 3 rfl (by kernel_rfl) (.inr rfl) rfl rfl rfl (fun x K hK => ?_) ?_
  rotate_left
  · go_big_quiet_op
    exact hK
  refine hoist [] [13, 15] (a1 := ?_) 4 rfl (by kernel_rfl) (.inl ⟨rfl, rfl⟩) rfl rfl rfl (fun x K hK => ?_) ?_
  rotate_left
  · go_big_quiet_op
    exact hK
  refine hoist [] [13, 15] (a1 := ?_) 5 rfl (by kernel_rfl) (.inl ⟨rfl, rfl⟩) rfl rfl rfl (fun x K hK => ?_) ?_
  rotate_left
  · go_big_quiet_op
    exact hK
  refine hoist [] [13, 15] (a1 := ?_) 6 rfl (by kernel_rfl) (.inl ⟨rfl, rfl⟩) rfl rfl rfl (fun x K hK => ?_) ?_
  rotate_left
  · go_big_quiet_op
    exact hK
  refine hoist [] [13, 15] (a1 := ?_) 7 rfl (by kernel_rfl) (.inl ⟨rfl, rfl⟩) rfl rfl rfl (fun x K hK => ?_) ?_
  rotate_left
  · go_big_quiet_op
    exact hK
  refine hoist [] [13, 15] (a1 := ?_) 8 rfl (by kernel_rfl) (.inl ⟨rfl, rfl⟩) rfl rfl rfl (fun x K hK => ?_) ?_
  rotate_left
  · go_big_quiet_op
    exact hK
  refine hoist [] [13, 15] (a1 := ?_) 9 rfl (by kernel_rfl) (.inl ⟨rfl, rfl⟩) rfl rfl rfl (fun x K hK => ?_) ?_
  rotate_left
  · go_big_quiet_op
    exact hK
  refine hoist [] [13, 15] (a1 := ?_) 10 rfl (by kernel_rfl) (.inl ⟨rfl, rfl⟩) rfl rfl rfl (fun x K hK => ?_) ?_
  rotate_left
  · go_big_quiet_op
    exact hK
  refine hoist [] [13, 15] (a1 := ?_) 11 rfl (by kernel_rfl) (.inl ⟨rfl, rfl⟩) rfl rfl rfl (fun x K hK => ?_) ?_
  rotate_left
  · go_big_quiet_op
    exact hK
  refine hoist [] [13, 15] (a1 := ?_) 12 rfl (by kernel_rfl) (.inl ⟨rfl, rfl⟩) rfl rfl rfl (fun x K hK => ?_) ?_
  rotate_left
  · go_big_quiet_op
    exact hK
  refine effect 13 rfl (by kernel_rfl) (by kernel_rfl) rfl (fun x13 K hK => ?_)
  have QA := hQ.out.bw x13.bw
  have f0 := hfr.out _ _ QA (o + i * 3)
  have f1 := hfr.out _ _ QA (o + i * 3 + 1)
  have f2 := hfr.out _ _ QA (o + i * 3 + 2)
  have y0 := x13.bw.cell a0
  have y1 := x13.bw.cell a1
  have y2 := x13.bw.cell a2
  have NA : NoB x13.now g := by
    refine QA.noB (by decide) g (by simp [Value.ownBlock])
  have RA : EN.R x13.now base ⟨ik, bk, tk⟩ [.int .i64 ik, .slice sk nk ck, .int .i64 tk] := ⟨_, rfl, by show OB _ _ _ _ bk.length bk; rw [hbk.out]; exact Ok.out.bw x13.bw⟩
  have QB := Lib.hid (QA.put3 rfl NA RA i hin)
  have TB := Lib.hid ((x13.bw.still [g]).trans (still_put3 x13.now g o i (.int .i64 ik) (.slice sk nk ck) (.int .i64 tk)))
  have TC := still_put3 x13.now g o i (.int .i64 ik) (.slice sk nk ck) (.int .i64 tk)
  have OiB := Lib.hid ((Oi.out.bw x13.bw).still TC (fun g' hg' hm => by
    have := NoB.ob (Oi.out.bw x13.bw) (S := [g]) (by simpa using NA) g' hg'
    exact this hm))
  clear m0 m1 m2 k0 k1 k2 QA RA
  replace NA := Lib.hid NA
  replace TC := Lib.hid TC
  go_simp
  refine hK _ _ TC.out ?_
  clear hK K f0 f1 f2 y0 y1 y2 NA TC
  generalize ((x13.now.setCell ⟨g, o + i * 3, none⟩ (.int .i64 ik)).setCell ⟨g, o + i * 3 + 1, none⟩ (.slice sk nk ck)).setCell ⟨g, o + i * 3 + 2, none⟩ (.int .i64 tk) = wB at *
  try simp only [Act.put, List.setIfInBounds_toArray, List.set_cons_succ, List.set_cons_zero]
  refine hoist [] [13, 15] (a1 := ?_) 14 rfl (by kernel_rfl) (.inl ⟨rfl, rfl⟩) rfl rfl rfl (fun x K hK => ?_) ?_
  rotate_left
  · go_big_quiet_op
    exact hK
  refine effect 15 rfl (by kernel_rfl) (by kernel_rfl) rfl (fun x15 K hK => ?_)
  have QC := QB.out.bw x15.bw
  have hkl2 : k < (L.set i ⟨ik, bk, tk⟩).length := by rw [List.length_set]; exact hk
  obtain ⟨g', o', he, _, hc⟩ := en_form QC (by omega)
  cases he
  obtain ⟨_, _, y0, y1, y2, _⟩ := hc k hkl2
  have f0 := hfr.out _ _ QC (o + k * 3)
  have f1 := hfr.out _ _ QC (o + k * 3 + 1)
  have f2 := hfr.out _ _ QC (o + k * 3 + 2)
  have NC : NoB x15.now g := by
    refine QC.noB (by decide) g (by simp [Value.ownBlock])
  have RC : EN.R x15.now base ⟨ii, bi, ti⟩ [.int .i64 ii, .slice si ni ci, .int .i64 ti] := ⟨_, rfl, by show OB _ _ _ _ bi.length bi; rw [hbi.out]; exact OiB.out.bw x15.bw⟩
  have QD := Lib.hid (QC.put3 rfl NC RC k hkn)
  have TD := Lib.hid (still_put3 x15.now g o k (.int .i64 ii) (.slice si ni ci) (.int .i64 ti))
  have TE := Lib.hid ((TB.out.trans (x15.bw.still [g])).trans TD.out)
  generalize (L.set i ⟨ik, bk, tk⟩)[k] = old at *
  clear QC RC hc NC QB TB OiB hkl2
  go_simp
  refine hK _ _ TD.out ?_
  clear hK K f0 f1 f2 y0 y1 y2 TD
  generalize ((x15.now.setCell ⟨g, o + k * 3, none⟩ (.int .i64 ii)).setCell ⟨g, o + k * 3 + 1, none⟩ (.slice si ni ci)).setCell ⟨g, o + k * 3 + 2, none⟩ (.int .i64 ti) = wD at *
  try simp only [Act.put, List.setIfInBounds_toArray, List.set_cons_succ, List.set_cons_zero]
  refine done (by kernel_rfl) (fun xr => ?_)
  have QE := Lib.hid (QD.out.bw xr.bw)
  have TF := Lib.hid (TE.out.trans (xr.bw.still [g]))
  clear QD TE
  generalize xr.now = wz at *
  go_wp2_with fail
  go_end0
  refine ⟨rfl, ?_, TF.out⟩
  rw [hsw.out]
  exact QE.out
end Go.Proofs.Ytcempndfbckcaaa
