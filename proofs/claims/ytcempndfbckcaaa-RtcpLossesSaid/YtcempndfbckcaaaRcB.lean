/- rtcp.readers: a map of eight keys, filled in whatever order: the walk. No condition. -/
import Derived.Test.YtcempndfbckcaaaRcA
namespace Go.Proofs.Ytcempndfbckcaaa
open Go.RowKit

theorem KvIn.made (w : World) (g : Nat) (hg : g = w.heap.size) : KvIn w g (List.replicate 8 false) (w.alloc (.map #[] 0)) := by
  subst hg
  refine ⟨Nat.le_refl _, (BW.refl w).alloc, [], MapIn.made w, fun p => ⟨fun h => by simp at h, fun ⟨i, hi, h, _⟩ => ?_⟩⟩
  rw [List.getD_eq_getElem?_getD, List.getElem?_replicate_of_lt hi] at h
  cases h
set_option maxRecDepth 100000 in
set_option maxHeartbeats 8000000 in
theorem readers_ok (w : World) : Calls Try.prog 119 #[] w fun e w' => ∃ g, e = .returned (.map (some g)) ∧ KvIn w g (List.replicate 8 true) w' := by
  go_enter Try.func119, Try.ntmps119
  go_upto_region 1 with (fail)
  refine wp_region_gl [] [] [] [2, 4, 6, 8, 10, 12, 14, 16] (by kernel_rfl) ?_
  refine hoistP (a1 := ?_) (v := kindV 200 (-1)) 1 rfl (by kernel_rfl) rfl (fun x => by kernel_rfl) ?_ ?_
  rotate_left
  · simp only [Act.put, List.setIfInBounds_toArray, List.set_cons_succ, List.set_cons_zero]; rfl
  refine hoistP (a1 := ?_) (v := kindV 201 (-1)) 3 rfl (by kernel_rfl) rfl (fun x => by kernel_rfl) ?_ ?_
  rotate_left
  · simp only [Act.put, List.setIfInBounds_toArray, List.set_cons_succ, List.set_cons_zero]; rfl
  refine hoistP (a1 := ?_) (v := kindV 202 (-1)) 5 rfl (by kernel_rfl) rfl (fun x => by kernel_rfl) ?_ ?_
  rotate_left
  · simp only [Act.put, List.setIfInBounds_toArray, List.set_cons_succ, List.set_cons_zero]; rfl
  refine hoistP (a1 := ?_) (v := kindV 203 (-1)) 7 rfl (by kernel_rfl) rfl (fun x => by kernel_rfl) ?_ ?_
  rotate_left
  · simp only [Act.put, List.setIfInBounds_toArray, List.set_cons_succ, List.set_cons_zero]; rfl
  refine hoistP (a1 := ?_) (v := kindV 205 1) 9 rfl (by kernel_rfl) rfl (fun x => by kernel_rfl) ?_ ?_
  rotate_left
  · simp only [Act.put, List.setIfInBounds_toArray, List.set_cons_succ, List.set_cons_zero]; rfl
  refine hoistP (a1 := ?_) (v := kindV 206 1) 11 rfl (by kernel_rfl) rfl (fun x => by kernel_rfl) ?_ ?_
  rotate_left
  · simp only [Act.put, List.setIfInBounds_toArray, List.set_cons_succ, List.set_cons_zero]; rfl
  refine hoistP (a1 := ?_) (v := kindV 206 4) 13 rfl (by kernel_rfl) rfl (fun x => by kernel_rfl) ?_ ?_
  rotate_left
  · simp only [Act.put, List.setIfInBounds_toArray, List.set_cons_succ, List.set_cons_zero]; rfl
  refine hoistP (a1 := ?_) (v := kindV 206 15) 15 rfl (by kernel_rfl) rfl (fun x => by kernel_rfl) ?_ ?_
  rotate_left
  · simp only [Act.put, List.setIfInBounds_toArray, List.set_cons_succ, List.set_cons_zero]; rfl
  refine effect 0 rfl (by kernel_rfl) (by kernel_rfl) rfl (fun x0 K hK => ?_)
  unfold Oper.wp
  simp only [execOp]
  have hrun : ∀ W : World, (Instr.makeMap 203 none).run Try.prog W = .ok (.map (some W.heap.size)) (W.alloc (.map #[] 0)) := fun W => rfl
  simp [hrun, Result.andThen]
  refine hK _ _ (Still.of_below ((Below.refl _ _).alloc (Nat.le_refl _) _)) ?_
  clear hK K
  simp only [Act.put, List.setIfInBounds_toArray, List.set_cons_succ, List.set_cons_zero]
  have hI := KvIn.made x0.now x0.now.heap.size rfl
  have BX := Lib.hid x0.bw
  generalize x0.now.heap.size = g at *
  have hI2 : KvIn w g (List.replicate 8 false) (x0.now.alloc (.map #[] 0)) := by
    obtain ⟨h0, hb, s, hm, hp⟩ := hI
    exact ⟨Nat.le_trans BX.out.size h0, BX.out.trans hb, s, hm, hp⟩
  clear hI BX
  have hb0 : (List.replicate 8 false).length = 8 := rfl
  have hh : [true, true, false, true, false, true, false, true, false, true, false, true, false, true, false, true, false, false, false] = lst [true, true, false, true, false, true, false, true, false, true, false, true, false, true, false, true, false, false, false] [2, 4, 6, 8, 10, 12, 14, 16] (List.replicate 8 false) := by kernel_rfl
  refine (unordered (base := [true, true, false, true, false, true, false, true, false, true, false, true, false, true, false, true, false, false, false]) [2, 4, 6, 8, 10, 12, 14, 16] (by kernel_rfl) (n := 8) rfl (f := 2) ?_ (fun b w' => b.length = 8 ∧ KvIn w g b w') ?_ ?_ ?_ 8 (List.replicate 8 false) rfl rfl _ ⟨rfl, hI2⟩ : _)
  · intro t ht
    simp only [List.mem_cons, List.not_mem_nil, or_false] at ht
    rcases ht with rfl | rfl | rfl | rfl | rfl | rfl | rfl | rfl <;> exact ⟨_, rfl, rfl, by kernel_rfl⟩
  · exact fun b w1 w2 h hs => ⟨h.1, h.2.still hs⟩
  · rintro b i hi hf w1 ⟨hbl, h⟩ o ho K hK
    match i, hi with
    | 0, hi | 1, hi | 2, hi | 3, hi | 4, hi | 5, hi | 6, hi | 7, hi =>
      cases ho
      exact wp_ins rfl rfl rfl rfl rfl h hbl hi hf fun w' hw' => hK w' ⟨by rw [List.length_set]; exact hbl, hw'⟩
  · rintro w1 ⟨_, hK⟩
    rw [show lst [true, true, false, true, false, true, false, true, false, true, false, true, false, true, false, true, false, false, false] [2, 4, 6, 8, 10, 12, 14, 16] (List.replicate 8 true) = [true, true, true, true, true, true, true, true, true, true, true, true, true, true, true, true, true, false, false] by kernel_rfl]
    refine hoist [] [] (a1 := ?_) 17 rfl (by kernel_rfl) (.inl ⟨rfl, rfl⟩) rfl rfl rfl (fun x K hK => ?_) ?_
    rotate_left
    · go_big_quiet_op
      exact hK
    refine hoist [] [] (a1 := ?_) 18 rfl (by kernel_rfl) (.inl ⟨rfl, rfl⟩) rfl rfl rfl (fun x K hK => ?_) ?_
    rotate_left
    · go_big_quiet_op
      exact hK
    refine done (by kernel_rfl) (fun xr => ?_)
    replace hK := Lib.hid (hK.still xr.ok)
    go_wp2_with fail
    go_ret
    exact ⟨g, rfl, hK.out⟩
end Go.Proofs.Ytcempndfbckcaaa
