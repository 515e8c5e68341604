/- The law ReorderStraight. No condition. -/
import Derived.Test.YtcempndfbckcaaaReY
import Derived.Test.YtcempndfbckcaaaRx
import Derived.Test.YtcempndfbckcaaaBst
namespace Go.Proofs.Ytcempndfbckcaaa
open Go.RowKit

def stS (f : Int) (j : Nat) : BS := ⟨4, 5, if j = 0 then -1 else f + (j : Nat), [], 0, 0⟩
theorem st_put {f : Int} (hf : 0 ≤ f) (j : Nat) (b : List Nat) : putS (f + (j : Nat)) (j : Nat) b (stS f j) = (stS f (j + 1), [(f + (j : Nat), b)], 0) := by
  unfold putS
  rw [if_neg (by omega)]
  have h2 : ∀ S : BS, S.L = [] → S.next = f + (j : Nat) → S.many = 4 → S.wait = 5 → S.passed = 0 → S.dropped = 0 → tickS (j : Nat) (addS S ⟨f + (j : Nat), b, (j : Nat)⟩).L.length (addS S ⟨f + (j : Nat), b, (j : Nat)⟩) = (stS f (j + 1), [(f + (j : Nat), b)]) := by
    rintro ⟨m, w, n, L, p, d⟩ rfl hn hm hw hp hd
    simp only at hn hm hw hp hd
    subst hm hw hp hd hn
    have ht : (addS ⟨4, 5, f + (j : Nat), [], 0, 0⟩ ⟨f + (j : Nat), b, (j : Nat)⟩).top = ⟨f + (j : Nat), b, (j : Nat)⟩ := by
      unfold BS.top leastI
      simp [addS, leastTo]
    have hm : mayS (addS ⟨4, 5, f + (j : Nat), [], 0, 0⟩ ⟨f + (j : Nat), b, (j : Nat)⟩) (j : Nat) = true := by
      unfold mayS
      rw [ht]
      simp [addS]
    have ht2 : takeS (addS ⟨4, 5, f + (j : Nat), [], 0, 0⟩ ⟨f + (j : Nat), b, (j : Nat)⟩) = stS f (j + 1) := by
      unfold takeS
      rw [ht]
      show (⟨4, 5, f + (j : Nat) + 1, ([⟨f + (j : Nat), b, (j : Nat)⟩] : List Ent).eraseIdx (leastI [⟨f + (j : Nat), b, (j : Nat)⟩]), 0 + (f + (j : Nat) - (f + (j : Nat))), 0⟩ : BS) = _
      rw [show leastI [(⟨f + (j : Nat), b, (j : Nat)⟩ : Ent)] = 0 by simp [leastI, leastTo]]
      unfold stS
      show (⟨4, 5, f + (j : Nat) + 1, [], 0 + (f + (j : Nat) - (f + (j : Nat))), 0⟩ : BS) = _
      rw [if_neg (by omega), show (0 : Int) + (f + (j : Nat) - (f + (j : Nat))) = 0 by omega, show f + (j : Nat) + 1 = f + ((j + 1 : Nat) : Int) by push_cast; omega]
    show tickS (j : Nat) (0 + 1) _ = _
    unfold tickS
    rw [if_pos hm, ht2, ht]
    rfl
  have h3 : ¬ (0 ≤ (stS f j).next ∧ (f + (j : Nat) < (stS f j).next ∨ (stS f j).L.any (isE (f + (j : Nat))) = true)) := by
    rintro ⟨h, h4 | h4⟩
    · unfold stS at h h4
      dsimp only at h h4
      by_cases hj : j = 0
      · rw [if_pos hj] at h; omega
      · rw [if_neg hj] at h4; omega
    · cases h4
  rw [if_neg h3]
  by_cases hj : j = 0
  · have h4 : (stS f j).next < 0 := by
      unfold stS
      dsimp only
      rw [if_pos hj]; omega
    dsimp only
    rw [if_pos h4, h2 { stS f j with next := f + (j : Nat) } rfl rfl rfl rfl rfl rfl]
  · have h4 : (stS f j).next = f + (j : Nat) := by
      unfold stS
      dsimp only
      rw [if_neg hj]
    dsimp only
    rw [if_neg (by rw [h4]; omega), h2 (stS f j) rfl h4 rfl rfl rfl rfl]
theorem st_bk {f : Int} (hf : 0 ≤ f ∧ f ≤ 4294967295) (j : Nat) (hj : j ≤ 60) : BK (stS f j) 4 1 := by
  refine ⟨⟨?_, ?_, ?_, ?_, ?_, ?_⟩, rfl, ?_, ?_⟩
  · intro x hx; simp [stS] at hx
  · intro x hx; simp [stS] at hx
  · simp [stS]
  · unfold stS; dsimp only; split <;> omega
  · intro h; simp [stS] at h
  · unfold stS; dsimp only; omega
  · simp [stS]
  · unfold stS; dsimp only; omega
set_option maxRecDepth 100000 in
set_option maxHeartbeats 8000000 in
theorem law_straight (f : Int) (a : Option Addr) (len cap : Nat) (w : World) (wf : (Lit.int .u32 f).wf = true) (wl : Rd w (.loop (.loop (.label 4))) [.slice a len cap]) :
    Calls Try.prog 10 #[.int .u32 f, .slice a len cap] w fun e w' => e = .returned (.bool true) ∧ Below w.heap.size w w' := by
  obtain ⟨f0, f1⟩ := bounds_u32 wf
  obtain ⟨hlc, hcm, hops⟩ := bys_at wl
  unfold maxLen at hcm
  clear wf wl
  have ha := Lib.hid (re_alive w)
  replace hops := Lib.hid hops
  go_enter Try.func10, Try.ntmps10
  go_wp2_with fail
  refine Calls.mono ha.out ?_
  rintro e w1 ⟨rfl, B1⟩
  have cN := Lib.hid (bnewA 4 5 (by decide) (by decide) w w1 B1)
  clear ha B1
  dsimp only
  go_wp2_with fail
  refine Calls.mono cN.out ?_
  rintro e w2 ⟨g0, rfl, A⟩
  have A2 := Lib.hid A
  clear cN A
  dsimp only
  go_upto_region 7 with (fail)
  go_loopg [6] len (fun m' i wx => ∃ (j cv : Nat) (sa : Option Addr) (H : List Ent), m' = len - j ∧ j ≤ len ∧ j ≤ 60 ∧ i = .int .i64 (j : Nat) ∧ Hid (BufA w wx g0 sa cv (stS f j) H))
  case atStart => exact ⟨0, 0, none, [], by omega, by omega, by omega, rfl, A2⟩
  case round =>
    clear A2
    obtain ⟨j, cv, sa, H, rfl, hj, hj6, rfl, A⟩ := hrel
    have cW := Lib.hid (waits_any w.heap.size g0 cv sa (stS f j) H wr A.out.i)
    have cP := Lib.hid (passed_any w.heap.size g0 cv sa (stS f j) H wr A.out.i)
    have eW : (stS f j).L.length = 0 := rfl
    have eP : (stS f j).passed = 0 := rfl
    rw [eW] at cW
    rw [eP] at cP
    have B := Lib.hid A.out.b
    by_cases hjl : j < len
    case neg =>
      have d1 : decide ((j : Int) < (len : Int)) = false := by simp; omega
      clear eW eP
      go_wp2_with (first | (go_at_call 37; refine cW.out.mono ?_; rintro e w8 ⟨rfl, rfl⟩; clear cW) | (go_at_call 38; refine cP.out.mono ?_; rintro e w8 ⟨rfl, rfl⟩; clear cP))
      go_ret
      exact ⟨rfl, B.out⟩
    have d1 : decide ((j : Int) < (len : Int)) = true := by simp; omega
    by_cases hj1 : j < 60
    case neg =>
      have d2 : decide ((j : Int) < 60) = false := by simp; omega
      clear eW eP
      go_wp2_with (first | (go_at_call 37; refine cW.out.mono ?_; rintro e w8 ⟨rfl, rfl⟩; clear cW) | (go_at_call 38; refine cP.out.mono ?_; rintro e w8 ⟨rfl, rfl⟩; clear cP))
      go_ret
      exact ⟨rfl, B.out⟩
    have d2 : decide ((j : Int) < 60) = true := by simp; omega
    clear cW cP eW eP
    rcases hops.out with h | ⟨b, o, rfl, hbw, hi⟩
    · omega
    obtain ⟨sv, n, cp, l, e0, hv, hn1, hn2⟩ := hi j hjl
    clear hops hi
    unfold maxLen at hn2
    have x0 := B.out.cell e0
    have hV := Lib.hid (hv.bw B.out)
    replace e0 := Lib.hid e0
    replace hv := Lib.hid hv
    by_cases hn : 300 < n
    · have d3 : decide ((300 : Int) < (n : Int)) = true := by simp; omega
      go_wp2_with fail
      go_ret
      exact ⟨rfl, B.out⟩
    have d3 : decide ((300 : Int) < (n : Int)) = false := by simp; omega
    have hP := Lib.hid (putA g0 cv n cp sa sv (stS f j) (stS f (j + 1)) H (f + (j : Nat)) (j : Nat) l _ 1 0 4 1 (st_put f0 j l) rfl (st_bk ⟨f0, by omega⟩ j hj6) (by decide) (by decide) (by omega) (by omega) hV.out.unpack.2.2.1 (by omega) w wr A.out hV.out)
    go_wp2_with fail
    refine Calls.mono hP.out ?_
    rintro e w3 ⟨H3, sb, cc, so, co, rfl, Q, A3, T3, -⟩
    obtain ⟨gk, ok, rfl, hk1, hk2, hkc⟩ := kp_form (n := 1) Q Nat.one_pos
    obtain ⟨s1, cb1, z0, z1, O1⟩ := hkc 0 Nat.one_pos
    unfold maxLen at hk2
    simp only [Nat.zero_mul, Nat.add_zero, List.getElem_cons_zero] at z0 z1 O1
    rw [hV.out.unpack.2.2.1] at z1 O1
    have B3 := Lib.hid A3.b
    have A4 := Lib.hid A3
    have V3 := Lib.hid (hv.out.bw B3.out)
    have y0 := B3.out.cell e0.out
    clear hP Q hkc T3 A3 x0 B hV A
    replace O1 := Lib.hid O1
    dsimp only
    go_upto_region 12 with (fail)
    have m0 : ∀ y : LaterS [] w3, _ := fun y => y.bw.cell z0
    have m1 : ∀ y : LaterS [] w3, _ := fun y => y.bw.cell z1
    have m2 : ∀ y : LaterS [] w3, _ := fun y => y.bw.cell y0
    have E1 : ∀ y : LaterS [] w3, _ := fun y => conv_sb (O1.out.bw y.bw).sb
    have E2 : ∀ y : LaterS [] w3, _ := fun y => conv_sb (V3.out.bw y.bw)
    clear z0 z1 y0
    refine wp_region_gg [] [] [] (by kernel_rfl) ?_
    refine hoist [] [] (a1 := ?_) 0 rfl (by kernel_rfl) (.inl ⟨rfl, rfl⟩) rfl rfl rfl (fun x K hK => ?_) ?_
    rotate_left
    · go_big_quiet_op
      exact hK
    refine hoist [] [] (a1 := ?_) 1 rfl (by kernel_rfl) (.inl ⟨rfl, rfl⟩) rfl rfl rfl (fun x K hK => ?_) ?_
    rotate_left
    · go_big_quiet_op
      exact hK
    refine hoist [] [] (a1 := ?_) 2 rfl (by kernel_rfl) (.inl ⟨rfl, rfl⟩) rfl rfl rfl (fun x K hK => ?_) ?_
    rotate_left
    · go_big_quiet_op
      exact hK
    refine hoist [] [] (a1 := ?_) 3 rfl (by kernel_rfl) (.inl ⟨rfl, rfl⟩) rfl rfl rfl (fun x K hK => ?_) ?_
    rotate_left
    · go_big_quiet_op
      exact hK
    refine hoist [] [] (a1 := ?_) 4 rfl (by kernel_rfl) (.inl ⟨rfl, rfl⟩) rfl rfl rfl (fun x K hK => ?_) ?_
    rotate_left
    · go_big_quiet_op
      exact hK
    refine hoist [] [] (a1 := ?_) 5 rfl (by kernel_rfl) (.inl ⟨rfl, rfl⟩) rfl rfl rfl (fun x K hK => ?_) ?_
    rotate_left
    · go_big_quiet_op
      exact hK
    refine hoist [] [] (a1 := ?_) 6 rfl (by kernel_rfl) (.inl ⟨rfl, rfl⟩) rfl rfl rfl (fun x K hK => ?_) ?_
    rotate_left
    · go_big_quiet_op
      exact hK
    refine hoist [] [] (a1 := ?_) 7 rfl (by kernel_rfl) (.inl ⟨rfl, rfl⟩) rfl rfl rfl (fun x K hK => ?_) ?_
    rotate_left
    · go_big_quiet_op
      exact hK
    refine hoist [] [] (a1 := ?_) 8 rfl (by kernel_rfl) (.inl ⟨rfl, rfl⟩) rfl rfl rfl (fun x K hK => ?_) ?_
    rotate_left
    · go_big_quiet_op
      exact hK
    refine hoist [] [] (a1 := ?_) 9 rfl (by kernel_rfl) (.inl ⟨rfl, rfl⟩) rfl rfl rfl (fun x K hK => ?_) ?_
    rotate_left
    · go_big_quiet_op
      exact hK
    refine hoist [] [] (a1 := ?_) 10 rfl (by kernel_rfl) (.inl ⟨rfl, rfl⟩) rfl rfl rfl (fun x K hK => ?_) ?_
    rotate_left
    · go_big_quiet_op
      exact hK
    refine hoist [] [] (a1 := ?_) 11 rfl (by kernel_rfl) (.inl ⟨rfl, rfl⟩) rfl rfl rfl (fun x K hK => ?_) ?_
    rotate_left
    · go_big_quiet_op
      exact hK
    refine hoist [] [] (a1 := ?_) 12 rfl (by kernel_rfl) (.inl ⟨rfl, rfl⟩) rfl rfl rfl (fun x K hK => ?_) ?_
    rotate_left
    · go_big_quiet_op
      exact hK
    refine hoist [] [] (a1 := ?_) 13 rfl (by kernel_rfl) (.inl ⟨rfl, rfl⟩) rfl rfl rfl (fun x K hK => ?_) ?_
    rotate_left
    · go_big_quiet_op
      exact hK
    refine hoist [] [] (a1 := ?_) 14 rfl (by kernel_rfl) (.inl ⟨rfl, rfl⟩) rfl rfl rfl (fun x K hK => ?_) ?_
    rotate_left
    · go_big_quiet_op
      exact hK
    refine hoist [] [] (a1 := ?_) 15 rfl (by kernel_rfl) (.inl ⟨rfl, rfl⟩) rfl rfl rfl (fun x K hK => ?_) ?_
    rotate_left
    · go_big_quiet_op
      exact hK
    refine hoist [] [] (a1 := ?_) 16 rfl (by kernel_rfl) (.inl ⟨rfl, rfl⟩) rfl rfl rfl (fun x K hK => ?_) ?_
    rotate_left
    · go_big_quiet_op
      exact hK
    refine hoist [] [] (a1 := ?_) 17 rfl (by kernel_rfl) (.inl ⟨rfl, rfl⟩) rfl rfl rfl (fun x K hK => ?_) ?_
    rotate_left
    · go_big_quiet_op
      exact hK
    refine hoist [] [] (a1 := ?_) 18 rfl (by kernel_rfl) (.inl ⟨rfl, rfl⟩) rfl rfl rfl (fun x K hK => ?_) ?_
    rotate_left
    · go_big_quiet_op
      exact hK
    refine hoist [] [] (a1 := ?_) 19 rfl (by kernel_rfl) (.inl ⟨rfl, rfl⟩) rfl rfl rfl (fun x K hK => ?_) ?_
    rotate_left
    · go_big_quiet_op
      exact hK
    refine hoist [] [] (a1 := ?_) 20 rfl (by kernel_rfl) (.inl ⟨rfl, rfl⟩) rfl rfl rfl (fun x K hK => ?_) ?_
    rotate_left
    · go_big_quiet_op
      exact hK
    refine hoist [] [] (a1 := ?_) 21 rfl (by kernel_rfl) (.inl ⟨rfl, rfl⟩) rfl rfl rfl (fun x K hK => ?_) ?_
    rotate_left
    · go_big_quiet_op
      exact hK
    refine hoist [] [] (a1 := ?_) 22 rfl (by kernel_rfl) (.inl ⟨rfl, rfl⟩) rfl rfl rfl (fun x K hK => ?_) ?_
    rotate_left
    · go_big_quiet_op
      exact hK
    refine hoist [] [] (a1 := ?_) 23 rfl (by kernel_rfl) (.inl ⟨rfl, rfl⟩) rfl rfl rfl (fun x K hK => ?_) ?_
    rotate_left
    · go_big_quiet_op
      exact hK
    refine hoist [] [] (a1 := ?_) 24 rfl (by kernel_rfl) (.inl ⟨rfl, rfl⟩) rfl rfl rfl (fun x K hK => ?_) ?_
    rotate_left
    · go_big_quiet_op
      exact hK
    refine hoist [] [] (a1 := ?_) 25 rfl (by kernel_rfl) (.inl ⟨rfl, rfl⟩) rfl rfl rfl (fun x K hK => ?_) ?_
    rotate_left
    · go_big_quiet_op
      exact hK
    refine hoist [] [] (a1 := ?_) 26 rfl (by kernel_rfl) (.inl ⟨rfl, rfl⟩) rfl rfl rfl (fun x K hK => ?_) ?_
    rotate_left
    · go_big_quiet_op
      exact hK
    refine hoist [] [] (a1 := ?_) 27 rfl (by kernel_rfl) (.inl ⟨rfl, rfl⟩) rfl rfl rfl (fun x K hK => ?_) ?_
    rotate_left
    · go_big_quiet_op
      exact hK
    refine hoist [] [] (a1 := ?_) 28 rfl (by kernel_rfl) (.inl ⟨rfl, rfl⟩) rfl rfl rfl (fun x K hK => ?_) ?_
    rotate_left
    · go_big_quiet_op
      exact hK
    refine hoist [] [] (a1 := ?_) 29 rfl (by kernel_rfl) (.inl ⟨rfl, rfl⟩) rfl rfl rfl (fun x K hK => ?_) ?_
    rotate_left
    · go_big_quiet_op
      exact hK
    refine hoist [] [] (a1 := ?_) 30 rfl (by kernel_rfl) (.inl ⟨rfl, rfl⟩) rfl rfl rfl (fun x K hK => ?_) ?_
    rotate_left
    · go_big_quiet_op
      exact hK
    refine done (by kernel_rfl) (fun xr => ?_)
    have A5 := Lib.hid (A4.out.bw xr.bw)
    clear m0 m1 m2 E1 E2 O1 V3 A4 B3
    generalize xr.now = w4 at *
    go_wp2_with fail
    go_roundg (len - (j + 1))
    case measure => omega
    case rel => exact ⟨j + 1, cc, sb, H3, rfl, by omega, by omega, by push_cast; rfl, A5⟩
end Go.Proofs.Ytcempndfbckcaaa
