/- The law ReorderRises. No condition. -/
import Derived.Test.YtcempndfbckcaaaReY
import Derived.Test.YtcempndfbckcaaaRx
namespace Go.Proofs.Ytcempndfbckcaaa
open Go.RowKit

set_option maxRecDepth 100000 in
set_option maxHeartbeats 8000000 in
theorem law_rises (mn wt : Int) (a : Option Addr) (len cap : Nat) (w : World) (wm : (Lit.int .u8 mn).wf = true) (ww : (Lit.int .u8 wt).wf = true) (wl : Rd w (.loop ropTy) [.slice a len cap]) :
    Calls Try.prog 9 #[.int .u8 mn, .int .u8 wt, .slice a len cap] w fun e w' => e = .returned (.bool true) ∧ Below w.heap.size w w' := by
  obtain ⟨m0, m1⟩ := bounds_u8 wm
  obtain ⟨t0, t1⟩ := bounds_u8 ww
  obtain ⟨hlc, hcm, hops⟩ := rop_at wl
  unfold maxLen at hcm
  clear wm ww wl
  have ha := Lib.hid (re_alive w)
  replace hops := Lib.hid hops
  go_enter Try.func9, Try.ntmps9
  go_wp2_with fail
  refine Calls.mono ha.out ?_
  rintro e w1 ⟨rfl, B1⟩
  have hmb : 0 ≤ mn % 64 ∧ mn % 64 ≤ 63 := by omega
  have cN := Lib.hid (bnewA (mn % 64 + 1) wt (by omega) (by omega) w w1 B1)
  have k0 := Lib.hid (bk_new (mn % 64 + 1) wt (by omega) 0 (by omega))
  clear ha B1
  dsimp only
  go_wp2_with fail
  refine Calls.mono cN.out ?_
  rintro e w2 ⟨g0, rfl, A⟩
  have A2 := Lib.hid A
  clear cN A
  dsimp only
  go_upto_region 8 with (fail)
  go_loopg [8, 9] len (fun m' h i wx => ∃ (j cv : Nat) (sa : Option Addr) (S : BS) (H : List Ent) (hi : Int), m' = len - j ∧ j ≤ len ∧ j ≤ 80 ∧ h = .int .i64 hi ∧ i = .int .i64 (j : Nat) ∧ -1 ≤ hi ∧ hi + 1 ≤ max S.next 0 ∧ Hid (BK S (mn % 64 + 1) (j : Nat)) ∧ Hid (BufA w wx g0 sa cv S H))
  case atStart => exact ⟨0, 0, none, newS (mn % 64 + 1) wt, [], -1, by omega, by omega, by omega, rfl, rfl, by omega, by show (-1 : Int) + 1 ≤ max (-1) 0; omega, k0, A2⟩
  case round =>
    clear A2 k0
    obtain ⟨j, cv, sa, S, H, hi, rfl, hj, hj8, rfl, rfl, hi0, hi1, K, A⟩ := hrel
    have B := Lib.hid A.out.b
    by_cases hjl : j < len
    case neg =>
      have d1 : decide ((j : Int) < (len : Int)) = false := by simp; omega
      go_wp2_with fail
      go_ret
      exact ⟨rfl, B.out⟩
    have d1 : decide ((j : Int) < (len : Int)) = true := by simp; omega
    by_cases hj1 : j < 80
    case neg =>
      have d2 : decide ((j : Int) < 80) = false := by simp; omega
      go_wp2_with fail
      go_ret
      exact ⟨rfl, B.out⟩
    have d2 : decide ((j : Int) < 80) = true := by simp; omega
    rcases hops.out with h | ⟨b, o, rfl, hbw, hii⟩
    · omega
    obtain ⟨kd, i, tk, sv, n, cp, l, e0, e1, e2, e3, hv, hn1, hn2, -, -, -, -, -, -⟩ := hii j hjl
    clear hops hii e0
    unfold maxLen at hn2
    have x1 := B.out.cell e1
    have x2 := B.out.cell e2
    have x3 := B.out.cell e3
    have hV := Lib.hid (hv.bw B.out)
    clear e1 e2 e3 hv
    by_cases h1 : 1152921504606846976 < i
    · have d3 : decide (1152921504606846976 < i) = true := by simpa using h1
      go_wp2_with fail
      go_ret
      exact ⟨rfl, B.out⟩
    have d3 : decide (1152921504606846976 < i) = false := by simpa using h1
    by_cases h2 : 1152921504606846976 < tk
    · have d4 : decide (1152921504606846976 < tk) = true := by simpa using h2
      go_wp2_with fail
      go_ret
      exact ⟨rfl, B.out⟩
    have d4 : decide (1152921504606846976 < tk) = false := by simpa using h2
    by_cases h3 : tk < -1152921504606846976
    · have d5 : decide (tk < -1152921504606846976) = true := by simpa using h3
      go_wp2_with fail
      go_ret
      exact ⟨rfl, B.out⟩
    have d5 : decide (tk < -1152921504606846976) = false := by simpa using h3
    by_cases hn : 300 < n
    · have d6 : decide ((300 : Int) < (n : Int)) = true := by simp; omega
      go_wp2_with fail
      go_ret
      exact ⟨rfl, B.out⟩
    have d6 : decide ((300 : Int) < (n : Int)) = false := by simp; omega
    obtain ⟨R, hR⟩ : ∃ R, putS i tk l S = R := ⟨_, rfl⟩
    obtain ⟨S1, L1, er⟩ := R
    have hPK := put_ok i tk l S (mn % 64 + 1) (j : Nat) K.out (by omega) (by omega) (by omega)
    rw [hR] at hPK
    obtain ⟨K1, -, hH⟩ := hPK
    obtain ⟨u1, u2⟩ := hH hi hi1
    dsimp only at K1 u1 u2
    obtain ⟨ln, hln⟩ : ∃ ln, L1.length = ln := ⟨_, rfl⟩
    replace hln := Lib.hid hln
    have hP := Lib.hid (fun (y : World) (Y : BW wr y) => putA g0 cv n cp sa sv S S1 H i tk l L1 ln er (mn % 64 + 1) (j : Nat) hR hln.out K.out (by omega) (by omega) (by omega) (by omega) hV.out.unpack.2.2.1 (by omega) w y (A.out.bw Y) (hV.out.bw Y))
    have K2 : Hid (BK S1 (mn % 64 + 1) ((j + 1 : Nat) : Int)) := Lib.hid (by push_cast; exact K1)
    have u1' := Lib.hid u1
    have u2' := Lib.hid u2
    have hrm := K1.rm
    clear hR hH u1 u2 K1 K
    go_upto_region 12 with (fail)
    have n1 : ∀ y : LaterS [] wr, _ := fun y => y.bw.cell x1
    have n2 : ∀ y : LaterS [] wr, _ := fun y => y.bw.cell x2
    have n3 : ∀ y : LaterS [] wr, _ := fun y => y.bw.cell x3
    clear x1 x2 x3
    refine wp_region_gg (g0 :: (Value.slice sa S.L.length cv).ownBlock.toList) [16] [] (by kernel_rfl) ?_
    refine hoist [] [16] (a1 := ?_) 0 rfl (by kernel_rfl) (.inl ⟨rfl, rfl⟩) rfl rfl rfl (fun x K hK => ?_) ?_
    rotate_left
    · go_big_quiet_op
      exact hK
    refine hoist [] [16] (a1 := ?_) 1 rfl (by kernel_rfl) (.inl ⟨rfl, rfl⟩) rfl rfl rfl (fun x K hK => ?_) ?_
    rotate_left
    · go_big_quiet_op
      exact hK
    refine hoist [] [16] (a1 := ?_) 2 rfl (by kernel_rfl) (.inl ⟨rfl, rfl⟩) rfl rfl rfl (fun x K hK => ?_) ?_
    rotate_left
    · go_big_quiet_op
      exact hK
    refine hoist [] [16] (a1 := ?_) 3 rfl (by kernel_rfl) (.inl ⟨rfl, rfl⟩) rfl rfl rfl (fun x K hK => ?_) ?_
    rotate_left
    · go_big_quiet_op
      exact hK
    refine hoist [] [16] (a1 := ?_) 4 rfl (by kernel_rfl) (.inl ⟨rfl, rfl⟩) rfl rfl rfl (fun x K hK => ?_) ?_
    rotate_left
    · go_big_quiet_op
      exact hK
    refine hoist [] [16] (a1 := ?_) 5 rfl (by kernel_rfl) (.inl ⟨rfl, rfl⟩) rfl rfl rfl (fun x K hK => ?_) ?_
    rotate_left
    · go_big_quiet_op
      exact hK
    refine hoist [] [16] (a1 := ?_) 6 rfl (by kernel_rfl) (.inl ⟨rfl, rfl⟩) rfl rfl rfl (fun x K hK => ?_) ?_
    rotate_left
    · go_big_quiet_op
      exact hK
    refine hoist [] [16] (a1 := ?_) 7 rfl (by kernel_rfl) (.inl ⟨rfl, rfl⟩) rfl rfl rfl (fun x K hK => ?_) ?_
    rotate_left
    · go_big_quiet_op
      exact hK
    refine hoist [] [16] (a1 := ?_) 8 rfl (by kernel_rfl) (.inl ⟨rfl, rfl⟩) rfl rfl rfl (fun x K hK => ?_) ?_
    rotate_left
    · go_big_quiet_op
      exact hK
    refine hoist [] [16] (a1 := ?_) 9 rfl (by kernel_rfl) (.inl ⟨rfl, rfl⟩) rfl rfl rfl (fun x K hK => ?_) ?_
    rotate_left
    · go_big_quiet_op
      exact hK
    refine hoist [] [16] (a1 := ?_) 10 rfl (by kernel_rfl) (.inl ⟨rfl, rfl⟩) rfl rfl rfl (fun x K hK => ?_) ?_
    rotate_left
    · go_big_quiet_op
      exact hK
    refine hoist [] [16] (a1 := ?_) 11 rfl (by kernel_rfl) (.inl ⟨rfl, rfl⟩) rfl rfl rfl (fun x K hK => ?_) ?_
    rotate_left
    · go_big_quiet_op
      exact hK
    refine hoist [] [16] (a1 := ?_) 12 rfl (by kernel_rfl) (.inl ⟨rfl, rfl⟩) rfl rfl rfl (fun x K hK => ?_) ?_
    rotate_left
    · go_big_quiet_op
      exact hK
    refine hoist [] [16] (a1 := ?_) 13 rfl (by kernel_rfl) (.inl ⟨rfl, rfl⟩) rfl rfl rfl (fun x K hK => ?_) ?_
    rotate_left
    · go_big_quiet_op
      exact hK
    refine hoist [] [16] (a1 := ?_) 14 rfl (by kernel_rfl) (.inl ⟨rfl, rfl⟩) rfl rfl rfl (fun x K hK => ?_) ?_
    rotate_left
    · go_big_quiet_op
      exact hK
    refine hoist [] [16] (a1 := ?_) 15 rfl (by kernel_rfl) (.inl ⟨rfl, rfl⟩) rfl rfl rfl (fun x K hK => ?_) ?_
    rotate_left
    · go_big_quiet_op
      exact hK
    refine effect 16 rfl (by kernel_rfl) (by kernel_rfl) rfl (fun x16 K hK => ?_)
    go_simp
    refine Calls.mono (hP.out x16.now x16.bw) ?_
    rintro e w6 ⟨H3, sb, cc, so, co, rfl, Q, A3, T3, -⟩
    refine hK _ _ T3 ?_
    clear hK K n1 n2 n3 T3 hP
    replace Q := Lib.hid Q
    replace A3 := Lib.hid A3
    try simp only [Act.put, List.setIfInBounds_toArray, List.set_cons_succ, List.set_cons_zero]
    refine hoist [] [16] (a1 := ?_) 17 rfl (by kernel_rfl) (.inl ⟨rfl, rfl⟩) rfl rfl rfl (fun x K hK => ?_) ?_
    rotate_left
    · go_big_quiet_op
      exact hK
    refine hoist [] [16] (a1 := ?_) 18 rfl (by kernel_rfl) (.inl ⟨rfl, rfl⟩) rfl rfl rfl (fun x K hK => ?_) ?_
    rotate_left
    · go_big_quiet_op
      exact hK
    refine hoist [] [16] (a1 := ?_) 19 rfl (by kernel_rfl) (.inl ⟨rfl, rfl⟩) rfl rfl rfl (fun x K hK => ?_) ?_
    rotate_left
    · go_big_quiet_op
      exact hK
    refine hoist [] [16] (a1 := ?_) 20 rfl (by kernel_rfl) (.inl ⟨rfl, rfl⟩) rfl rfl rfl (fun x K hK => ?_) ?_
    rotate_left
    · go_big_quiet_op
      exact hK
    refine hoist [] [16] (a1 := ?_) 21 rfl (by kernel_rfl) (.inl ⟨rfl, rfl⟩) rfl rfl rfl (fun x K hK => ?_) ?_
    rotate_left
    · go_big_quiet_op
      exact hK
    refine done (by kernel_rfl) (fun xr => ?_)
    have A5 := Lib.hid (A3.out.bw xr.bw)
    have Q5 := Lib.hid (Q.out.bw xr.bw)
    clear Q A3 A hV B
    generalize xr.now = w4 at *
    obtain ⟨_, _, he, hc1, hc2⟩ := Q5.out.len
    cases he
    unfold maxLen at hc2
    go_upto_region 14 with (fail)
    go_loopg [8, 12] ln (fun m' h k wx => ∃ (q : Nat) (hi2 : Int), m' = ln - q ∧ q ≤ ln ∧ h = .int .i64 hi2 ∧ k = .int .i64 (q : Nat) ∧ -1 ≤ hi2 ∧ Hid (risesFrom (hi2 + 1) (L1.drop q)) ∧ Hid (endHi hi2 (L1.drop q) + 1 ≤ max S1.next 0) ∧ Hid (BW w4 wx))
    case atStart => exact ⟨0, hi, by omega, by omega, rfl, rfl, hi0, u1', u2', BW.refl _⟩
    case round =>
      clear u1' u2' hi0 hi1
      obtain ⟨q, hi2, rfl, hq, rfl, rfl, h20, v1, v2, BQ⟩ := hrel
      by_cases hql : q < ln
      · have e1 : decide ((q : Int) < (ln : Int)) = true := by simp; omega
        obtain ⟨gk, ok, rfl, -, -, hkc⟩ := kp_form (Q5.out.bw BQ.out) (by omega)
        have hqL : q < L1.length := by rw [hln.out]; exact hql
        obtain ⟨_, _, z0, -⟩ := hkc q hqL
        have v1' := v1.out
        have v2' := v2.out
        rw [List.drop_eq_getElem_cons hqL] at v1' v2'
        obtain ⟨v3, v4⟩ := v1'
        have v5 : endHi (L1[q]).1 (L1.drop (q + 1)) + 1 ≤ max S1.next 0 := v2'
        clear hkc v1 v2 v2'
        generalize (L1[q]).1 = x at *
        have e2 : decide (x ≤ hi2) = false := by simp; omega
        replace v4 := Lib.hid v4
        replace v5 := Lib.hid v5
        go_wp2_with fail
        go_roundg (ln - (q + 1))
        case measure => omega
        case rel => exact ⟨q + 1, x, rfl, by omega, rfl, by push_cast; rfl, by omega, v4, v5, BQ⟩
      · obtain rfl : q = ln := by omega
        have e1 : decide ((q : Int) < (q : Int)) = false := by simp
        have v2' := v2.out
        rw [List.drop_of_length_le (by rw [hln.out]; exact Nat.le_refl _)] at v2'
        have v3 : hi2 + 1 ≤ max S1.next 0 := v2'
        have A6 := Lib.hid (A5.out.bw BQ.out)
        have cW := Lib.hid (waits_any w.heap.size g0 cc sb S1 H3 wr A6.out.i)
        have e2 : decide (mn % 64 + 1 < (S1.L.length : Nat)) = false := by simp; omega
        have hsl : S1.L.length ≤ 64 := by omega
        generalize S1.L.length = sl at *
        clear v1 v2 v2' hrm
        replace v3 := Lib.hid v3
        go_wp2_with (first | (go_at_call 37; refine cW.out.mono ?_; rintro e w8 ⟨rfl, rfl⟩; clear cW))
        go_roundg (len - (j + 1))
        case measure => omega
        case rel => exact ⟨j + 1, cc, sb, S1, H3, hi2, rfl, by omega, by omega, rfl, by push_cast; rfl, h20, v3.out, K2, A6⟩
end Go.Proofs.Ytcempndfbckcaaa
