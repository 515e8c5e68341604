/- The laws RtcpNames and RtcpLosses. No condition. -/
import Derived.Test.YtcempndfbckcaaaRcL
import Derived.Test.YtcempndfbckcaaaRcJ
import Derived.Test.YtcempndfbckcaaaRcM
import Derived.Test.YtcempndfbckcaaaRcN
import Derived.Test.YtcempndfbckcaaaRd
namespace Go.Proofs.Ytcempndfbckcaaa
open Go.RowKit

set_option maxRecDepth 100000 in
set_option maxHeartbeats 8000000 in
theorem law_rtnames (s : ByteArray) (w : World) (hs : s.size ≤ maxLen) :
    Calls Try.prog 3 #[.string s] w fun e w' => e = .returned (.bool true) ∧ Below w.heap.size w w' := by
  have ha := Lib.hid (rtcp_alive w)
  clear hs
  go_enter Try.func3, Try.ntmps3
  go_wp2_with fail
  refine Calls.mono ha.out ?_
  rintro e w1 ⟨rfl, B1⟩
  replace B1 := Lib.hid B1
  clear ha
  dsimp only
  by_cases h3 : 300 < s.size
  · have d1 : decide (300 < (s.size : Int)) = true := by simp; omega
    go_wp2_with fail
    go_ret
    exact ⟨rfl, B1.out.bel⟩
  have d1 : decide (300 < (s.size : Int)) = false := by simp; omega
  have c1 := Lib.hid (isname_ok s (by omega) w1)
  go_wp2_with fail
  refine Calls.mono c1.out ?_
  rintro e w2 ⟨rfl, hb⟩
  have B2 := Lib.hid (B1.out.trans hb)
  have c2 := Lib.hid (rname_ok s (by omega) w2)
  clear c1 hb B1
  dsimp only
  generalize nameB s = r at *
  go_wp2_with fail
  refine Calls.mono c2.out ?_
  rintro e w3 ⟨rfl, rfl⟩
  dsimp only
  go_wp2_with fail
  go_ret
  exact ⟨by simp, B2.out.bel⟩

theorem lossR {w : World} {base : Nat} {cs : List Value} (h : Rd w (.scope (.seq (.label 5) (.seq (.label 5) .skip))) cs) : ∃ p : Nat × Nat, (p.1 < 65536 ∧ p.2 < 65536) ∧ EO.R w base p cs := by
  obtain ⟨c1, r1, rfl, ⟨n1, rfl, hw1⟩, c2, r2, rfl, ⟨n2, rfl, hw2⟩, h3⟩ := h
  have h3' : r2 = [] := h3
  subst h3'
  have b1 := bounds_u16 hw1
  have b2 := bounds_u16 hw2
  refine ⟨(n1.toNat, n2.toNat), ⟨by dsimp only; omega, by dsimp only; omega⟩, ?_⟩
  show _ = lossV _
  simp only [lossV]
  rw [Int.toNat_of_nonneg b1.1, Int.toNat_of_nonneg b2.1]
  rfl
theorem u16R {w : World} {base : Nat} {cs : List Value} (h : Rd w (.label 5) cs) : ∃ p : Nat, p < 65536 ∧ U1N.R w base p cs := by
  obtain ⟨n1, rfl, hw1⟩ := h
  have b1 := bounds_u16 hw1
  refine ⟨n1.toNat, by omega, ?_⟩
  show _ = u16V _
  simp only [u16V]
  rw [Int.toNat_of_nonneg b1.1]
  rfl
def riseB (N : List Nat) (i : Nat) : Bool := (List.range (i - 1)).all fun j => decide (N.getD j 0 < N.getD (j + 1) 0)
theorem riseB_suc (N : List Nat) (i : Nat) (h : 1 ≤ i) : riseB N (i + 1) = (riseB N i && decide (N.getD (i - 1) 0 < N.getD i 0)) := by
  obtain ⟨j, rfl⟩ : ∃ j, i = j + 1 := ⟨i - 1, by omega⟩
  simp [riseB, List.range_succ, List.all_append]
theorem riseB_all (N : List Nat) (h : riseB N N.length = true) : ∀ i (h : i + 1 < N.length), N[i] < N[i + 1] := by
  intro i hi
  have := List.all_eq_true.1 h i (List.mem_range.2 (by omega))
  simp only [decide_eq_true_eq] at this
  rw [List.getD_eq_getElem?_getD, List.getD_eq_getElem?_getD, List.getElem?_eq_getElem (by omega), List.getElem?_eq_getElem hi] at this
  exact this
set_option maxRecDepth 100000 in
set_option maxHeartbeats 8000000 in
theorem law_rtlosses (sl : Option Addr) (nl cl : Nat) (sn : Option Addr) (nn cn : Nat) (w : World) (hl : Rd w (.loop (.scope (.seq (.label 5) (.seq (.label 5) .skip)))) [.slice sl nl cl]) (hn : Rd w (.loop (.label 5)) [.slice sn nn cn]) :
    Calls Try.prog 4 #[.slice sl nl cl, .slice sn nn cn] w fun e w' => e = .returned (.bool true) ∧ Below w.heap.size w w' := by
  obtain ⟨L, HL, bL⟩ := SQ_of_Rd (E := EO) (fun p => p.1 < 65536 ∧ p.2 < 65536) _ 0 hl rfl (fun cs h => lossR h)
  obtain ⟨N, HN, bN⟩ := SQ_of_Rd (E := U1N) (fun p => p < 65536) _ 0 hn rfl (fun cs h => u16R h)
  clear hl hn
  obtain ⟨_, _, he, hc1, hc2⟩ := HL.len
  cases he
  obtain ⟨_, _, he, hc3, hc4⟩ := HN.len
  cases he
  unfold maxLen at hc2 hc4
  have ha := Lib.hid (rtcp_alive w)
  replace HL := Lib.hid HL
  replace HN := Lib.hid HN
  replace bL := Lib.hid bL
  replace bN := Lib.hid bN
  go_enter Try.func4, Try.ntmps4
  go_wp2_with fail
  refine Calls.mono ha.out ?_
  rintro e w1 ⟨rfl, B1⟩
  replace B1 := Lib.hid B1
  clear ha
  dsimp only
  by_cases h60 : 60 < nl
  · have d1 : decide (60 < (nl : Int)) = true := by simp; omega
    go_wp2_with fail
    go_ret
    exact ⟨rfl, B1.out.bel⟩
  have d1 : decide (60 < (nl : Int)) = false := by simp; omega
  by_cases h200 : 200 < nn
  · have d2 : decide (200 < (nn : Int)) = true := by simp; omega
    go_wp2_with fail
    go_ret
    exact ⟨rfl, B1.out.bel⟩
  have d2 : decide (200 < (nn : Int)) = false := by simp; omega
  have HL1 := Lib.hid (HL.out.bw B1.out)
  have c1 := Lib.hid (nacked_ok 0 nl _ L (by omega) bL.out w1 HL1.out)
  go_upto_region 5 with (fail)
  go_wp2_with fail
  refine Calls.mono c1.out ?_
  rintro e w2 ⟨sa, ma, ca, rfl, Qa, hb⟩
  replace Qa := Lib.hid Qa.sq
  have B2 := Lib.hid (B1.out.trans hb)
  have c2 := Lib.hid (rnacked_ok 0 nl _ L (by omega) bL.out w2 (HL1.out.bw hb))
  clear c1 hb HL1 B1
  dsimp only
  go_wp2_with fail
  refine Calls.mono c2.out ?_
  rintro e w3 ⟨sb, mb, cb, rfl, Qb, hb⟩
  obtain rfl : ma = mb := by rw [← Qa.out.1, ← Qb.1]
  replace Qb := Lib.hid Qb.sq
  replace Qa := Lib.hid (Qa.out.bw hb)
  have B3 := Lib.hid (B2.out.trans hb)
  have HN3 := Lib.hid (HN.out.bw B3.out)
  have c3 := Lib.hid (losses_ok 0 nn _ N (by omega) bN.out w3 HN3.out)
  clear c2 hb B2 HL bL
  dsimp only
  generalize nackN L = A at *
  go_wp2_with fail
  refine Calls.mono c3.out ?_
  rintro e w4 ⟨sc, mc, cc, rfl, Qc, hb⟩
  replace Qc := Lib.hid Qc.sq
  replace Qa := Lib.hid (Qa.out.bw hb)
  replace Qb := Lib.hid (Qb.out.bw hb)
  have B4 := Lib.hid (B3.out.trans hb)
  have c4 := Lib.hid (rlosses_ok 0 nn _ N (by omega) bN.out w4 (HN3.out.bw hb))
  clear c3 hb B3 HN3
  dsimp only
  go_wp2_with fail
  refine Calls.mono c4.out ?_
  rintro e w5 ⟨sd, md, cd, rfl, Qd, hb⟩
  obtain rfl : mc = md := by rw [← Qc.out.1, ← Qd.1]
  replace Qd := Lib.hid Qd.sq
  replace Qa := Lib.hid (Qa.out.bw hb)
  replace Qb := Lib.hid (Qb.out.bw hb)
  replace Qc := Lib.hid (Qc.out.bw hb)
  have B5 := Lib.hid (B4.out.trans hb)
  clear c4 hb B4
  dsimp only
  go_upto_region 10 with (fail)
  obtain ⟨_, _, he, b1, b2⟩ := Qa.out.len
  cases he
  obtain ⟨_, _, he, b3, b4⟩ := Qc.out.len
  cases he
  unfold maxLen at b2 b4
  have HN5 := Lib.hid (HN.out.bw B5.out)
  clear HN
  go_loopg [9] ma (fun m' i wx => ∃ k : Nat, m' = ma - k ∧ k ≤ ma ∧ i = .int .i64 (k : Nat) ∧ Hid (BW w5 wx))
  case atStart => exact ⟨0, rfl, by omega, rfl, BW.refl _⟩
  case round =>
    obtain ⟨k, rfl, hk, rfl, B⟩ := hrel
    by_cases hkn : k < ma
    · have d : decide ((k : Int) < (ma : Int)) = true := by simp; omega
      obtain ⟨g1, o1, rfl, hc⟩ := sqU_form (Qa.out.bw B.out) (by omega)
      obtain ⟨g2, o2, rfl, hc'⟩ := sqU_form (Qb.out.bw B.out) (by omega)
      have hkl : k < A.length := by rw [Qa.out.1]; exact hkn
      have z0 := hc k hkl
      have z2 := hc' k hkl
      clear hc hc'
      generalize A[k] = e at *
      have l0 : ∀ y : LaterS [] wr, y.now.cell? _ = _ := fun y => y.bw.cell z0
      have l2 : ∀ y : LaterS [] wr, y.now.cell? _ = _ := fun y => y.bw.cell z2
      clear z0 z2
      go_upto_region 12 with (fail)
      refine wp_region_gg [] [] [] (by kernel_rfl) ?_
      refine hoist [] [] (a1 := ?_) 0 rfl (by kernel_rfl) (.inl ⟨rfl, rfl⟩) rfl rfl rfl (fun x K hK => ?_) ?_
      rotate_left
      · go_big_quiet_op
        exact hK
      refine hoist [] [] (a1 := ?_) 1 rfl (by kernel_rfl) (.inl ⟨rfl, rfl⟩) rfl rfl rfl (fun x K hK => ?_) ?_
      rotate_left
      · go_big_quiet_op
        exact hK
      refine hoist [] [] (a1 := ?_) 2 rfl (by kernel_rfl) (.inl ⟨rfl, rfl⟩) rfl rfl rfl (fun x K hK => ?_) ?_
      rotate_left
      · go_big_quiet_op
        exact hK
      refine hoist [] [] (a1 := ?_) 3 rfl (by kernel_rfl) (.inl ⟨rfl, rfl⟩) rfl rfl rfl (fun x K hK => ?_) ?_
      rotate_left
      · go_big_quiet_op
        exact hK
      refine hoist [] [] (a1 := ?_) 4 rfl (by kernel_rfl) (.inl ⟨rfl, rfl⟩) rfl rfl rfl (fun x K hK => ?_) ?_
      rotate_left
      · go_big_quiet_op
        exact hK
      refine hoist [] [] (a1 := ?_) 5 rfl (by kernel_rfl) (.inl ⟨rfl, rfl⟩) rfl rfl rfl (fun x K hK => ?_) ?_
      rotate_left
      · go_big_quiet_op
        exact hK
      refine hoist [] [] (a1 := ?_) 6 rfl (by kernel_rfl) (.inl ⟨rfl, rfl⟩) rfl rfl rfl (fun x K hK => ?_) ?_
      rotate_left
      · go_big_quiet_op
        exact hK
      refine hoist [] [] (a1 := ?_) 7 rfl (by kernel_rfl) (.inl ⟨rfl, rfl⟩) rfl rfl rfl (fun x K hK => ?_) ?_
      rotate_left
      · go_big_quiet_op
        exact hK
      refine hoist [] [] (a1 := ?_) 8 rfl (by kernel_rfl) (.inl ⟨rfl, rfl⟩) rfl rfl rfl (fun x K hK => ?_) ?_
      rotate_left
      · go_big_quiet_op
        exact hK
      refine done (by kernel_rfl) (fun xr => ?_)
      have B2 := Lib.hid (B.out.trans xr.bw)
      clear B l0 l2
      generalize xr.now = w6 at *
      go_wp2_with fail
      go_roundg (ma - (k + 1))
      case measure => omega
      case rel => exact ⟨k + 1, rfl, by omega, by first | rfl | (congr 1; omega), B2⟩
    · obtain rfl : ma = k := by omega
      have d : decide ((ma : Int) < (ma : Int)) = false := by simp
      clear Qa Qb
      go_upto_region 16 with (fail)
      clear hkn d hk
      go_loopg [11] mc (fun m' i wx => ∃ k : Nat, m' = mc - k ∧ k ≤ mc ∧ i = .int .i64 (k : Nat) ∧ Hid (BW w5 wx))
      case atStart => exact ⟨0, rfl, by omega, rfl, B⟩
      case round =>
        obtain ⟨k, rfl, hk, rfl, B⟩ := hrel
        by_cases hkn : k < mc
        · have d : decide ((k : Int) < (mc : Int)) = true := by simp; omega
          obtain ⟨g1, o1, rfl, hc⟩ := sqO_form (Qc.out.bw B.out) (by omega)
          obtain ⟨g2, o2, rfl, hc'⟩ := sqO_form (Qd.out.bw B.out) (by omega)
          have hkl : k < (lossN N).length := by rw [Qc.out.1]; exact hkn
          obtain ⟨z0, z1⟩ := hc k hkl
          obtain ⟨z2, z3⟩ := hc' k hkl
          clear hc hc'
          generalize ((lossN N)[k]).1 = e at *
          generalize ((lossN N)[k]).2 = e2 at *
          have l0 : ∀ y : LaterS [] wr, y.now.cell? _ = _ := fun y => y.bw.cell z0
          have l1 : ∀ y : LaterS [] wr, y.now.cell? _ = _ := fun y => y.bw.cell z1
          have l2 : ∀ y : LaterS [] wr, y.now.cell? _ = _ := fun y => y.bw.cell z2
          have l3 : ∀ y : LaterS [] wr, y.now.cell? _ = _ := fun y => y.bw.cell z3
          clear z0 z1 z2 z3
          go_upto_region 18 with (fail)
          refine wp_region_gg [] [] [] (by kernel_rfl) ?_
          refine hoist [] [] (a1 := ?_) 0 rfl (by kernel_rfl) (.inl ⟨rfl, rfl⟩) rfl rfl rfl (fun x K hK => ?_) ?_
          rotate_left
          · go_big_quiet_op
            exact hK
          refine hoist [] [] (a1 := ?_) 1 rfl (by kernel_rfl) (.inl ⟨rfl, rfl⟩) rfl rfl rfl (fun x K hK => ?_) ?_
          rotate_left
          · go_big_quiet_op
            exact hK
          refine hoist [] [] (a1 := ?_) 2 rfl (by kernel_rfl) (.inl ⟨rfl, rfl⟩) rfl rfl rfl (fun x K hK => ?_) ?_
          rotate_left
          · go_big_quiet_op
            exact hK
          refine hoist [] [] (a1 := ?_) 3 rfl (by kernel_rfl) (.inl ⟨rfl, rfl⟩) rfl rfl rfl (fun x K hK => ?_) ?_
          rotate_left
          · go_big_quiet_op
            exact hK
          refine hoist [] [] (a1 := ?_) 4 rfl (by kernel_rfl) (.inl ⟨rfl, rfl⟩) rfl rfl rfl (fun x K hK => ?_) ?_
          rotate_left
          · go_big_quiet_op
            exact hK
          refine hoist [] [] (a1 := ?_) 5 rfl (by kernel_rfl) (.inl ⟨rfl, rfl⟩) rfl rfl rfl (fun x K hK => ?_) ?_
          rotate_left
          · go_big_quiet_op
            exact hK
          refine hoist [] [] (a1 := ?_) 6 rfl (by kernel_rfl) (.inl ⟨rfl, rfl⟩) rfl rfl rfl (fun x K hK => ?_) ?_
          rotate_left
          · go_big_quiet_op
            exact hK
          refine hoist [] [] (a1 := ?_) 7 rfl (by kernel_rfl) (.inl ⟨rfl, rfl⟩) rfl rfl rfl (fun x K hK => ?_) ?_
          rotate_left
          · go_big_quiet_op
            exact hK
          refine hoist [] [] (a1 := ?_) 8 rfl (by kernel_rfl) (.inl ⟨rfl, rfl⟩) rfl rfl rfl (fun x K hK => ?_) ?_
          rotate_left
          · go_big_quiet_op
            exact hK
          refine done (by kernel_rfl) (fun xr => ?_)
          have B2 := Lib.hid (B.out.trans xr.bw)
          clear B l0 l1 l2 l3
          generalize xr.now = w6 at *
          go_wp2_with fail
          go_roundg (mc - (k + 1))
          case measure => omega
          case rel => exact ⟨k + 1, rfl, by omega, by first | rfl | (congr 1; omega), B2⟩
        · obtain rfl : mc = k := by omega
          have d : decide ((mc : Int) < (mc : Int)) = false := by simp
          clear Qd
          go_upto_region 21 with (fail)
          clear hkn d hk
          go_loopg [10, 12] nn (fun m' r i wx => ∃ k : Nat, m' = nn + 1 - k ∧ 1 ≤ k ∧ k ≤ nn + 1 ∧ i = .int .i64 (k : Nat) ∧ (k = 1 ∨ k ≤ nn) ∧ r = .bool (riseB N k) ∧ Hid (BW w5 wx))
          case atStart => exact ⟨1, by omega, by omega, by omega, rfl, by omega, rfl, B⟩
          case round =>
            clear B
            obtain ⟨k, rfl, hk1, hk, rfl, hkk, rfl, B⟩ := hrel
            by_cases hkn : k < nn
            · have d : decide ((k : Int) < (nn : Int)) = true := by simp; omega
              have HN6 := HN5.out.bw B.out
              obtain ⟨g1, o1, rfl, hc⟩ := sqU_form HN6 (by omega)
              have hkl : k < N.length := by rw [HN6.1]; exact hkn
              have hkl2 : k - 1 < N.length := by omega
              have z0 := hc k hkl
              have z1 := hc (k - 1) hkl2
              have hs := riseB_suc N k hk1
              have e0 : N.getD k 0 = N[k] := by rw [List.getD_eq_getElem?_getD, List.getElem?_eq_getElem hkl]; rfl
              have e1 : N.getD (k - 1) 0 = N[k - 1] := by rw [List.getD_eq_getElem?_getD, List.getElem?_eq_getElem hkl2]; rfl
              rw [e0, e1] at hs
              clear hc e0 e1 HN6
              generalize N[k] = e at *
              generalize N[k - 1] = e' at *
              have l0 : ∀ y : LaterS [] wr, y.now.cell? _ = _ := fun y => y.bw.cell z0
              have l1 : ∀ y : LaterS [] wr, y.now.cell? _ = _ := fun y => y.bw.cell z1
              clear z0 z1
              cases hr : riseB N k with
              | false =>
                rw [hr, Bool.false_and] at hs
                replace hs := Lib.hid hs
                go_upto_region 23 with (fail)
                refine wp_region_gg [] [] [] (by kernel_rfl) ?_
                refine hoist [] [] (a1 := ?_) 0 rfl (by kernel_rfl) (.inl ⟨rfl, rfl⟩) rfl rfl rfl (fun x K hK => ?_) ?_
                rotate_left
                · go_big_quiet_op
                  exact hK
                refine hoist [] [] (a1 := ?_) 1 rfl (by kernel_rfl) (.inl ⟨rfl, rfl⟩) rfl rfl rfl (fun x K hK => ?_) ?_
                rotate_left
                · go_big_quiet_op
                  exact hK
                refine hoist_skip [] [] 2 rfl (by kernel_rfl) (.inl ⟨rfl, rfl⟩) rfl (a1 := ?_) ?_ ?_
                rotate_left
                · simp only [Act.put, List.setIfInBounds_toArray, List.set_cons_succ, List.set_cons_zero]; rfl
                refine hoist_skip [] [] 3 rfl (by kernel_rfl) (.inl ⟨rfl, rfl⟩) rfl (a1 := ?_) ?_ ?_
                rotate_left
                · simp only [Act.put, List.setIfInBounds_toArray, List.set_cons_succ, List.set_cons_zero]; rfl
                refine hoist_skip [] [] 4 rfl (by kernel_rfl) (.inl ⟨rfl, rfl⟩) rfl (a1 := ?_) ?_ ?_
                rotate_left
                · simp only [Act.put, List.setIfInBounds_toArray, List.set_cons_succ, List.set_cons_zero]; rfl
                refine hoist_skip [] [] 5 rfl (by kernel_rfl) (.inl ⟨rfl, rfl⟩) rfl (a1 := ?_) ?_ ?_
                rotate_left
                · simp only [Act.put, List.setIfInBounds_toArray, List.set_cons_succ, List.set_cons_zero]; rfl
                refine hoist_skip [] [] 6 rfl (by kernel_rfl) (.inl ⟨rfl, rfl⟩) rfl (a1 := ?_) ?_ ?_
                rotate_left
                · simp only [Act.put, List.setIfInBounds_toArray, List.set_cons_succ, List.set_cons_zero]; rfl
                refine hoist_skip [] [] 7 rfl (by kernel_rfl) (.inl ⟨rfl, rfl⟩) rfl (a1 := ?_) ?_ ?_
                rotate_left
                · simp only [Act.put, List.setIfInBounds_toArray, List.set_cons_succ, List.set_cons_zero]; rfl
                refine hoist_skip [] [] 8 rfl (by kernel_rfl) (.inl ⟨rfl, rfl⟩) rfl (a1 := ?_) ?_ ?_
                rotate_left
                · simp only [Act.put, List.setIfInBounds_toArray, List.set_cons_succ, List.set_cons_zero]; rfl
                refine hoist_skip [] [] 9 rfl (by kernel_rfl) (.inl ⟨rfl, rfl⟩) rfl (a1 := ?_) ?_ ?_
                rotate_left
                · simp only [Act.put, List.setIfInBounds_toArray, List.set_cons_succ, List.set_cons_zero]; rfl
                refine hoist_skip [] [] 10 rfl (by kernel_rfl) (.inl ⟨rfl, rfl⟩) rfl (a1 := ?_) ?_ ?_
                rotate_left
                · simp only [Act.put, List.setIfInBounds_toArray, List.set_cons_succ, List.set_cons_zero]; rfl
                refine hoist_skip [] [] 11 rfl (by kernel_rfl) (.inl ⟨rfl, rfl⟩) rfl (a1 := ?_) ?_ ?_
                rotate_left
                · simp only [Act.put, List.setIfInBounds_toArray, List.set_cons_succ, List.set_cons_zero]; rfl
                refine hoist [] [] (a1 := ?_) 12 rfl (by kernel_rfl) (.inl ⟨rfl, rfl⟩) rfl rfl rfl (fun x K hK => ?_) ?_
                rotate_left
                · go_big_quiet_op
                  exact hK
                refine hoist [] [] (a1 := ?_) 13 rfl (by kernel_rfl) (.inl ⟨rfl, rfl⟩) rfl rfl rfl (fun x K hK => ?_) ?_
                rotate_left
                · go_big_quiet_op
                  exact hK
                refine done (by kernel_rfl) (fun xr => ?_)
                have B2 := Lib.hid (B.out.trans xr.bw)
                clear B l0 l1
                generalize xr.now = w6 at *
                go_wp2_with fail
                go_roundg (nn + 1 - (k + 1))
                case measure => omega
                case rel => exact ⟨k + 1, rfl, by omega, by omega, by first | rfl | (congr 1; omega), by omega, by rw [hs.out], B2⟩
              | true =>
                rw [hr, Bool.true_and] at hs
                replace hs := Lib.hid hs
                go_upto_region 23 with (fail)
                refine wp_region_gg [] [] [] (by kernel_rfl) ?_
                refine hoist [] [] (a1 := ?_) 0 rfl (by kernel_rfl) (.inl ⟨rfl, rfl⟩) rfl rfl rfl (fun x K hK => ?_) ?_
                rotate_left
                · go_big_quiet_op
                  exact hK
                refine hoist [] [] (a1 := ?_) 1 rfl (by kernel_rfl) (.inl ⟨rfl, rfl⟩) rfl rfl rfl (fun x K hK => ?_) ?_
                rotate_left
                · go_big_quiet_op
                  exact hK
                refine hoist [] [] (a1 := ?_) 2 rfl (by kernel_rfl) (.inl ⟨rfl, rfl⟩) rfl rfl rfl (fun x K hK => ?_) ?_
                rotate_left
                · go_big_quiet_op
                  exact hK
                refine hoist [] [] (a1 := ?_) 3 rfl (by kernel_rfl) (.inl ⟨rfl, rfl⟩) rfl rfl rfl (fun x K hK => ?_) ?_
                rotate_left
                · go_big_quiet_op
                  exact hK
                refine hoist [] [] (a1 := ?_) 4 rfl (by kernel_rfl) (.inl ⟨rfl, rfl⟩) rfl rfl rfl (fun x K hK => ?_) ?_
                rotate_left
                · go_big_quiet_op
                  exact hK
                refine hoist [] [] (a1 := ?_) 5 rfl (by kernel_rfl) (.inl ⟨rfl, rfl⟩) rfl rfl rfl (fun x K hK => ?_) ?_
                rotate_left
                · go_big_quiet_op
                  exact hK
                refine hoist [] [] (a1 := ?_) 6 rfl (by kernel_rfl) (.inl ⟨rfl, rfl⟩) rfl rfl rfl (fun x K hK => ?_) ?_
                rotate_left
                · go_big_quiet_op
                  exact hK
                refine hoist [] [] (a1 := ?_) 7 rfl (by kernel_rfl) (.inl ⟨rfl, rfl⟩) rfl rfl rfl (fun x K hK => ?_) ?_
                rotate_left
                · go_big_quiet_op
                  exact hK
                refine hoist [] [] (a1 := ?_) 8 rfl (by kernel_rfl) (.inl ⟨rfl, rfl⟩) rfl rfl rfl (fun x K hK => ?_) ?_
                rotate_left
                · go_big_quiet_op
                  exact hK
                refine hoist [] [] (a1 := ?_) 9 rfl (by kernel_rfl) (.inl ⟨rfl, rfl⟩) rfl rfl rfl (fun x K hK => ?_) ?_
                rotate_left
                · go_big_quiet_op
                  exact hK
                refine hoist [] [] (a1 := ?_) 10 rfl (by kernel_rfl) (.inl ⟨rfl, rfl⟩) rfl rfl rfl (fun x K hK => ?_) ?_
                rotate_left
                · go_big_quiet_op
                  exact hK
                refine hoist [] [] (a1 := ?_) 11 rfl (by kernel_rfl) (.inl ⟨rfl, rfl⟩) rfl rfl rfl (fun x K hK => ?_) ?_
                rotate_left
                · go_big_quiet_op
                  exact hK
                refine hoist [] [] (a1 := ?_) 12 rfl (by kernel_rfl) (.inl ⟨rfl, rfl⟩) rfl rfl rfl (fun x K hK => ?_) ?_
                rotate_left
                · go_big_quiet_op
                  exact hK
                refine hoist [] [] (a1 := ?_) 13 rfl (by kernel_rfl) (.inl ⟨rfl, rfl⟩) rfl rfl rfl (fun x K hK => ?_) ?_
                rotate_left
                · go_big_quiet_op
                  exact hK
                refine done (by kernel_rfl) (fun xr => ?_)
                have B2 := Lib.hid (B.out.trans xr.bw)
                clear B l0 l1
                generalize xr.now = w6 at *
                go_wp2_with fail
                go_roundg (nn + 1 - (k + 1))
                case measure => omega
                case rel => exact ⟨k + 1, rfl, by omega, by omega, by first | rfl | (congr 1; omega), by omega, by rw [hs.out], B2⟩
            · have hfin : riseB N k = riseB N nn := by
                by_cases h1 : nn ≤ 1
                · obtain rfl : k = 1 := by omega
                  unfold riseB
                  rw [show nn - 1 = 0 by omega]
                · obtain rfl : k = nn := by omega
                  rfl
              rw [hfin]
              have d : decide ((k : Int) < (nn : Int)) = false := by simp; omega
              clear hfin
              have hlN := lossN_length N
              rw [HN5.out.1] at hlN
              have hmc : mc ≤ 1000 := by rw [← Qc.out.1]; omega
              have ce := Lib.hid (nacked_ok _ mc _ (lossN N) hmc (lossN_lt N bN.out) wr (Qc.out.bw B.out))
              have hbk := Lib.hid (fun h => rises_back N bN.out (fun i hi => riseB_all N (by rw [HN5.out.1]; exact h) i hi))
              clear hlN Qc
              go_upto_region 24 with (fail)
              go_wp2_with fail
              refine Calls.mono ce.out ?_
              rintro e w7 ⟨se, me, ke, rfl, Qe, hb⟩
              have B7 := Lib.hid (B.out.trans hb)
              clear ce hb B hkn d hkk hk
              dsimp only
              cases hr : riseB N nn with
              | false =>
                go_wp2_with fail
                go_ret
                exact ⟨rfl, (B5.out.trans B7.out).bel⟩
              | true =>
                rw [hbk.out hr] at Qe
                obtain rfl : me = nn := by rw [← Qe.1]; exact HN5.out.1
                replace Qe := Lib.hid Qe.sq
                have HN7 := Lib.hid (HN5.out.bw B7.out)
                have B8 := Lib.hid (B5.out.trans B7.out)
                clear hbk HN5 B7 B5 hr
                go_upto_region 30 with (fail)
                go_loopg [14] me (fun m' i wx => ∃ k : Nat, m' = me - k ∧ k ≤ me ∧ i = .int .i64 (k : Nat) ∧ Hid (BW w7 wx))
                case atStart => exact ⟨0, rfl, by omega, rfl, BW.refl _⟩
                case round =>
                  obtain ⟨k, rfl, hk, rfl, B⟩ := hrel
                  by_cases hkn : k < me
                  · have d : decide ((k : Int) < (me : Int)) = true := by simp; omega
                    obtain ⟨g1, o1, rfl, hc⟩ := sqU_form (Qe.out.bw B.out) (by omega)
                    obtain ⟨g2, o2, rfl, hc'⟩ := sqU_form (HN7.out.bw B.out) (by omega)
                    have hkl : k < N.length := by rw [Qe.out.1]; exact hkn
                    have z0 := hc k hkl
                    have z2 := hc' k hkl
                    clear hc hc'
                    generalize N[k] = e at *
                    have l0 : ∀ y : LaterS [] wr, y.now.cell? _ = _ := fun y => y.bw.cell z0
                    have l2 : ∀ y : LaterS [] wr, y.now.cell? _ = _ := fun y => y.bw.cell z2
                    clear z0 z2
                    go_upto_region 32 with (fail)
                    refine wp_region_gg [] [] [] (by kernel_rfl) ?_
                    refine hoist [] [] (a1 := ?_) 0 rfl (by kernel_rfl) (.inl ⟨rfl, rfl⟩) rfl rfl rfl (fun x K hK => ?_) ?_
                    rotate_left
                    · go_big_quiet_op
                      exact hK
                    refine hoist [] [] (a1 := ?_) 1 rfl (by kernel_rfl) (.inl ⟨rfl, rfl⟩) rfl rfl rfl (fun x K hK => ?_) ?_
                    rotate_left
                    · go_big_quiet_op
                      exact hK
                    refine hoist [] [] (a1 := ?_) 2 rfl (by kernel_rfl) (.inl ⟨rfl, rfl⟩) rfl rfl rfl (fun x K hK => ?_) ?_
                    rotate_left
                    · go_big_quiet_op
                      exact hK
                    refine hoist [] [] (a1 := ?_) 3 rfl (by kernel_rfl) (.inl ⟨rfl, rfl⟩) rfl rfl rfl (fun x K hK => ?_) ?_
                    rotate_left
                    · go_big_quiet_op
                      exact hK
                    refine hoist [] [] (a1 := ?_) 4 rfl (by kernel_rfl) (.inl ⟨rfl, rfl⟩) rfl rfl rfl (fun x K hK => ?_) ?_
                    rotate_left
                    · go_big_quiet_op
                      exact hK
                    refine hoist [] [] (a1 := ?_) 5 rfl (by kernel_rfl) (.inl ⟨rfl, rfl⟩) rfl rfl rfl (fun x K hK => ?_) ?_
                    rotate_left
                    · go_big_quiet_op
                      exact hK
                    refine hoist [] [] (a1 := ?_) 6 rfl (by kernel_rfl) (.inl ⟨rfl, rfl⟩) rfl rfl rfl (fun x K hK => ?_) ?_
                    rotate_left
                    · go_big_quiet_op
                      exact hK
                    refine hoist [] [] (a1 := ?_) 7 rfl (by kernel_rfl) (.inl ⟨rfl, rfl⟩) rfl rfl rfl (fun x K hK => ?_) ?_
                    rotate_left
                    · go_big_quiet_op
                      exact hK
                    refine hoist [] [] (a1 := ?_) 8 rfl (by kernel_rfl) (.inl ⟨rfl, rfl⟩) rfl rfl rfl (fun x K hK => ?_) ?_
                    rotate_left
                    · go_big_quiet_op
                      exact hK
                    refine done (by kernel_rfl) (fun xr => ?_)
                    have B2 := Lib.hid (B.out.trans xr.bw)
                    clear B l0 l2
                    generalize xr.now = w6 at *
                    go_wp2_with fail
                    go_roundg (me - (k + 1))
                    case measure => omega
                    case rel => exact ⟨k + 1, rfl, by omega, by first | rfl | (congr 1; omega), B2⟩
                  · obtain rfl : me = k := by omega
                    have d : decide ((me : Int) < (me : Int)) = false := by simp
                    go_wp2_with fail
                    go_ret
                    exact ⟨rfl, (B8.out.trans B.out).bel⟩
end Go.Proofs.Ytcempndfbckcaaa
