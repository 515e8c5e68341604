/- Counters: stream.Next, the reference's Plus, First. No condition. -/
import Derived.Test.YtjjemkfkpnemoaaStB
namespace Go.Proofs.Ytjjemkfkpnemoaa
open Go.RowKit

set_option maxRecDepth 100000 in
set_option maxHeartbeats 8000000 in
theorem next_ok (c : List Nat) (hc : c.length = 16) (hb : ByL c) (w : World) :
    Calls Try.prog 45 #[.agg (ivA .u8 c)] w fun e w' => e = .returned (.agg (ivA .u8 (putB 16 (numB c + 1)))) ∧ Below w.heap.size w w' := by
  have hall := Lib.hid (ctrK_all c 1)
  have hend := Lib.hid (ctr_end c 1)
  have hPl := Lib.hid (putB_len 16 (numB c + 1))
  generalize putB 16 (numB c + 1) = P at *
  replace hc := Lib.hid hc
  replace hb := Lib.hid hb
  have B := Lib.hid (BW.refl w)
  go_enter Try.func45, Try.ntmps45
  go_wp2_with (refine alA ar16 rfl rfl ?_)
  have H1 := Lib.hid ((AvB.new w 28 c).bw (show BW (w.alloc (.cells (ivA .u8 c) 28)) ((w.alloc (.cells (ivA .u8 c) 28)).alloc (.cells (ivA .u8 (zeros 16)) 28)) from (by repeat (first | exact BW.refl _ | apply BW.alloc | apply BW.drewN | apply BW.drew))))
  have H2 := Lib.hid ((AvB.new (w.alloc (.cells (ivA .u8 c) 28)) 28 (zeros 16)).bw (show BW ((w.alloc (.cells (ivA .u8 c) 28)).alloc (.cells (ivA .u8 (zeros 16)) 28)) ((w.alloc (.cells (ivA .u8 c) 28)).alloc (.cells (ivA .u8 (zeros 16)) 28)) from (by repeat (first | exact BW.refl _ | apply BW.alloc | apply BW.drewN | apply BW.drew))))
  simp only [World.size_alloc] at H2
  generalize hnm : ((w.alloc (.cells (ivA .u8 c) 28)).alloc (.cells (ivA .u8 (zeros 16)) 28)) = w1 at *
  have hb : BW w w1 := (by subst hnm; exact (by repeat (first | exact BW.refl _ | apply BW.alloc | apply BW.drewN | apply BW.drew)))
  replace B := Lib.hid (B.out.trans hb)
  clear hb
  clear hnm
  try simp only [World.size_alloc]
  go_loopg [3] 16 (fun m' i wx => ∃ r : Nat, r = m' ∧ r ≤ 16 ∧ i = .int .i64 ((r : Nat) - 1 : Int) ∧ Hid (AvB wx w.heap.size 28 (ctrK c 1 (16 - r))) ∧ Hid (ctrN c 1 (16 - r) = 1) ∧ Hid (AvB wx (w.heap.size + 1) 28 (zeros 16)) ∧ Hid (BW w wx))
  case atStart => exact ⟨16, rfl, by omega, rfl, by rw [Nat.sub_self, ctrK_zero c 1 hc.out]; exact H1, ctrN_zero c 1 hc.out, H2, B⟩
  case round =>
    clear H1 H2 B
    obtain ⟨r, rfl, hr, hi, H1, N1, H2, B⟩ := hrel
    cases r with
    | zero =>
      rw [show ((0 : Nat) : Int) - 1 = -1 from rfl] at hi
      subst hi
      rw [Nat.sub_zero, hall.out] at H1
      have H4 := Lib.hid (H2.out.row P)
      go_wp2_with (first | (refine ldA ar16 rfl rfl rfl H1.out hPl.out ?_) | (refine stR ar16 rfl rfl rfl rfl H2.out (zeros_len _) hPl.out ?_))
      exact bodyPost_ret (results_cell_row (p := 2) rfl _ _ _ _ _ _ _ rfl H4.out Try.underlying28 rfl (by rw [ar16.hi, ivA_size, hPl.out])) rfl ⟨rfl, B.out.row (by omega) _⟩
    | succ j =>
      rw [show ((j + 1 : Nat) : Int) - 1 = (j : Int) by omega] at hi
      subst hi
      obtain ⟨s1, s2⟩ := ctr_step c 1 (16 - (j + 1)) hc.out (by omega)
      have g1 := ctrK_get c 1 (16 - (j + 1)) hc.out (by omega)
      have hl := Lib.hid (ctrK_len c 1 (16 - (j + 1)) hc.out (by omega))
      have hl2 := Lib.hid (ctrK_len c 1 (16 - j) hc.out (by omega))
      have hE := Lib.hid (hend.out (16 - j) hc.out hb.out (by omega))
      have hc1 := H1.out.cell j (by rw [hl.out]; omega)
      have hf1 := H1.out.frz j
      have hyb := hb.out.get j
      rw [N1.out, show 15 - (16 - (j + 1)) = j by omega, show 16 - (j + 1) + 1 = 16 - j by omega] at s1 s2
      rw [show 15 - (16 - (j + 1)) = j by omega] at g1
      rw [g1] at hc1
      generalize c.getD j 0 = y at *
      have hz : ((y : Int) + 1) % 256 = ((1 + y) % 256 : Nat) := by omega
      have hz2 : (1 + y) % 256 < 256 := Nat.mod_lt _ (by decide)
      have hz3 : ¬ ((1 + y) % 256 = 0) → (1 + y) / 256 = 0 := by omega
      have hz4 : (1 + y) % 256 = 0 → (1 + y) / 256 = 1 := by omega
      have H3 := Lib.hid (H1.out.set j ((1 + y) % 256))
      rw [s1] at H3
      have H4 := Lib.hid (H2.out.setO (b := w.heap.size) (o := j) (by omega) (.int .u8 ((1 + y) % 256 : Nat)))
      have B4 := Lib.hid (B.out.set (g := w.heap.size) (o := j) (Nat.le_refl _) (v := .int .u8 ((1 + y) % 256 : Nat)))
      have c3 := H3.out.cell j (by rw [hl2.out]; omega)
      have c3' : (ctrK c 1 (16 - j)).getD j 0 = (1 + y) % 256 := by
        rw [← s1, List.getD_eq_getElem?_getD, List.getElem?_set_self (by rw [hl.out]; omega)]; rfl
      rw [c3'] at c3
      rw [s2] at hz3 hz4
      generalize (1 + y) % 256 = z at *
      replace g1 := Lib.hid g1
      replace c3' := Lib.hid c3'
      replace s1 := Lib.hid s1
      replace s2 := Lib.hid s2
      replace hz3 := Lib.hid hz3
      replace hz4 := Lib.hid hz4
      clear H1 H2 B
      by_cases hz0 : z = 0
      · subst hz0
        have N4 := hz4.out rfl
        replace N4 := Lib.hid N4
        have d0 : (((0 : Nat) : Int) != 0) = false := rfl
        go_wp2_with fail
        go_roundg j
        case measure => omega
        case rel => exact ⟨j, rfl, by omega, rfl, H3, N4, H4, B4⟩
      · have ez : (z : Int) = (y : Int) + 1 := by omega
        have d0 : ((y : Int) + 1 != 0) = true := by rw [bne_iff_ne]; omega
        have y255 : (y : Int) + 1 ≤ 255 := by omega
        rw [ez] at H3 H4 B4 c3
        replace ez := Lib.hid ez
        replace hz := Lib.hid hz
        have E1 := hE.out (hz3.out hz0)
        rw [E1] at H3
        replace E1 := Lib.hid E1
        have H5 := Lib.hid (H4.out.row P)
        go_wp2_with (first | (refine ldA ar16 rfl rfl rfl H3.out hPl.out ?_) | (refine stR ar16 rfl rfl rfl rfl H4.out (zeros_len _) hPl.out ?_))
        exact bodyPost_ret (results_cell_row (p := 2) rfl _ _ _ _ _ _ _ rfl H5.out Try.underlying28 rfl (by rw [ar16.hi, ivA_size, hPl.out])) rfl ⟨rfl, B4.out.row (by omega) _⟩

set_option maxRecDepth 100000 in
set_option maxHeartbeats 8000000 in
theorem rplus_ok (c : List Nat) (n : Nat) (a : Int) (ha : a = (n : Nat)) (hn : n ≤ 1000000000000000000) (hc : c.length = 16) (hb : ByL c) (w : World) :
    Calls Try.prog 46 #[.agg (ivA .u8 c), .int .i64 a] w fun e w' => e = .returned (.agg (ivA .u8 (putB 16 (numB c + n)))) ∧ Below w.heap.size w w' := by
  subst ha
  have hall := Lib.hid (ctrK_all c n)
  have hPl := Lib.hid (putB_len 16 (numB c + n))
  generalize putB 16 (numB c + n) = P at *
  replace hc := Lib.hid hc
  replace hb := Lib.hid hb
  have B := Lib.hid (BW.refl w)
  go_enter Try.func46, Try.ntmps46
  go_wp2_with (refine alA ar16 rfl rfl ?_)
  have H1 := Lib.hid ((AvB.new w 28 c).bw (show BW (w.alloc (.cells (ivA .u8 c) 28)) ((w.alloc (.cells (ivA .u8 c) 28)).alloc (.cells (ivA .u8 (zeros 16)) 28)) from (by repeat (first | exact BW.refl _ | apply BW.alloc | apply BW.drewN | apply BW.drew))))
  have H2 := Lib.hid ((AvB.new (w.alloc (.cells (ivA .u8 c) 28)) 28 (zeros 16)).bw (show BW ((w.alloc (.cells (ivA .u8 c) 28)).alloc (.cells (ivA .u8 (zeros 16)) 28)) ((w.alloc (.cells (ivA .u8 c) 28)).alloc (.cells (ivA .u8 (zeros 16)) 28)) from (by repeat (first | exact BW.refl _ | apply BW.alloc | apply BW.drewN | apply BW.drew))))
  simp only [World.size_alloc] at H2
  generalize hnm : ((w.alloc (.cells (ivA .u8 c) 28)).alloc (.cells (ivA .u8 (zeros 16)) 28)) = w1 at *
  have hb : BW w w1 := (by subst hnm; exact (by repeat (first | exact BW.refl _ | apply BW.alloc | apply BW.drewN | apply BW.drew)))
  replace B := Lib.hid (B.out.trans hb)
  clear hb
  clear hnm
  try simp only [World.size_alloc]
  go_loopg [1, 5] 16 (fun m' v i wx => ∃ r x : Nat, r = m' ∧ r ≤ 16 ∧ i = .int .i64 ((r : Nat) - 1 : Int) ∧ v = .int .i64 (x : Nat) ∧ x ≤ 1000000000000000001 ∧ Hid (AvB wx w.heap.size 28 (ctrK c n (16 - r))) ∧ Hid (ctrN c n (16 - r) = x) ∧ Hid (AvB wx (w.heap.size + 1) 28 (zeros 16)) ∧ Hid (BW w wx))
  case atStart => exact ⟨16, n, rfl, by omega, rfl, rfl, by omega, by rw [Nat.sub_self, ctrK_zero c n hc.out]; exact H1, ctrN_zero c n hc.out, H2, B⟩
  case round =>
    clear H1 H2 B
    obtain ⟨r, x, rfl, hr, hi, rfl, hx, H1, N1, H2, B⟩ := hrel
    cases r with
    | zero =>
      rw [show ((0 : Nat) : Int) - 1 = -1 from rfl] at hi
      subst hi
      rw [Nat.sub_zero, hall.out] at H1
      have H4 := Lib.hid (H2.out.row P)
      go_wp2_with (first | (refine ldA ar16 rfl rfl rfl H1.out hPl.out ?_) | (refine stR ar16 rfl rfl rfl rfl H2.out (zeros_len _) hPl.out ?_))
      exact bodyPost_ret (results_cell_row (p := 4) rfl _ _ _ _ _ _ _ rfl H4.out Try.underlying28 rfl (by rw [ar16.hi, ivA_size, hPl.out])) rfl ⟨rfl, B.out.row (by omega) _⟩
    | succ j =>
      rw [show ((j + 1 : Nat) : Int) - 1 = (j : Int) by omega] at hi
      subst hi
      obtain ⟨s1, s2⟩ := ctr_step c n (16 - (j + 1)) hc.out (by omega)
      have g1 := ctrK_get c n (16 - (j + 1)) hc.out (by omega)
      have hl := Lib.hid (ctrK_len c n (16 - (j + 1)) hc.out (by omega))
      have hc1 := H1.out.cell j (by rw [hl.out]; omega)
      have hf1 := H1.out.frz j
      have hyb := hb.out.get j
      rw [N1.out, show 15 - (16 - (j + 1)) = j by omega, show 16 - (j + 1) + 1 = 16 - j by omega] at s1 s2
      rw [show 15 - (16 - (j + 1)) = j by omega] at g1
      rw [g1] at hc1
      generalize c.getD j 0 = y at *
      have hz : ((x : Int) + y) % 256 = ((x + y) % 256 : Nat) := by omega
      have hz5 : ((x : Int) + y) / 256 = ((x + y) / 256 : Nat) := by omega
      have hz2 : (x + y) % 256 < 256 := Nat.mod_lt _ (by decide)
      have hz6 : (((x + y) % 256 : Nat) : Int) < 256 := by omega
      have hq : (x + y) / 256 ≤ 1000000000000000001 := by omega
      have H3 := Lib.hid (H1.out.set j ((x + y) % 256))
      rw [s1] at H3
      have H4 := Lib.hid (H2.out.setO (b := w.heap.size) (o := j) (by omega) (.int .u8 ((x + y) % 256 : Nat)))
      have B4 := Lib.hid (B.out.set (g := w.heap.size) (o := j) (Nat.le_refl _) (v := .int .u8 ((x + y) % 256 : Nat)))
      generalize (x + y) % 256 = z at *
      have s2' := Lib.hid s2
      generalize hqq : (x + y) / 256 = q at *
      replace g1 := Lib.hid g1
      replace s1 := Lib.hid s1
      replace hqq := Lib.hid hqq
      clear H1 H2 B s2
      go_wp2_with fail
      go_roundg j
      case measure => omega
      case rel => exact ⟨j, q, rfl, by omega, rfl, congrArg _ hz5, hq, H3, s2'.out.symm, H4, B4⟩
end Go.Proofs.Ytjjemkfkpnemoaa
