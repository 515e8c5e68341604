/- The reference's Nacked. No condition but the sizes'. -/
import Derived.Test.YtcempndfbckcaaaRcI
namespace Go.Proofs.Ytcempndfbckcaaa
open Go.RowKit

set_option maxRecDepth 100000 in
set_option maxHeartbeats 8000000 in
theorem rnacked_ok (b0 n : Nat) (v : Value) (L : List (Nat × Nat)) (hn : n ≤ 1000) (hL : ∀ p ∈ L, p.1 < 65536 ∧ p.2 < 65536) (w : World) (h : SQ EO w b0 v n L) :
    Calls Try.prog 19 #[v] w fun e w' => ∃ so m co, e = .returned (.slice so m co) ∧ EQ U1N 28 w' w.heap.size (.slice so m co) m (nackN L) ∧ BW w w' := by
  obtain ⟨sv, cap, rfl, hcap, hmx⟩ := h.len
  unfold maxLen at hmx
  have hH := Lib.hid h
  have hln := Lib.hid h.1
  clear h
  go_enter Try.func19, Try.ntmps19
  go_upto_region 3 with (fail)
  go_loopg [3, 4] n (fun m' out i wx => ∃ (k m : Nat) (so : Option Addr) (co : Nat), m' = n - k ∧ k ≤ n ∧ i = .int .i64 (k : Nat) ∧ out = .slice so m co ∧ co ≤ 9223372036854775807 ∧ m ≤ 17 * k ∧ Hid (EQ U1N 28 wx w.heap.size (.slice so m co) m (nackN (L.take k))) ∧ Hid (BW w wx))
  case atStart => exact ⟨0, 0, none, 0, rfl, by omega, rfl, rfl, by omega, by omega, EQ.nil _ _ _ _, BW.refl _⟩
  case round =>
    obtain ⟨k, m, so, co, rfl, hk, rfl, rfl, hco, hm, Q, B⟩ := hrel
    by_cases hkn : k < n
    · have d1 : decide ((k : Int) < (n : Int)) = true := by simp; omega
      have hkl : k < L.length := by rw [hln.out]; exact hkn
      obtain ⟨g, o, rfl, hc⟩ := sqO_form hH.out (by omega)
      obtain ⟨x0, x1⟩ := hc k hkl
      obtain ⟨hs, hb⟩ := hL _ (List.getElem_mem hkl)
      have hT := nackN_take L k hkl
      have hb0 : (L[k]).2 / 2 ^ 0 = (L[k]).2 := by simp
      clear hc
      generalize (L[k]).1 = s at *
      generalize (L[k]).2 = b at *
      generalize nackN (L.take k) = A at *
      have z0 := B.out.cell x0
      replace hT := Lib.hid hT
      replace hs := Lib.hid hs
      replace hb := Lib.hid hb
      replace hb0 := Lib.hid hb0
      replace x0 := Lib.hid x0
      replace x1 := Lib.hid x1
      have BCq : BW wr (wr.alloc (.cells #[.int .u16 (s : Nat)] 28)) := (BW.refl _).alloc
      have Lq := Lib.hid (Sls.new1 (E := U1N) wr 28 [.int .u16 (s : Nat)] rfl)
      replace Q := Lib.hid (Q.out.bw BCq)
      replace B := Lib.hid (B.out.trans BCq)
      have hzq := Lib.hid (B.out.size)
      replace BCq := Lib.hid BCq
      go_upto_region 6 with (at_builtin; go_must (refine wpList_apEQ slU1N rfl _ _ rfl w.heap.size (.slice so m co) m A rfl Q.out _ rfl 1 [s] [.int .u16 (s : Nat)] Lq.out (EL.single rfl) rfl (by omega) hzq.out (fun _ _ => trivial) ?_; intro s3 c3 w3 hcq hmq Qn Tn hbn Gn; unfold maxLen at hmq; replace Qn := Lib.hid Qn; replace Tn := Lib.hid Tn; replace Gn := Lib.hid Gn; clear hbn))
      replace B := Lib.hid (BW.stP B.out Tn.out (fun j hj => Q.out.ge' j (by simpa using hj)))
      clear Q Tn Gn Lq hzq BCq
      have Q := Qn
      clear Qn
      clear z0
      have z1 := B.out.cell x1.out
      rw [← nackP_zero s b] at Q
      go_upto_region 8 with (fail)
      clear z1
      obtain ⟨wp, hwp⟩ : ∃ wp, wp = w3 := ⟨_, rfl⟩
      rw [← hwp] at B Q ⊢
      clear hwp
      go_loopg [3, 5, 6] 16 (fun m' out bs i wx => ∃ (q m2 : Nat) (so : Option Addr) (co : Nat), m' = 16 - q ∧ q ≤ 16 ∧ i = .int .i64 ((q : Int) + 1) ∧ bs = .int .u16 ((b / 2 ^ q : Nat) : Int) ∧ out = .slice so m2 co ∧ co ≤ 9223372036854775807 ∧ m2 ≤ 17 * k + 1 + q ∧ Hid (EQ U1N 28 wx w.heap.size (.slice so m2 co) m2 (A ++ nackP s b q)) ∧ Hid (BW w wx))
      case atStart => exact ⟨0, m + 1, s3, c3, by omega, by omega, rfl, by rw [hb0.out], rfl, by omega, by omega, Q, B⟩
      case round =>
        clear Q B
        obtain ⟨q, m2, so, co, rfl, hq, rfl, rfl, rfl, hco, hm2, Q, B⟩ := hrel
        by_cases hq16 : q < 16
        · have d : decide ((q : Int) + 1 < 17) = true := by simp; omega
          have hlt : b / 2 ^ q < 65536 := Nat.lt_of_le_of_lt (Nat.div_le_self _ _) hb.out
          have hpw : b / 2 ^ (q + 1) = b / 2 ^ q / 2 := by rw [Nat.pow_succ, Nat.div_div_eq_div_mul]
          have hbt : b.testBit q = decide (b / 2 ^ q % 2 = 1) := Nat.testBit_eq_decide_div_mod_eq
          have hP1 := nackP_yes s b q
          have hP0 := nackP_no s b q
          have hs' := hs.out
          have hw : IntKind.u16.wrap ((s : Int) + ((q : Int) + 1)) = (((s + 1 + q) % 65536 : Nat) : Int) := by
            rw [IntKind.wrap_u16]
            omega
          generalize b / 2 ^ q = bq at *
          generalize (s + 1 + q) % 65536 = y at *
          have z0 := B.out.cell x0.out
          replace hpw := Lib.hid hpw
          replace hP1 := Lib.hid hP1
          replace hP0 := Lib.hid hP0
          replace hbt := Lib.hid hbt
          by_cases hodd : bq % 2 = 1
          · have d2 : ((bq : Int) % 2 == 1) = true := by simp; omega
            have hP := hP1.out (by rw [hbt.out]; simpa using hodd)
            replace hP := Lib.hid hP
            replace hodd := Lib.hid hodd
            have BCq : BW wr (wr.alloc (.cells #[.int .u16 (y : Nat)] 28)) := (BW.refl _).alloc
            have Lq := Lib.hid (Sls.new1 (E := U1N) wr 28 [.int .u16 (y : Nat)] rfl)
            replace Q := Lib.hid (Q.out.bw BCq)
            replace B := Lib.hid (B.out.trans BCq)
            have hzq := Lib.hid (B.out.size)
            replace BCq := Lib.hid BCq
            go_upto_region 12 with (at_builtin; go_must (refine wpList_apEQ slU1N rfl _ _ rfl w.heap.size (.slice so m2 co) m2 (A ++ nackP s b q) rfl Q.out _ rfl 1 [y] [.int .u16 (y : Nat)] Lq.out (EL.single rfl) rfl (by omega) hzq.out (fun _ _ => trivial) ?_; intro s4 c4 w4 hcq hmq Qn Tn hbn Gn; unfold maxLen at hmq; replace Qn := Lib.hid Qn; replace Tn := Lib.hid Tn; replace Gn := Lib.hid Gn; clear hbn))
            replace B := Lib.hid (BW.stP B.out Tn.out (fun j hj => Q.out.ge' j (by simpa using hj)))
            clear Q Tn Gn Lq hzq BCq
            have Q := Qn
            clear Qn
            rw [List.append_assoc, ← hP.out] at Q
            clear z0
            go_wp2_with fail
            go_roundg (16 - (q + 1))
            case measure => omega
            case rel => exact ⟨q + 1, m2 + 1, s4, c4, rfl, by omega, by first | rfl | (congr 1; omega), by rw [hpw.out]; first | rfl | (congr 1; omega), rfl, by omega, by omega, Q, B⟩
          · have d2 : ((bq : Int) % 2 == 1) = false := by simp; omega
            have hP := hP0.out (by rw [hbt.out]; simpa using hodd)
            replace hP := Lib.hid hP
            replace hodd := Lib.hid hodd
            go_wp2_with fail
            go_roundg (16 - (q + 1))
            case measure => omega
            case rel => exact ⟨q + 1, m2, so, co, rfl, by omega, by first | rfl | (congr 1; omega), by rw [hpw.out]; first | rfl | (congr 1; omega), rfl, hco, by omega, Lib.hid (by rw [hP.out]; exact Q.out), B⟩
        · obtain rfl : q = 16 := by omega
          have d : decide (((16 : Nat) : Int) + 1 < 17) = false := by decide
          rw [← hT.out] at Q
          go_wp2_with fail
          go_roundg (n - (k + 1))
          case measure => omega
          case rel => exact ⟨k + 1, m2, so, co, rfl, by omega, by first | rfl | (congr 1; omega), rfl, hco, by omega, Q, B⟩
    · obtain rfl : k = n := by omega
      have hT : L.take k = L := by rw [← hln.out, List.take_length]
      rw [hT] at Q
      clear hT
      have d1 : decide ((k : Int) < (k : Int)) = false := by simp
      go_wp2_with fail
      go_ret
      exact ⟨so, m, co, rfl, Q.out, B.out⟩
end Go.Proofs.Ytcempndfbckcaaa
