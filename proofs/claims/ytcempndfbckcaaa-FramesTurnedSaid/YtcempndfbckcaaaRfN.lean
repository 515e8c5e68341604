/- The reference's numbers. No condition but the sizes'. -/
import Derived.Test.YtcempndfbckcaaaPb
import Derived.Test.YtcempndfbckcaaaNum
namespace Go.Proofs.Ytcempndfbckcaaa
open Go.RowKit

set_option maxRecDepth 100000 in
set_option maxHeartbeats 2000000 in
theorem rnum_ok (v : Value) (len : Nat) (l : List Nat) (at_ n : Nat) (a b : Int) (hn1 : 1 ≤ n) (hn8 : n ≤ 7) (hat : at_ + n ≤ len) (hlen : len ≤ 1000000000000) (ha : a = at_) (hb : b = n) (w : World) (hv : SB w v len l) :
    Calls Try.prog 72 #[v, .int .i64 a, .int .i64 b] w fun e w' => e = .returned (.int .u64 (numB ((l.drop at_).take n) : Nat)) ∧ w = w' := by
  subst ha
  subst hb
  obtain ⟨g, o, cap, rfl, hc, hm, hg, hcell⟩ := hv.form (by omega)
  have hby := Lib.hid hv.2.1
  have hll := Lib.hid hv.1
  unfold maxLen at hm
  replace hcell := Lib.hid hcell
  clear hv
  go_enter Try.func72, Try.ntmps72
  go_wp2_with fail
  go_loop [7, 8, 9] (fun x p i => ∃ k : Nat, k ≤ n ∧ i = .int .i64 ((at_ + n - k : Nat) - 1 : Int) ∧ p = .int .u64 (256 ^ k : Nat) ∧ x = .int .u64 (numB ((l.drop (at_ + n - k)).take k) : Nat)) (fun _ _ i => (intOf i + 1 - at_).toNat)
  case atStart => exact ⟨0, by omega, by simp, rfl, by simp [numB]⟩
  case round =>
    obtain ⟨k, hk, rfl, rfl, rfl⟩ := hrel
    by_cases hkn : k < n
    · have hc1 := hcell.out (at_ + n - k - 1) (by omega)
      have hnl : (((l.drop (at_ + n - k)).take k)).length = k := by rw [List.length_take, List.length_drop, hll.out]; omega
      have hlt : numB ((l.drop (at_ + n - k)).take k) < 256 ^ k := by
        have h1 := numB_lt ((l.drop (at_ + n - k)).take k) (fun x hx => hby.out x (List.mem_of_mem_drop (List.mem_of_mem_take hx)))
        rw [hnl] at h1; exact h1
      have hp : 256 ^ k ≤ 256 ^ 6 := Nat.pow_le_pow_right (by omega) (by omega)
      have hy := ByL.get hby.out (at_ + n - k - 1)
      have hnx : Hid (numB ((l.drop (at_ + n - (k + 1))).take (k + 1)) = 256 ^ k * l.getD (at_ + n - k - 1) 0 + numB ((l.drop (at_ + n - k)).take k)) := by
        have hd : (l.drop (at_ + n - (k + 1))).take (k + 1) = l.getD (at_ + n - k - 1) 0 :: (l.drop (at_ + n - k)).take k := by
          rw [List.drop_eq_getElem_cons (by rw [hll.out]; omega), List.take_succ_cons]
          congr 1
          · simp [List.getD_eq_getElem?_getD, List.getElem?_eq_getElem (show at_ + n - k - 1 < l.length by rw [hll.out]; omega)]
            rfl
          · congr 2; omega
        rw [Hid, hd, numB_cons, hnl]
      have hpn : Hid (256 ^ (k + 1) = 256 ^ k * 256) := Nat.pow_succ ..
      clear hnl
      generalize numB ((l.drop (at_ + n - k)).take k) = x at *
      generalize l.getD (at_ + n - k - 1) 0 = y at *
      generalize 256 ^ k = p at *
      have hmul : p * y ≤ p * 255 := Nat.mul_le_mul_left _ (by omega)
      have hmi : ((p : Int) * (y : Int)) = ((p * y : Nat) : Int) := by push_cast; rfl
      generalize hpy : p * y = py at *
      have e1 : (((at_ + n - k : Nat) : Int) - 1) = ((at_ + n - k - 1 : Nat) : Int) := by omega
      rw [e1]
      go_wp2_with fail
      go_round
      case rel => exact ⟨k + 1, by omega, congrArg _ (by omega), by rw [hpn.out]; push_cast; rfl, by rw [hnx.out]; exact congrArg _ (by push_cast; omega)⟩
      case measure => simp [intOf]; omega
    · obtain rfl : k = n := by omega
      have e1 : (((at_ + k - k : Nat) : Int) - 1) = (at_ : Int) - 1 := by omega
      rw [e1]
      go_wp2_with fail
      go_ret
      exact ⟨rfl, rfl⟩
end Go.Proofs.Ytcempndfbckcaaa
