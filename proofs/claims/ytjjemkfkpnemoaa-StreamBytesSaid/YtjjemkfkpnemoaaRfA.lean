/- The reference's numbers and turned words. No condition but the sizes'. -/
import Derived.Test.YtjjemkfkpnemoaaNum
namespace Go.Proofs.Ytjjemkfkpnemoaa
open Go.RowKit

theorem rol_sum (x m : Nat) (h1 : 1 ≤ m) (h2 : m ≤ 31) (hx : x < 4294967296) : rol x m = x * 2 ^ m % 4294967296 + x / 2 ^ (32 - m) := by
  unfold rol
  rw [Nat.shiftLeft_eq, Nat.shiftRight_eq_div_pow]
  have e : (4294967296 : Nat) = 2 ^ (32 - m) * 2 ^ m := by rw [← Nat.pow_add, show 32 - m + m = 32 by omega]
  have hlo : x / 2 ^ (32 - m) < 2 ^ m := by
    rw [Nat.div_lt_iff_lt_mul (Nat.pow_pos (by decide)), Nat.mul_comm, ← e]; exact hx
  have hhi : x * 2 ^ m % 4294967296 = 2 ^ m * (x % 2 ^ (32 - m)) := by
    rw [e, Nat.mul_mod_mul_right, Nat.mul_comm]
  rw [hhi]
  exact (Nat.two_pow_add_eq_or_of_lt hlo _).symm
theorem rol_int (x m : Nat) (h1 : 1 ≤ m) (h2 : m ≤ 31) (hx : x < 4294967296) : (rol x m : Int) = (x : Int) * ((2 ^ m : Nat) : Int) % 4294967296 + (x : Int) / ((2 ^ (32 - m) : Nat) : Int) := by
  rw [rol_sum x m h1 h2 hx, Int.natCast_add, Int.natCast_emod, Int.natCast_mul, Int.natCast_ediv]
  rfl
theorem numB_foldl (l : List Nat) : ∀ a, l.foldl (fun x c => x * 256 + c) a = a * 256 ^ l.length + numB l := by
  induction l with
  | nil => intro a; simp [numB]
  | cons c l ih =>
    intro a
    have h0 := ih c
    have h1 := ih (a * 256 + c)
    simp only [numB, List.foldl_cons, List.length_cons, Nat.zero_mul, Nat.zero_add] at h0 h1 ⊢
    rw [h1, h0, Nat.pow_succ, Nat.add_mul, Nat.mul_assoc, Nat.mul_comm 256, Nat.add_assoc]
theorem numB_cons (c : Nat) (l : List Nat) : numB (c :: l) = 256 ^ l.length * c + numB l := by
  have := numB_foldl l c
  simp only [numB, List.foldl_cons, Nat.zero_mul, Nat.zero_add] at this ⊢
  rw [this, Nat.mul_comm]

set_option maxRecDepth 100000 in
set_option maxHeartbeats 1000000 in
theorem left_1 (x : Nat) (hx : x < 4294967296) (w : World) :
    Calls Try.prog 63 #[.int .u32 (x : Nat), .int .u64 1] w fun e w' => e = .returned (.int .u32 (rol x 1 : Nat)) ∧ w = w' := by
  have k1 : (rol x 1 : Int) = (x : Int) * 2 % 4294967296 + (x : Int) / 2147483648 := by
    have h := rol_int x 1 (by omega) (by omega) hx
    simp only [Nat.reducePow, Nat.reduceSub] at h
    exact h
  have l1 := rol_lt x 1 hx
  replace k1 := Lib.hid k1
  have l2 : (x : Int) * 2 % 4294967296 + (x : Int) / 2147483648 ≤ 4294967295 := by rw [← k1.out]; omega
  clear l1 hx
  go_enter Try.func63, Try.ntmps63
  go_wp2_with fail
  go_ret
  rw [k1.out]
  exact ⟨rfl, rfl⟩
set_option maxRecDepth 100000 in
set_option maxHeartbeats 1000000 in
theorem left_5 (x : Nat) (hx : x < 4294967296) (w : World) :
    Calls Try.prog 63 #[.int .u32 (x : Nat), .int .u64 5] w fun e w' => e = .returned (.int .u32 (rol x 5 : Nat)) ∧ w = w' := by
  have k1 : (rol x 5 : Int) = (x : Int) * 32 % 4294967296 + (x : Int) / 134217728 := by
    have h := rol_int x 5 (by omega) (by omega) hx
    simp only [Nat.reducePow, Nat.reduceSub] at h
    exact h
  have l1 := rol_lt x 5 hx
  replace k1 := Lib.hid k1
  have l2 : (x : Int) * 32 % 4294967296 + (x : Int) / 134217728 ≤ 4294967295 := by rw [← k1.out]; omega
  clear l1 hx
  go_enter Try.func63, Try.ntmps63
  go_wp2_with fail
  go_ret
  rw [k1.out]
  exact ⟨rfl, rfl⟩
set_option maxRecDepth 100000 in
set_option maxHeartbeats 1000000 in
theorem left_30 (x : Nat) (hx : x < 4294967296) (w : World) :
    Calls Try.prog 63 #[.int .u32 (x : Nat), .int .u64 30] w fun e w' => e = .returned (.int .u32 (rol x 30 : Nat)) ∧ w = w' := by
  have k1 : (rol x 30 : Int) = (x : Int) * 1073741824 % 4294967296 + (x : Int) / 4 := by
    have h := rol_int x 30 (by omega) (by omega) hx
    simp only [Nat.reducePow, Nat.reduceSub] at h
    exact h
  have l1 := rol_lt x 30 hx
  replace k1 := Lib.hid k1
  have l2 : (x : Int) * 1073741824 % 4294967296 + (x : Int) / 4 ≤ 4294967295 := by rw [← k1.out]; omega
  clear l1 hx
  go_enter Try.func63, Try.ntmps63
  go_wp2_with fail
  go_ret
  rw [k1.out]
  exact ⟨rfl, rfl⟩
set_option maxRecDepth 100000 in
set_option maxHeartbeats 2000000 in
theorem rnum_ok (v : Value) (len : Nat) (l : List Nat) (at_ n : Nat) (a b : Int) (hn1 : 1 ≤ n) (hn8 : n ≤ 7) (hat : at_ + n ≤ len) (hlen : len ≤ 1000000000000) (ha : a = at_) (hb : b = n) (w : World) (hv : SB w v len l) :
    Calls Try.prog 62 #[v, .int .i64 a, .int .i64 b] w fun e w' => e = .returned (.int .u64 (numB ((l.drop at_).take n) : Nat)) ∧ w = w' := by
  subst ha
  subst hb
  obtain ⟨g, o, cap, rfl, hc, hm, hg, hcell⟩ := hv.form (by omega)
  have hby := Lib.hid hv.2.1
  have hll := Lib.hid hv.1
  unfold maxLen at hm
  replace hcell := Lib.hid hcell
  clear hv
  go_enter Try.func62, Try.ntmps62
  go_wp2_with fail
  go_loop [7, 8, 9] (fun x p i => ∃ k : Nat, k ≤ n ∧ i = .int .i64 ((at_ + n - k : Nat) - 1 : Int) ∧ p = .int .u64 (256 ^ k : Nat) ∧ x = .int .u64 (numB ((l.drop (at_ + n - k)).take k) : Nat)) (fun _ _ i => (intOf i + 1 - at_).toNat)
  case atStart => exact ⟨0, by omega, by simp, rfl, by simp [numB]⟩
  case round =>
    obtain ⟨k, hk, rfl, rfl, rfl⟩ := hrel
    by_cases hkn : k < n
    · have hc1 := hcell.out (at_ + n - k - 1) (by omega)
      have hnl : (((l.drop (at_ + n - k)).take k)).length = k := by rw [List.length_take, List.length_drop, hll.out]; omega
      have hlt : numB ((l.drop (at_ + n - k)).take k) < 256 ^ k := by
        have h1 := numB_lt ((l.drop (at_ + n - k)).take k) (fun x hx => hby.out x (List.mem_of_mem_drop (List.mem_of_mem_take hx)))
        rw [hnl] at h1; exact h1
      have hp : 256 ^ k ≤ 256 ^ 6 := Nat.pow_le_pow_right (by omega) (by omega)
      have hy := ByL.get hby.out (at_ + n - k - 1)
      have hnx : Hid (numB ((l.drop (at_ + n - (k + 1))).take (k + 1)) = 256 ^ k * l.getD (at_ + n - k - 1) 0 + numB ((l.drop (at_ + n - k)).take k)) := by
        have hd : (l.drop (at_ + n - (k + 1))).take (k + 1) = l.getD (at_ + n - k - 1) 0 :: (l.drop (at_ + n - k)).take k := by
          rw [List.drop_eq_getElem_cons (by rw [hll.out]; omega), List.take_succ_cons]
          congr 1
          · simp [List.getD_eq_getElem?_getD, List.getElem?_eq_getElem (show at_ + n - k - 1 < l.length by rw [hll.out]; omega)]
            rfl
          · congr 2; omega
        rw [Hid, hd, numB_cons, hnl]
      have hpn : Hid (256 ^ (k + 1) = 256 ^ k * 256) := Nat.pow_succ ..
      clear hnl
      generalize numB ((l.drop (at_ + n - k)).take k) = x at *
      generalize l.getD (at_ + n - k - 1) 0 = y at *
      generalize 256 ^ k = p at *
      have hmul : p * y ≤ p * 255 := Nat.mul_le_mul_left _ (by omega)
      have hmi : ((p : Int) * (y : Int)) = ((p * y : Nat) : Int) := by push_cast; rfl
      generalize hpy : p * y = py at *
      have e1 : (((at_ + n - k : Nat) : Int) - 1) = ((at_ + n - k - 1 : Nat) : Int) := by omega
      rw [e1]
      go_wp2_with fail
      go_round
      case rel => exact ⟨k + 1, by omega, congrArg _ (by omega), by rw [hpn.out]; push_cast; rfl, by rw [hnx.out]; exact congrArg _ (by push_cast; omega)⟩
      case measure => simp [intOf]; omega
    · obtain rfl : k = n := by omega
      have e1 : (((at_ + k - k : Nat) : Int) - 1) = (at_ : Int) - 1 := by omega
      rw [e1]
      go_wp2_with fail
      go_ret
      exact ⟨rfl, rfl⟩
end Go.Proofs.Ytjjemkfkpnemoaa
