/- The reference's numbers and turned words. No condition but the sizes'. -/
import Derived.Test.YtcempndfbckcaaaRfN
namespace Go.Proofs.Ytcempndfbckcaaa
open Go.RowKit

theorem rol_sum (x m : Nat) (h1 : 1 ≤ m) (h2 : m ≤ 31) (hx : x < 4294967296) : rol x m = x * 2 ^ m % 4294967296 + x / 2 ^ (32 - m) := by
  unfold rol
  rw [Nat.shiftLeft_eq, Nat.shiftRight_eq_div_pow]
  have e : (4294967296 : Nat) = 2 ^ (32 - m) * 2 ^ m := by rw [← Nat.pow_add, show 32 - m + m = 32 by omega]
  have hlo : x / 2 ^ (32 - m) < 2 ^ m := by
    rw [Nat.div_lt_iff_lt_mul (Nat.pow_pos (by decide)), Nat.mul_comm, ← e]; exact hx
  have hhi : x * 2 ^ m % 4294967296 = 2 ^ m * (x % 2 ^ (32 - m)) := by
    rw [e, Nat.mul_mod_mul_right, Nat.mul_comm]
  rw [hhi]
  exact (Nat.two_pow_add_eq_or_of_lt hlo _).symm
theorem rol_int (x m : Nat) (h1 : 1 ≤ m) (h2 : m ≤ 31) (hx : x < 4294967296) : (rol x m : Int) = (x : Int) * ((2 ^ m : Nat) : Int) % 4294967296 + (x : Int) / ((2 ^ (32 - m) : Nat) : Int) := by
  rw [rol_sum x m h1 h2 hx, Int.natCast_add, Int.natCast_emod, Int.natCast_mul, Int.natCast_ediv]
  rfl

set_option maxRecDepth 100000 in
set_option maxHeartbeats 1000000 in
theorem left_1 (x : Nat) (hx : x < 4294967296) (w : World) :
    Calls Try.prog 143 #[.int .u32 (x : Nat), .int .u64 1] w fun e w' => e = .returned (.int .u32 (rol x 1 : Nat)) ∧ w = w' := by
  have k1 : (rol x 1 : Int) = (x : Int) * 2 % 4294967296 + (x : Int) / 2147483648 := by
    have h := rol_int x 1 (by omega) (by omega) hx
    simp only [Nat.reducePow, Nat.reduceSub] at h
    exact h
  have l1 := rol_lt x 1 hx
  replace k1 := Lib.hid k1
  have l2 : (x : Int) * 2 % 4294967296 + (x : Int) / 2147483648 ≤ 4294967295 := by rw [← k1.out]; omega
  clear l1 hx
  go_enter Try.func143, Try.ntmps143
  go_wp2_with fail
  go_ret
  rw [k1.out]
  exact ⟨rfl, rfl⟩
set_option maxRecDepth 100000 in
set_option maxHeartbeats 1000000 in
theorem left_5 (x : Nat) (hx : x < 4294967296) (w : World) :
    Calls Try.prog 143 #[.int .u32 (x : Nat), .int .u64 5] w fun e w' => e = .returned (.int .u32 (rol x 5 : Nat)) ∧ w = w' := by
  have k1 : (rol x 5 : Int) = (x : Int) * 32 % 4294967296 + (x : Int) / 134217728 := by
    have h := rol_int x 5 (by omega) (by omega) hx
    simp only [Nat.reducePow, Nat.reduceSub] at h
    exact h
  have l1 := rol_lt x 5 hx
  replace k1 := Lib.hid k1
  have l2 : (x : Int) * 32 % 4294967296 + (x : Int) / 134217728 ≤ 4294967295 := by rw [← k1.out]; omega
  clear l1 hx
  go_enter Try.func143, Try.ntmps143
  go_wp2_with fail
  go_ret
  rw [k1.out]
  exact ⟨rfl, rfl⟩
set_option maxRecDepth 100000 in
set_option maxHeartbeats 1000000 in
theorem left_30 (x : Nat) (hx : x < 4294967296) (w : World) :
    Calls Try.prog 143 #[.int .u32 (x : Nat), .int .u64 30] w fun e w' => e = .returned (.int .u32 (rol x 30 : Nat)) ∧ w = w' := by
  have k1 : (rol x 30 : Int) = (x : Int) * 1073741824 % 4294967296 + (x : Int) / 4 := by
    have h := rol_int x 30 (by omega) (by omega) hx
    simp only [Nat.reducePow, Nat.reduceSub] at h
    exact h
  have l1 := rol_lt x 30 hx
  replace k1 := Lib.hid k1
  have l2 : (x : Int) * 1073741824 % 4294967296 + (x : Int) / 4 ≤ 4294967295 := by rw [← k1.out]; omega
  clear l1 hx
  go_enter Try.func143, Try.ntmps143
  go_wp2_with fail
  go_ret
  rw [k1.out]
  exact ⟨rfl, rfl⟩
end Go.Proofs.Ytcempndfbckcaaa
