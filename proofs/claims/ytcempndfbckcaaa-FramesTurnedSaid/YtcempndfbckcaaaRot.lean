/- math/bits.RotateLeft32 by the counts that are used. No condition but these. -/
import Derived.Test.YtcempndfbckcaaaPre
namespace Go.Proofs.Ytcempndfbckcaaa
open Go.RowKit

set_option maxHeartbeats 1000000 in
theorem rol_any (x n : Nat) (hx : x < 4294967296) (hn : n = 1 ∨ n = 5 ∨ n = 30) (w : World) :
    Calls Try.prog 153 #[.int .u32 (x : Nat), .int .i64 (n : Nat)] w fun e w' => e = .returned (.int .u32 (rol x n : Nat)) ∧ w = w' := by
  have key : ∀ m : Nat, 1 ≤ m → m ≤ 31 → bits .or .u32 ((x : Int) * ((2 ^ m : Nat) : Int) % 4294967296) ((x : Int) / ((2 ^ (32 - m) : Nat) : Int)) = (rol x m : Nat) := by
    intro m h1 h2
    have e1 : ((x : Int) * ((2 ^ m : Nat) : Int) % 4294967296) = ((x * 2 ^ m % 4294967296 : Nat) : Int) := by simp
    have e2 : ((x : Int) / ((2 ^ (32 - m) : Nat) : Int)) = ((x / 2 ^ (32 - m) : Nat) : Int) := by simp
    rw [e1, e2, u32_or_nat _ _ (by omega) (Nat.lt_of_le_of_lt (Nat.div_le_self _ _) hx)]
    unfold rol
    rw [Nat.shiftLeft_eq, Nat.shiftRight_eq_div_pow]
  have k1 := key 1 (by omega) (by omega)
  have k2 := key 5 (by omega) (by omega)
  have k3 := key 30 (by omega) (by omega)
  simp only [Nat.reducePow, Nat.reduceSub] at k1 k2 k3
  clear key
  have n1 : bits .and .u64 1 31 = 1 := by decide
  have n2 : bits .and .u64 5 31 = 5 := by decide
  have n3 : bits .and .u64 30 31 = 30 := by decide
  have hq2 : (x : Int) ≤ 4294967295 := by omega
  obtain rfl | rfl | rfl := hn
  all_goals
    go_enter Try.func153, Try.ntmps153
    go_wp2
  all_goals go_ret
  all_goals exact ⟨congrArg (fun x => Ending.returned (.int .u32 x)) (by first | exact k1 | exact k2 | exact k3), rfl⟩
end Go.Proofs.Ytcempndfbckcaaa
