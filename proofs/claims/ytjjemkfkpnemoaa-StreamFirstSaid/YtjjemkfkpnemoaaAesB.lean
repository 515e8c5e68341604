import Derived.Test.YtjjemkfkpnemoaaAesA
namespace Go.Proofs.Ytjjemkfkpnemoaa
open Go.RowKit

theorem rot_any (q n : Nat) (hq : q < 256) (hn : 1 ≤ n ∧ n ≤ 4) (w : World) :
    Calls Try.prog 53 #[.int .u8 (q : Nat), .int .i64 (n : Nat)] w fun e w' => e = .returned (.int .u8 (rotl8 q n : Nat)) ∧ w' = w := by
  have key : ∀ m : Nat, 1 ≤ m → m ≤ 4 → bits .or .u8 ((q : Int) * ((2 ^ m : Nat) : Int) % 256) ((q : Int) / ((2 ^ (8 - m) : Nat) : Int)) = (rotl8 q m : Nat) := by
    intro m h1 h2
    have e1 : ((q : Int) * ((2 ^ m : Nat) : Int) % 256) = ((q * 2 ^ m % 256 : Nat) : Int) := by simp
    have e2 : ((q : Int) / ((2 ^ (8 - m) : Nat) : Int)) = ((q / 2 ^ (8 - m) : Nat) : Int) := by simp
    rw [e1, e2, u8_or_nat _ _ (by omega) (Nat.lt_of_le_of_lt (Nat.div_le_self _ _) hq)]
    unfold rotl8
    rw [Nat.shiftLeft_eq, Nat.shiftRight_eq_div_pow]
  have k1 := key 1 (by omega) (by omega)
  have k2 := key 2 (by omega) (by omega)
  have k3 := key 3 (by omega) (by omega)
  have k4 := key 4 (by omega) (by omega)
  simp only [Nat.reducePow, Nat.reduceSub] at k1 k2 k3 k4
  clear key
  have n1 : bits .and .u64 1 7 = 1 := by decide
  have n2 : bits .and .u64 2 7 = 2 := by decide
  have n3 : bits .and .u64 3 7 = 3 := by decide
  have n4 : bits .and .u64 4 7 = 4 := by decide
  have hq2 : (q : Int) ≤ 255 := by omega
  obtain rfl | rfl | rfl | rfl : n = 1 ∨ n = 2 ∨ n = 3 ∨ n = 4 := by omega
  all_goals
    go_enter Try.func53, Try.ntmps53
    go_wp2
  all_goals go_ret
  all_goals exact ⟨congrArg (fun x => Ending.returned (.int .u8 x)) (by first | exact k1 | exact k2 | exact k3 | exact k4), rfl⟩
end Go.Proofs.Ytjjemkfkpnemoaa
