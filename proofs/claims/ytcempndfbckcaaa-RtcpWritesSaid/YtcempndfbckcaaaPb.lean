/- Numbers as bytes, and back. Nothing of the program; no condition. -/
import Derived.Test.YtcempndfbckcaaaGKi
namespace Go.Proofs.Ytcempndfbckcaaa
open Go.RowKit
theorem numB_foldl (l : List Nat) : ∀ a, l.foldl (fun x c => x * 256 + c) a = a * 256 ^ l.length + numB l := by
 induction l with
 | nil => intro a; simp [numB]
 | cons c l ih =>
  intro a
  have h0 := ih c
  have h1 := ih (a * 256 + c)
  simp only [numB, List.foldl_cons, List.length_cons, Nat.zero_mul, Nat.zero_add] at h0 h1 ⊢
  rw [h1, h0, Nat.pow_succ, Nat.add_mul, Nat.mul_assoc, Nat.mul_comm 256, Nat.add_assoc]
theorem numB_cons (c : Nat) (l : List Nat) : numB (c :: l) = 256 ^ l.length * c + numB l := by
 have := numB_foldl l c
 simp only [numB, List.foldl_cons, Nat.zero_mul, Nat.zero_add] at this ⊢
 rw [this, Nat.mul_comm]
theorem putB_cons (n x : Nat) : putB (n + 1) x = x / 256 ^ n % 256 :: putB n x := by
 unfold putB
 rw [List.range_succ_eq_map, List.map_cons, List.map_map]
 simp only [Nat.add_sub_cancel, Nat.sub_zero, List.cons.injEq, true_and]
 refine List.map_congr_left fun i hi => ?_
 have := List.mem_range.1 hi
 simp only [Function.comp, Nat.succ_eq_add_one]
 rw [show n - (i + 1) = n - 1 - i by omega]
theorem putB_add (a x : Nat) : ∀ n, n ≤ a → ∀ y, putB n (x * 256 ^ a + y) = putB n y
 | 0, _, _ => rfl
 | n + 1, h, y => by
  rw [putB_cons, putB_cons, putB_add a x n (by omega) y]
  congr 1
  rw [show a = n + 1 + (a - n - 1) by omega, Nat.pow_add, Nat.pow_succ]
  rw [show x * (256 ^ n * 256 * 256 ^ (a - n - 1)) = 256 ^ n * (256 * (x * 256 ^ (a - n - 1))) by ac_rfl, Nat.mul_add_div (Nat.pow_pos (by decide)), Nat.mul_add_mod]
theorem putB_split (b : Nat) (x z : Nat) (hz : z < 256 ^ b) : ∀ a, putB (a + b) (x * 256 ^ b + z) = putB a x ++ putB b z
 | 0 => by rw [Nat.zero_add, putB_add b x b (Nat.le_refl _)]; rfl
 | a + 1 => by
  rw [show a + 1 + b = (a + b) + 1 by omega, putB_cons, putB_cons, putB_split b x z hz a, List.cons_append]
  congr 2
  rw [Nat.add_comm a b, Nat.pow_add, ← Nat.div_div_eq_div_mul, Nat.mul_comm x, Nat.mul_add_div (Nat.pow_pos (by decide)), Nat.div_eq_of_lt hz, Nat.add_zero]
theorem numB_putB (n x : Nat) : numB (putB n x) = x % 256 ^ n := by
 induction n with
 | zero => simp [putB, numB]; omega
 | succ n ih =>
  rw [putB_cons, numB_cons, ih, putB_len, Nat.pow_succ, Nat.mod_mul]
  omega
theorem putB_mod (n x : Nat) : putB n (x % 256 ^ n) = putB n x := by
 conv => rhs; rw [← Nat.div_add_mod x (256 ^ n), Nat.mul_comm, putB_add n _ n (Nat.le_refl _)]
end Go.Proofs.Ytcempndfbckcaaa
