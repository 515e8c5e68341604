import Derived.Test.YtjjemkfkpnemoaaAesB
import Derived.IntWalk
namespace Go.Proofs.Ytjjemkfkpnemoaa
open Go.RowKit

theorem ofInt_i64 (a : Nat) (ha : a < 4611686018427387904) : (BitVec.ofInt 64 (a : Int)).toNat = a := ofInt_u64 a (by omega)
theorem i64_xor_nat (a b : Nat) (ha : a < 4611686018427387904) (hb : b < 4611686018427387904) : bits .xor .i64 (a : Int) (b : Int) = ((a ^^^ b : Nat) : Int) := by
  have hx : a ^^^ b < 2 ^ 62 := Nat.xor_lt_two_pow (by omega) (by omega)
  show IntKind.i64.wrap ((BitVec.ofInt 64 (a : Int) ^^^ BitVec.ofInt 64 (b : Int)).toNat : Int) = _
  rw [BitVec.toNat_xor, ofInt_i64 a ha, ofInt_i64 b hb]
  exact IntWalk.i64_in _ (by omega)
theorem i64_and_nat (a b : Nat) (ha : a < 4611686018427387904) (hb : b < 4611686018427387904) : bits .and .i64 (a : Int) (b : Int) = ((a &&& b : Nat) : Int) := by
  have hx : a &&& b < 2 ^ 62 := Nat.and_lt_two_pow _ (by omega)
  show IntKind.i64.wrap ((BitVec.ofInt 64 (a : Int) &&& BitVec.ofInt 64 (b : Int)).toNat : Int) = _
  rw [BitVec.toNat_and, ofInt_i64 a ha, ofInt_i64 b hb]
  exact IntWalk.i64_in _ (by omega)

theorem mulI_lt (a b : Nat) (ha : a < 256) : ∀ k, k ≤ 8 → mulI k a b < 32768
  | 0, _ => by simp [mulI]
  | k + 1, hk => by
    have h1 := mulI_lt a b ha k (by omega)
    rw [mulI]
    split
    · refine Nat.xor_lt_two_pow (n := 15) h1 ?_
      rw [Nat.shiftLeft_eq]
      have : 2 ^ k ≤ 2 ^ 7 := Nat.pow_le_pow_right (by omega) (by omega)
      calc a * 2 ^ k ≤ a * 2 ^ 7 := Nat.mul_le_mul_left _ this
        _ < 2 ^ 15 := by omega
    · exact h1

theorem bit_and1 (x : Nat) (hx : x < 256) : (bits .and .u8 (x : Int) 1 == 1) = x.testBit 0 := by
  rw [show (1 : Int) = ((1 : Nat) : Int) from rfl, u8_and_nat x 1 hx (by omega), Nat.and_one_is_mod, Nat.testBit_zero]
  rcases Nat.mod_two_eq_zero_or_one x with h | h <;> simp [h]
theorem bit_at (b k : Nat) (hb : b < 256) : (bits .and .u8 ((b : Int) / ((2 ^ k : Nat) : Int)) 1 == 1) = b.testBit k := by
  have e : (b : Int) / ((2 ^ k : Nat) : Int) = ((b / 2 ^ k : Nat) : Int) := by simp
  rw [e, bit_and1 _ (Nat.lt_of_le_of_lt (Nat.div_le_self _ _) hb), ← Nat.shiftRight_eq_div_pow, Nat.testBit_shiftRight]
  simp
theorem bit_and1i (x : Nat) (hx : x < 65536) : (bits .and .i64 (x : Int) 1 == 1) = x.testBit 0 := by
  rw [show (1 : Int) = ((1 : Nat) : Int) from rfl, i64_and_nat x 1 (by omega) (by omega), Nat.and_one_is_mod, Nat.testBit_zero]
  rcases Nat.mod_two_eq_zero_or_one x with h | h <;> simp [h]
theorem bit_ati (b k : Nat) (hb : b < 65536) : (bits .and .i64 ((b : Int) / ((2 ^ k : Nat) : Int)) 1 == 1) = b.testBit k := by
  have e : (b : Int) / ((2 ^ k : Nat) : Int) = ((b / 2 ^ k : Nat) : Int) := by simp
  rw [e, bit_and1i _ (Nat.lt_of_le_of_lt (Nat.div_le_self _ _) hb), ← Nat.shiftRight_eq_div_pow, Nat.testBit_shiftRight]
  simp

/-- The reduction, step by step, from bit 14 down to below bit i. -/
def redTo : Nat → Nat → Nat
  | 0, x => x
  | j + 1, x => rstep (14 - j) (redTo j x)
theorem redTo_7 (x : Nat) : redTo 7 x = red x := rfl
theorem redTo_lt (x : Nat) (hx : x < 32768) : ∀ j, j ≤ 7 → redTo j x < 32768
  | 0, _ => hx
  | j + 1, hj => by
    have := redTo_lt x hx j (by omega)
    rw [redTo, rstep]
    split
    · refine Nat.xor_lt_two_pow (n := 15) this ?_
      rw [Nat.shiftLeft_eq]
      have : 2 ^ (14 - j - 8) ≤ 2 ^ 6 := Nat.pow_le_pow_right (by omega) (by omega)
      omega
    · exact this

set_option maxRecDepth 100000 in
set_option maxHeartbeats 4000000 in
theorem rtimes_any (a b : Nat) (ha : a < 256) (hb : b < 256) (w : World) :
    Calls Try.prog 19 #[.int .u8 (a : Nat), .int .u8 (b : Nat)] w fun e w' => e = .returned (.int .u8 (timesP a b : Nat)) ∧ w' = w := by
  have ha2 : (a : Int) ≤ 255 := by omega
  have hb2 : (b : Int) ≤ 255 := by omega
  go_enter Try.func19, Try.ntmps19
  go_wp2_with fail
  go_loop [5, 6] (fun x i => ∃ k : Nat, k ≤ 8 ∧ x = .int .i64 (mulI k a b : Nat) ∧ i = .int .i64 (k : Nat)) (fun _ i => (8 - intOf i).toNat)
  case atStart => exact ⟨0, by omega, rfl, rfl⟩
  case round =>
    obtain ⟨k, hk, rfl, rfl⟩ := hrel
    by_cases hk8 : k < 8
    · have hm := mulI_lt a b ha k hk
      have hbk := bit_at b k hb
      have hp : Hid (mulI (k + 1) a b = if b.testBit k then mulI k a b ^^^ (a <<< k) else mulI k a b) := rfl
      have hx := Lib.hid (fun y (hy : y = ((a <<< k : Nat) : Int)) => (show bits .xor .i64 (mulI k a b : Nat) y = ((mulI k a b ^^^ (a <<< k) : Nat) : Int) from by
        rw [hy]; exact i64_xor_nat _ _ (by omega) (by
          rw [Nat.shiftLeft_eq]
          have : 2 ^ k ≤ 2 ^ 7 := Nat.pow_le_pow_right (by omega) (by omega)
          have := Nat.mul_le_mul_left a this
          omega)))
      generalize mulI k a b = m at *
      by_cases hbit : b.testBit k = true
      all_goals
        first | (replace hbit : b.testBit k = false := by simpa using hbit) | skip
        rw [hbit] at hbk
        replace hbit := Lib.hid hbit
        obtain rfl | rfl | rfl | rfl | rfl | rfl | rfl | rfl : k = 0 ∨ k = 1 ∨ k = 2 ∨ k = 3 ∨ k = 4 ∨ k = 5 ∨ k = 6 ∨ k = 7 := by omega
      all_goals push_cast at hbk
      all_goals try (have hbk0 := bit_and1 b hb; rw [hbit.out] at hbk0)
      all_goals go_wp2
      all_goals first | exact ⟨⟨1, by omega, by first | (rw [show mulI 1 a b = _ from hp.out, if_pos hbit.out]; exact congrArg (Value.int .i64) (hx.out _ (by rw [Nat.shiftLeft_eq]; push_cast; omega))) | (rw [show mulI 1 a b = _ from hp.out, if_neg (by rw [hbit.out]; simp)]), rfl⟩, by decide⟩ | exact ⟨⟨2, by omega, by first | (rw [show mulI 2 a b = _ from hp.out, if_pos hbit.out]; exact congrArg (Value.int .i64) (hx.out _ (by rw [Nat.shiftLeft_eq]; push_cast; omega))) | (rw [show mulI 2 a b = _ from hp.out, if_neg (by rw [hbit.out]; simp)]), rfl⟩, by decide⟩ | exact ⟨⟨3, by omega, by first | (rw [show mulI 3 a b = _ from hp.out, if_pos hbit.out]; exact congrArg (Value.int .i64) (hx.out _ (by rw [Nat.shiftLeft_eq]; push_cast; omega))) | (rw [show mulI 3 a b = _ from hp.out, if_neg (by rw [hbit.out]; simp)]), rfl⟩, by decide⟩ | exact ⟨⟨4, by omega, by first | (rw [show mulI 4 a b = _ from hp.out, if_pos hbit.out]; exact congrArg (Value.int .i64) (hx.out _ (by rw [Nat.shiftLeft_eq]; push_cast; omega))) | (rw [show mulI 4 a b = _ from hp.out, if_neg (by rw [hbit.out]; simp)]), rfl⟩, by decide⟩ | exact ⟨⟨5, by omega, by first | (rw [show mulI 5 a b = _ from hp.out, if_pos hbit.out]; exact congrArg (Value.int .i64) (hx.out _ (by rw [Nat.shiftLeft_eq]; push_cast; omega))) | (rw [show mulI 5 a b = _ from hp.out, if_neg (by rw [hbit.out]; simp)]), rfl⟩, by decide⟩ | exact ⟨⟨6, by omega, by first | (rw [show mulI 6 a b = _ from hp.out, if_pos hbit.out]; exact congrArg (Value.int .i64) (hx.out _ (by rw [Nat.shiftLeft_eq]; push_cast; omega))) | (rw [show mulI 6 a b = _ from hp.out, if_neg (by rw [hbit.out]; simp)]), rfl⟩, by decide⟩ | exact ⟨⟨7, by omega, by first | (rw [show mulI 7 a b = _ from hp.out, if_pos hbit.out]; exact congrArg (Value.int .i64) (hx.out _ (by rw [Nat.shiftLeft_eq]; push_cast; omega))) | (rw [show mulI 7 a b = _ from hp.out, if_neg (by rw [hbit.out]; simp)]), rfl⟩, by decide⟩ | exact ⟨⟨8, by omega, by first | (rw [show mulI 8 a b = _ from hp.out, if_pos hbit.out]; exact congrArg (Value.int .i64) (hx.out _ (by rw [Nat.shiftLeft_eq]; push_cast; omega))) | (rw [show mulI 8 a b = _ from hp.out, if_neg (by rw [hbit.out]; simp)]), rfl⟩, by decide⟩
    · obtain rfl : k = 8 := by omega
      have hm := mulI_lt a b ha 8 (by omega)
      have hfin : Hid (timesP a b = red (mulI 8 a b)) := (times_eq a b ha).symm
      generalize mulI 8 a b = M at *
      go_wp2_with fail
      go_loop [5, 7] (fun x i => ∃ k : Nat, k ≤ 7 ∧ x = .int .i64 (redTo k M : Nat) ∧ i = .int .i64 (14 - (k : Nat) : Int)) (fun _ i => (intOf i).toNat)
      case atStart => exact ⟨0, by omega, rfl, rfl⟩
      case round =>
        obtain ⟨k, hk, rfl, rfl⟩ := hrel
        have hlt := redTo_lt M hm k hk
        by_cases hk7 : k < 7
        · have hbk := bit_ati (redTo k M) (14 - k) (by omega)
          have hp : Hid (redTo (k + 1) M = if (redTo k M).testBit (14 - k) then redTo k M ^^^ (283 <<< (14 - k - 8)) else redTo k M) := rfl
          have hx := Lib.hid (fun y (hy : y = ((283 <<< (14 - k - 8) : Nat) : Int)) => (show bits .xor .i64 (redTo k M : Nat) y = ((redTo k M ^^^ (283 <<< (14 - k - 8)) : Nat) : Int) from by
            rw [hy]; exact i64_xor_nat _ _ (by omega) (by
              rw [Nat.shiftLeft_eq]
              have : 2 ^ (14 - k - 8) ≤ 2 ^ 6 := Nat.pow_le_pow_right (by omega) (by omega)
              omega)))
          generalize redTo k M = m at *
          by_cases hbit : m.testBit (14 - k) = true
          all_goals
            first | (replace hbit : m.testBit (14 - k) = false := by simpa using hbit) | skip
            rw [hbit] at hbk
            replace hbit := Lib.hid hbit
            obtain rfl | rfl | rfl | rfl | rfl | rfl | rfl : k = 0 ∨ k = 1 ∨ k = 2 ∨ k = 3 ∨ k = 4 ∨ k = 5 ∨ k = 6 := by omega
          all_goals push_cast at hbk
          all_goals go_wp2
          all_goals first | exact ⟨⟨1, by omega, by first | (rw [show redTo 1 M = _ from hp.out, if_pos hbit.out]; exact congrArg (Value.int .i64) (hx.out _ (by decide))) | (rw [show redTo 1 M = _ from hp.out, if_neg (by rw [hbit.out]; simp)]), rfl⟩, by decide⟩ | exact ⟨⟨2, by omega, by first | (rw [show redTo 2 M = _ from hp.out, if_pos hbit.out]; exact congrArg (Value.int .i64) (hx.out _ (by decide))) | (rw [show redTo 2 M = _ from hp.out, if_neg (by rw [hbit.out]; simp)]), rfl⟩, by decide⟩ | exact ⟨⟨3, by omega, by first | (rw [show redTo 3 M = _ from hp.out, if_pos hbit.out]; exact congrArg (Value.int .i64) (hx.out _ (by decide))) | (rw [show redTo 3 M = _ from hp.out, if_neg (by rw [hbit.out]; simp)]), rfl⟩, by decide⟩ | exact ⟨⟨4, by omega, by first | (rw [show redTo 4 M = _ from hp.out, if_pos hbit.out]; exact congrArg (Value.int .i64) (hx.out _ (by decide))) | (rw [show redTo 4 M = _ from hp.out, if_neg (by rw [hbit.out]; simp)]), rfl⟩, by decide⟩ | exact ⟨⟨5, by omega, by first | (rw [show redTo 5 M = _ from hp.out, if_pos hbit.out]; exact congrArg (Value.int .i64) (hx.out _ (by decide))) | (rw [show redTo 5 M = _ from hp.out, if_neg (by rw [hbit.out]; simp)]), rfl⟩, by decide⟩ | exact ⟨⟨6, by omega, by first | (rw [show redTo 6 M = _ from hp.out, if_pos hbit.out]; exact congrArg (Value.int .i64) (hx.out _ (by decide))) | (rw [show redTo 6 M = _ from hp.out, if_neg (by rw [hbit.out]; simp)]), rfl⟩, by decide⟩ | exact ⟨⟨7, by omega, by first | (rw [show redTo 7 M = _ from hp.out, if_pos hbit.out]; exact congrArg (Value.int .i64) (hx.out _ (by decide))) | (rw [show redTo 7 M = _ from hp.out, if_neg (by rw [hbit.out]; simp)]), rfl⟩, by decide⟩
        · obtain rfl : k = 7 := by omega
          rw [redTo_7]
          have hr : red M < 256 := by rw [← hfin.out]; exact timesP_lt a b ha
          go_wp2
          go_ret
          exact ⟨by rw [hfin.out]; rfl, rfl⟩
end Go.Proofs.Ytjjemkfkpnemoaa
