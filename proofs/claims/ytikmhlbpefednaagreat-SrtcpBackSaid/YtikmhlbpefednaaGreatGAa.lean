/- Plain laws on the cipher's bytes (numbers below 256): no program in sight. -/
import Derived.Test.YtikmhlbpefednaaGreatRows
import Derived.Test.YtikmhlbpefednaaGreatGBa
import Derived.Laws.BitsAllLaws
import Derived.Laws.Rows
import Derived.Laws.Tables
import Derived.IntWalk
import Derived.Deep.LoopGhost
import Derived.StillTailTactics
import Derived.Deep.WholeRow
namespace Go.Proofs.YtikmhlbpefednaaGreat
def dbl (a : Nat) : Nat := if a.testBit 7 then (2 * a % 256) ^^^ 27 else 2 * a % 256
def tstep (s : Nat × Nat × Nat) : Nat × Nat × Nat := (if s.2.2.testBit 0 then s.1 ^^^ s.2.1 else s.1, dbl s.2.1, s.2.2 / 2)
def titer : Nat → Nat × Nat × Nat → Nat × Nat × Nat
 | 0, s => s
 | k + 1, s => tstep (titer k s)
def timesP (a b : Nat) : Nat := (titer 8 (0, a, b)).1
def mulI : Nat → Nat → Nat → Nat
 | 0, _, _ => 0
 | k + 1, a, b => if b.testBit k then mulI k a b ^^^ (a <<< k) else mulI k a b
def rstep (i x : Nat) : Nat := if x.testBit i then x ^^^ (283 <<< (i - 8)) else x
def red (x : Nat) : Nat := rstep 8 (rstep 9 (rstep 10 (rstep 11 (rstep 12 (rstep 13 (rstep 14 x))))))
def timesR (a b : Nat) : Nat := red (mulI 8 a b)
theorem rstep_xor (i x y : Nat) : rstep i (x ^^^ y) = rstep i x ^^^ rstep i y := by
 unfold rstep
 rw [Nat.testBit_xor]
 cases x.testBit i <;> cases y.testBit i <;> simp
 ·rw [Nat.xor_assoc]
 ·rw [Nat.xor_assoc, Nat.xor_comm y, ← Nat.xor_assoc]
 ·rw [Nat.xor_assoc, Nat.xor_comm _ (y ^^^ _), Nat.xor_assoc, Nat.xor_self, Nat.xor_zero]
theorem red_xor (x y : Nat) : red (x ^^^ y) = red x ^^^ red y := by
 unfold red; simp only [rstep_xor]
theorem red_zero : red 0 = 0 := by decide
def dpow : Nat → Nat → Nat
 | 0, a => a
 | k + 1, a => dbl (dpow k a)
theorem red_shift : ∀ a, a < 256 → ∀ k, k < 8 → red (a <<< k) = dpow k a := by
 have : (List.range 256).all (fun a => (List.range 8).all fun k => red (a <<< k) == dpow k a) = true := by decide +kernel
 intro a ha k hk
 have h1 := List.all_eq_true.1 this a (List.mem_range.2 ha)
 exact beq_iff_eq.1 (List.all_eq_true.1 h1 k (List.mem_range.2 hk))
def sumP : Nat → Nat → Nat → Nat
 | 0, _, _ => 0
 | k + 1, a, b => if b.testBit k then sumP k a b ^^^ dpow k a else sumP k a b
theorem titer_eq (a b : Nat) : ∀ k, titer k (0, a, b) = (sumP k a b, dpow k a, b >>> k)
 | 0 => rfl
 | k + 1 => by
  rw [titer, titer_eq a b k, tstep, sumP, dpow]
  simp only [Nat.shiftRight_succ]
  have : (b >>> k).testBit 0 = b.testBit k := by rw [Nat.testBit_shiftRight]; simp
  simp only [this]
theorem red_mulI (a b : Nat) (ha : a < 256) : ∀ k, k ≤ 8 → red (mulI k a b) = sumP k a b
 | 0, _ => red_zero
 | k + 1, hk => by
  rw [mulI, sumP]
  split
  ·rw [red_xor, red_mulI a b ha k (by omega), red_shift a ha k (by omega)]
  ·exact red_mulI a b ha k (by omega)
theorem times_eq (a b : Nat) (ha : a < 256) : timesR a b = timesP a b := by
 unfold timesR timesP
 rw [titer_eq, red_mulI a b ha 8 (Nat.le_refl _)]
theorem dbl_lt (a : Nat) : dbl a < 256 := by
 unfold dbl
 split
 ·exact Nat.xor_lt_two_pow (n := 8) (by omega) (by omega)
 ·omega
theorem sumP_lt (a b : Nat) (ha : a < 256) : ∀ k, sumP k a b < 256
 | 0 => by simp [sumP]
 | k + 1 => by
  have hd : ∀ k, dpow k a < 256 := fun k => by cases k with | zero => exact ha | succ k => exact dbl_lt _
  rw [sumP]
  split
  ·exact Nat.xor_lt_two_pow (n := 8) (sumP_lt a b ha k) (hd k)
  ·exact sumP_lt a b ha k
theorem timesP_lt (a b : Nat) (ha : a < 256) : timesP a b < 256 := by unfold timesP; rw [titer_eq]; exact sumP_lt a b ha 8
theorem sumP_stop (a b k : Nat) (h : b >>> k = 0) : ∀ j, sumP (k + j) a b = sumP k a b
 | 0 => rfl
 | j + 1 => by
  rw [show k + (j + 1) = (k + j) + 1 from rfl, sumP]
  have : b.testBit (k + j) = false := by
   have := congrArg (fun x => Nat.testBit x j) h
   simpa [Nat.testBit_shiftRight] using this
  rw [this]
  exact sumP_stop a b k h j
theorem timesP_stop (a b k : Nat) (hk : k ≤ 8) (h : b >>> k = 0) : timesP a b = (titer k (0, a, b)).1 := by
 unfold timesP
 rw [titer_eq, titer_eq]
 have := sumP_stop a b k h (8 - k)
 rw [show k + (8 - k) = 8 by omega] at this
 exact this
theorem dpow_lt (a : Nat) (ha : a < 256) : ∀ k, dpow k a < 256
 | 0 => ha
 | _ + 1 => dbl_lt _
def rotl8 (x n : Nat) : Nat := (x <<< n % 256) ||| (x >>> (8 - n))
end Go.Proofs.YtikmhlbpefednaaGreat

namespace Go.Proofs.YtikmhlbpefednaaGreat
open Go.RowKit
theorem byte_all (p : Int → Bool) (h : (List.range 256).all (fun n => p (n : Nat)) = true) (x : Int) (h0 : 0 ≤ x) (h1 : x ≤ 255) : p x = true := by
 obtain ⟨n, rfl⟩ := Int.eq_ofNat_of_zero_le h0
 exact List.all_eq_true.1 h n (List.mem_range.2 (by omega))
theorem double_any (a : Nat) (ha : a < 256) (w : World) :
  Calls Tryz.prog 161 #[.int .u8 (a : Nat)] w fun e w' => e = .returned (.int .u8 (dbl a : Nat)) ∧ w' = w := by
 by_cases h : a.testBit 7 = true
 ·have hb : (bits .and .u8 (a : Int) 128 != 0) = true := by
   rw [show (128 : Int) = ((128 : Nat) : Int) from rfl, u8_and_nat a 128 ha (by omega)]
   have := byte_all (fun x => !(x.toNat.testBit 7) || (((x.toNat &&& 128 : Nat) : Int) != 0)) (by decide +kernel) a (by omega) (by omega)
   simpa [h] using this
  have hv : bits .xor .u8 ((a : Int) * 2 % 256) 27 = (dbl a : Nat) := by
   have e : ((a : Int) * 2 % 256) = ((2 * a % 256 : Nat) : Int) := by omega
   rw [e, show (27 : Int) = ((27 : Nat) : Int) from rfl, u8_xor_nat _ _ (by omega) (by omega)]
   unfold dbl; rw [if_pos h]
  go_enter Tryz.func161, Tryz.ntmps161
  go_wp2
  go_ret
  exact ⟨rfl, rfl⟩
 ·have hb : (bits .and .u8 (a : Int) 128 != 0) = false := by
   rw [show (128 : Int) = ((128 : Nat) : Int) from rfl, u8_and_nat a 128 ha (by omega)]
   have := byte_all (fun x => (x.toNat.testBit 7) || (((x.toNat &&& 128 : Nat) : Int) == 0)) (by decide +kernel) a (by omega) (by omega)
   simpa [h] using this
  have hv : (a : Int) * 2 % 256 = (dbl a : Nat) := by
   unfold dbl; rw [if_neg h]; omega
  go_enter Tryz.func161, Tryz.ntmps161
  go_wp2
  go_ret
  exact ⟨by show Ending.returned (.int .u8 ((a : Int) * 2 % 256)) = _; rw [hv], rfl⟩
theorem bit0 (b : Nat) (hb : b < 256) : (bits .and .u8 (b : Int) 1 != 0) = b.testBit 0 := by
 rw [show (1 : Int) = ((1 : Nat) : Int) from rfl, u8_and_nat b 1 hb (by omega), Nat.and_one_is_mod, Nat.testBit_zero]
 have h2 := Nat.mod_two_eq_zero_or_one b
 rcases h2 with h | h <;> simp [h]
set_option maxHeartbeats 1000000 in
theorem times_any (a b : Nat) (ha : a < 256) (hb : b < 256) (w : World) :
  Calls Tryz.prog 159 #[.int .u8 (a : Nat), .int .u8 (b : Nat)] w fun e w' => e = .returned (.int .u8 (timesP a b : Nat)) ∧ w' = w := by
 go_enter Tryz.func159, Tryz.ntmps159
 go_wp2_with fail
 go_loop [5, 0, 1] (fun o x y => ∃ k : Nat, k ≤ 8 ∧ o = .int .u8 (sumP k a b : Nat) ∧ x = .int .u8 (dpow k a : Nat) ∧ y = .int .u8 (b >>> k : Nat)) (fun _ _ y => (intOf y).toNat)
 case atStart => exact ⟨0, by omega, rfl, rfl, rfl⟩
 case round =>
  obtain ⟨k, hk, rfl, rfl, rfl⟩ := hrel
  by_cases hz : b >>> k = 0
  ·have hst := Lib.hid (timesP_stop a b k hk hz)
   rw [titer_eq] at hst
   have hz' : ((b >>> k : Nat) : Int) = 0 := by rw [hz]; rfl
   generalize ((b >>> k : Nat) : Int) = q at *
   go_wp2
   go_ret
   refine ⟨?_, rfl⟩
   rw [hst.out]; rfl
  ·have hk8 : k < 8 := by
    rcases Nat.lt_or_ge k 8 with h | h
    ·exact h
    ·have : k = 8 := by omega
     subst this
     exact (hz (by rw [Nat.shiftRight_eq_div_pow]; omega)).elim
   have hq : b >>> k < 256 := by rw [Nat.shiftRight_eq_div_pow]; exact Nat.lt_of_le_of_lt (Nat.div_le_self _ _) hb
   have hb0 := bit0 (b >>> k) hq
   have hn : b >>> (k + 1) = (b >>> k) / 2 := Nat.shiftRight_succ b k
   have ht : (b >>> k).testBit 0 = b.testBit k := by rw [Nat.testBit_shiftRight]; simp
   have hd := dpow_lt a ha k
   have hs := sumP_lt a b ha k
   have hx := Lib.hid (show ∀ x, x = bits .xor .u8 (sumP k a b : Nat) (dpow k a : Nat) → x = ((sumP k a b ^^^ dpow k a : Nat) : Int) from fun x hx => by rw [hx]; exact u8_xor_nat _ _ hs hd)
   have hp : Hid (sumP (k + 1) a b = if b.testBit k then sumP k a b ^^^ dpow k a else sumP k a b) := rfl
   have hpd : Hid (dpow (k + 1) a = dbl (dpow k a)) := rfl
   rw [ht] at hb0
   replace hn := Lib.hid hn
   generalize hqq : b >>> k = q at *
   have hq1 : 1 ≤ (q : Int) := by omega
   have hq2 : (q : Int) ≤ 255 := by omega
   replace hqq := Lib.hid hqq
   clear ht
   by_cases hbit : b.testBit k = true
   ·rw [hbit] at hb0
    replace hbit := Lib.hid hbit
    go_wp2_with fail
    refine (double_any (dpow k a) hd w).mono ?_
    rintro e w' ⟨rfl, rfl⟩
    go_wp2
    refine ⟨⟨k + 1, by omega, ?_, ?_, ?_⟩, by simp [intOf]; omega⟩
    ·rw [hp.out, hbit.out, if_pos rfl, hx.out _ rfl]
    ·rw [hpd.out]
    ·rw [hn.out]; rfl
   ·replace hbit : b.testBit k = false := by simpa using hbit
    rw [hbit] at hb0
    replace hbit := Lib.hid hbit
    go_wp2_with fail
    refine (double_any (dpow k a) hd w).mono ?_
    rintro e w' ⟨rfl, rfl⟩
    go_wp2
    refine ⟨⟨k + 1, by omega, ?_, ?_, ?_⟩, by simp [intOf]; omega⟩
    ·rw [hp.out, hbit.out]; rfl
    ·rw [hpd.out]
    ·rw [hn.out]; rfl
end Go.Proofs.YtikmhlbpefednaaGreat

namespace Go.Proofs.YtikmhlbpefednaaGreat
open Go.RowKit
theorem rot_any (q n : Nat) (hq : q < 256) (hn : 1 ≤ n ∧ n ≤ 4) (w : World) :
  Calls Tryz.prog 160 #[.int .u8 (q : Nat), .int .i64 (n : Nat)] w fun e w' => e = .returned (.int .u8 (rotl8 q n : Nat)) ∧ w' = w := by
 have key : ∀ m : Nat, 1 ≤ m → m ≤ 4 → bits .or .u8 ((q : Int) * ((2 ^ m : Nat) : Int) % 256) ((q : Int) / ((2 ^ (8 - m) : Nat) : Int)) = (rotl8 q m : Nat) := by
  intro m h1 h2
  have e1 : ((q : Int) * ((2 ^ m : Nat) : Int) % 256) = ((q * 2 ^ m % 256 : Nat) : Int) := by simp
  have e2 : ((q : Int) / ((2 ^ (8 - m) : Nat) : Int)) = ((q / 2 ^ (8 - m) : Nat) : Int) := by simp
  rw [e1, e2, u8_or_nat _ _ (by omega) (Nat.lt_of_le_of_lt (Nat.div_le_self _ _) hq)]
  unfold rotl8
  rw [Nat.shiftLeft_eq, Nat.shiftRight_eq_div_pow]
 have k1 := key 1 (by omega) (by omega)
 have k2 := key 2 (by omega) (by omega)
 have k3 := key 3 (by omega) (by omega)
 have k4 := key 4 (by omega) (by omega)
 simp only [Nat.reducePow, Nat.reduceSub] at k1 k2 k3 k4
 clear key
 have n1 : bits .and .u64 1 7 = 1 := by decide
 have n2 : bits .and .u64 2 7 = 2 := by decide
 have n3 : bits .and .u64 3 7 = 3 := by decide
 have n4 : bits .and .u64 4 7 = 4 := by decide
 have hq2 : (q : Int) ≤ 255 := by omega
 obtain rfl | rfl | rfl | rfl : n = 1 ∨ n = 2 ∨ n = 3 ∨ n = 4 := by omega
 all_goals
  go_enter Tryz.func160, Tryz.ntmps160
  go_wp2
 all_goals go_ret
 all_goals exact ⟨congrArg (fun x => Ending.returned (.int .u8 x)) (by first | exact k1 | exact k2 | exact k3 | exact k4), rfl⟩
end Go.Proofs.YtikmhlbpefednaaGreat

namespace Go.Proofs.YtikmhlbpefednaaGreat
open Go.RowKit
theorem ofInt_i64 (a : Nat) (ha : a < 4611686018427387904) : (BitVec.ofInt 64 (a : Int)).toNat = a := ofInt_u64 a (by omega)
theorem i64_xor_nat (a b : Nat) (ha : a < 4611686018427387904) (hb : b < 4611686018427387904) : bits .xor .i64 (a : Int) (b : Int) = ((a ^^^ b : Nat) : Int) := by
 have hx : a ^^^ b < 2 ^ 62 := Nat.xor_lt_two_pow (by omega) (by omega)
 show IntKind.i64.wrap ((BitVec.ofInt 64 (a : Int) ^^^ BitVec.ofInt 64 (b : Int)).toNat : Int) = _
 rw [BitVec.toNat_xor, ofInt_i64 a ha, ofInt_i64 b hb]
 exact IntWalk.i64_in _ (by omega)
theorem i64_and_nat (a b : Nat) (ha : a < 4611686018427387904) (hb : b < 4611686018427387904) : bits .and .i64 (a : Int) (b : Int) = ((a &&& b : Nat) : Int) := by
 have hx : a &&& b < 2 ^ 62 := Nat.and_lt_two_pow _ (by omega)
 show IntKind.i64.wrap ((BitVec.ofInt 64 (a : Int) &&& BitVec.ofInt 64 (b : Int)).toNat : Int) = _
 rw [BitVec.toNat_and, ofInt_i64 a ha, ofInt_i64 b hb]
 exact IntWalk.i64_in _ (by omega)
theorem mulI_lt (a b : Nat) (ha : a < 256) : ∀ k, k ≤ 8 → mulI k a b < 32768
 | 0, _ => by simp [mulI]
 | k + 1, hk => by
  have h1 := mulI_lt a b ha k (by omega)
  rw [mulI]
  split
  ·refine Nat.xor_lt_two_pow (n := 15) h1 ?_
   rw [Nat.shiftLeft_eq]
   have : 2 ^ k ≤ 2 ^ 7 := Nat.pow_le_pow_right (by omega) (by omega)
   calc a * 2 ^ k ≤ a * 2 ^ 7 := Nat.mul_le_mul_left _ this
    _ < 2 ^ 15 := by omega
  ·exact h1
theorem bit_and1 (x : Nat) (hx : x < 256) : (bits .and .u8 (x : Int) 1 == 1) = x.testBit 0 := by
 rw [show (1 : Int) = ((1 : Nat) : Int) from rfl, u8_and_nat x 1 hx (by omega), Nat.and_one_is_mod, Nat.testBit_zero]
 rcases Nat.mod_two_eq_zero_or_one x with h | h <;> simp [h]
theorem bit_at (b k : Nat) (hb : b < 256) : (bits .and .u8 ((b : Int) / ((2 ^ k : Nat) : Int)) 1 == 1) = b.testBit k := by
 have e : (b : Int) / ((2 ^ k : Nat) : Int) = ((b / 2 ^ k : Nat) : Int) := by simp
 rw [e, bit_and1 _ (Nat.lt_of_le_of_lt (Nat.div_le_self _ _) hb), ← Nat.shiftRight_eq_div_pow, Nat.testBit_shiftRight]
 simp
theorem bit_and1i (x : Nat) (hx : x < 65536) : (bits .and .i64 (x : Int) 1 == 1) = x.testBit 0 := by
 rw [show (1 : Int) = ((1 : Nat) : Int) from rfl, i64_and_nat x 1 (by omega) (by omega), Nat.and_one_is_mod, Nat.testBit_zero]
 rcases Nat.mod_two_eq_zero_or_one x with h | h <;> simp [h]
theorem bit_ati (b k : Nat) (hb : b < 65536) : (bits .and .i64 ((b : Int) / ((2 ^ k : Nat) : Int)) 1 == 1) = b.testBit k := by
 have e : (b : Int) / ((2 ^ k : Nat) : Int) = ((b / 2 ^ k : Nat) : Int) := by simp
 rw [e, bit_and1i _ (Nat.lt_of_le_of_lt (Nat.div_le_self _ _) hb), ← Nat.shiftRight_eq_div_pow, Nat.testBit_shiftRight]
 simp
def redTo : Nat → Nat → Nat
 | 0, x => x
 | j + 1, x => rstep (14 - j) (redTo j x)
theorem redTo_7 (x : Nat) : redTo 7 x = red x := rfl
theorem redTo_lt (x : Nat) (hx : x < 32768) : ∀ j, j ≤ 7 → redTo j x < 32768
 | 0, _ => hx
 | j + 1, hj => by
  have := redTo_lt x hx j (by omega)
  rw [redTo, rstep]
  split
  ·refine Nat.xor_lt_two_pow (n := 15) this ?_
   rw [Nat.shiftLeft_eq]
   have : 2 ^ (14 - j - 8) ≤ 2 ^ 6 := Nat.pow_le_pow_right (by omega) (by omega)
   omega
  ·exact this
set_option maxRecDepth 100000 in
set_option maxHeartbeats 4000000 in
theorem rtimes_any (a b : Nat) (ha : a < 256) (hb : b < 256) (w : World) :
  Calls Tryz.prog 122 #[.int .u8 (a : Nat), .int .u8 (b : Nat)] w fun e w' => e = .returned (.int .u8 (timesP a b : Nat)) ∧ w' = w := by
 have ha2 : (a : Int) ≤ 255 := by omega
 have hb2 : (b : Int) ≤ 255 := by omega
 go_enter Tryz.func122, Tryz.ntmps122
 go_wp2_with fail
 go_loop [5, 6] (fun x i => ∃ k : Nat, k ≤ 8 ∧ x = .int .i64 (mulI k a b : Nat) ∧ i = .int .i64 (k : Nat)) (fun _ i => (8 - intOf i).toNat)
 case atStart => exact ⟨0, by omega, rfl, rfl⟩
 case round =>
  obtain ⟨k, hk, rfl, rfl⟩ := hrel
  by_cases hk8 : k < 8
  ·have hm := mulI_lt a b ha k hk
   have hbk := bit_at b k hb
   have hp : Hid (mulI (k + 1) a b = if b.testBit k then mulI k a b ^^^ (a <<< k) else mulI k a b) := rfl
   have hx := Lib.hid (fun y (hy : y = ((a <<< k : Nat) : Int)) => (show bits .xor .i64 (mulI k a b : Nat) y = ((mulI k a b ^^^ (a <<< k) : Nat) : Int) from by
    rw [hy]; exact i64_xor_nat _ _ (by omega) (by
     rw [Nat.shiftLeft_eq]
     have : 2 ^ k ≤ 2 ^ 7 := Nat.pow_le_pow_right (by omega) (by omega)
     have := Nat.mul_le_mul_left a this
     omega)))
   generalize mulI k a b = m at *
   by_cases hbit : b.testBit k = true
   all_goals
    first | (replace hbit : b.testBit k = false := by simpa using hbit) | skip
    rw [hbit] at hbk
    replace hbit := Lib.hid hbit
    obtain rfl | rfl | rfl | rfl | rfl | rfl | rfl | rfl : k = 0 ∨ k = 1 ∨ k = 2 ∨ k = 3 ∨ k = 4 ∨ k = 5 ∨ k = 6 ∨ k = 7 := by omega
   all_goals push_cast at hbk
   all_goals try (have hbk0 := bit_and1 b hb; rw [hbit.out] at hbk0)
   all_goals go_wp2
   all_goals first | exact ⟨⟨1, by omega, by first | (rw [show mulI 1 a b = _ from hp.out, if_pos hbit.out]; exact congrArg (Value.int .i64) (hx.out _ (by rw [Nat.shiftLeft_eq]; push_cast; omega))) | (rw [show mulI 1 a b = _ from hp.out, if_neg (by rw [hbit.out]; simp)]), rfl⟩, by decide⟩ | exact ⟨⟨2, by omega, by first | (rw [show mulI 2 a b = _ from hp.out, if_pos hbit.out]; exact congrArg (Value.int .i64) (hx.out _ (by rw [Nat.shiftLeft_eq]; push_cast; omega))) | (rw [show mulI 2 a b = _ from hp.out, if_neg (by rw [hbit.out]; simp)]), rfl⟩, by decide⟩ | exact ⟨⟨3, by omega, by first | (rw [show mulI 3 a b = _ from hp.out, if_pos hbit.out]; exact congrArg (Value.int .i64) (hx.out _ (by rw [Nat.shiftLeft_eq]; push_cast; omega))) | (rw [show mulI 3 a b = _ from hp.out, if_neg (by rw [hbit.out]; simp)]), rfl⟩, by decide⟩ | exact ⟨⟨4, by omega, by first | (rw [show mulI 4 a b = _ from hp.out, if_pos hbit.out]; exact congrArg (Value.int .i64) (hx.out _ (by rw [Nat.shiftLeft_eq]; push_cast; omega))) | (rw [show mulI 4 a b = _ from hp.out, if_neg (by rw [hbit.out]; simp)]), rfl⟩, by decide⟩ | exact ⟨⟨5, by omega, by first | (rw [show mulI 5 a b = _ from hp.out, if_pos hbit.out]; exact congrArg (Value.int .i64) (hx.out _ (by rw [Nat.shiftLeft_eq]; push_cast; omega))) | (rw [show mulI 5 a b = _ from hp.out, if_neg (by rw [hbit.out]; simp)]), rfl⟩, by decide⟩ | exact ⟨⟨6, by omega, by first | (rw [show mulI 6 a b = _ from hp.out, if_pos hbit.out]; exact congrArg (Value.int .i64) (hx.out _ (by rw [Nat.shiftLeft_eq]; push_cast; omega))) | (rw [show mulI 6 a b = _ from hp.out, if_neg (by rw [hbit.out]; simp)]), rfl⟩, by decide⟩ | exact ⟨⟨7, by omega, by first | (rw [show mulI 7 a b = _ from hp.out, if_pos hbit.out]; exact congrArg (Value.int .i64) (hx.out _ (by rw [Nat.shiftLeft_eq]; push_cast; omega))) | (rw [show mulI 7 a b = _ from hp.out, if_neg (by rw [hbit.out]; simp)]), rfl⟩, by decide⟩ | exact ⟨⟨8, by omega, by first | (rw [show mulI 8 a b = _ from hp.out, if_pos hbit.out]; exact congrArg (Value.int .i64) (hx.out _ (by rw [Nat.shiftLeft_eq]; push_cast; omega))) | (rw [show mulI 8 a b = _ from hp.out, if_neg (by rw [hbit.out]; simp)]), rfl⟩, by decide⟩
  ·obtain rfl : k = 8 := by omega
   have hm := mulI_lt a b ha 8 (by omega)
   have hfin : Hid (timesP a b = red (mulI 8 a b)) := (times_eq a b ha).symm
   generalize mulI 8 a b = M at *
   go_wp2_with fail
   go_loop [5, 7] (fun x i => ∃ k : Nat, k ≤ 7 ∧ x = .int .i64 (redTo k M : Nat) ∧ i = .int .i64 (14 - (k : Nat) : Int)) (fun _ i => (intOf i).toNat)
   case atStart => exact ⟨0, by omega, rfl, rfl⟩
   case round =>
    obtain ⟨k, hk, rfl, rfl⟩ := hrel
    have hlt := redTo_lt M hm k hk
    by_cases hk7 : k < 7
    ·have hbk := bit_ati (redTo k M) (14 - k) (by omega)
     have hp : Hid (redTo (k + 1) M = if (redTo k M).testBit (14 - k) then redTo k M ^^^ (283 <<< (14 - k - 8)) else redTo k M) := rfl
     have hx := Lib.hid (fun y (hy : y = ((283 <<< (14 - k - 8) : Nat) : Int)) => (show bits .xor .i64 (redTo k M : Nat) y = ((redTo k M ^^^ (283 <<< (14 - k - 8)) : Nat) : Int) from by
      rw [hy]; exact i64_xor_nat _ _ (by omega) (by
       rw [Nat.shiftLeft_eq]
       have : 2 ^ (14 - k - 8) ≤ 2 ^ 6 := Nat.pow_le_pow_right (by omega) (by omega)
       omega)))
     generalize redTo k M = m at *
     by_cases hbit : m.testBit (14 - k) = true
     all_goals
      first | (replace hbit : m.testBit (14 - k) = false := by simpa using hbit) | skip
      rw [hbit] at hbk
      replace hbit := Lib.hid hbit
      obtain rfl | rfl | rfl | rfl | rfl | rfl | rfl : k = 0 ∨ k = 1 ∨ k = 2 ∨ k = 3 ∨ k = 4 ∨ k = 5 ∨ k = 6 := by omega
     all_goals push_cast at hbk
     all_goals go_wp2
     all_goals first | exact ⟨⟨1, by omega, by first | (rw [show redTo 1 M = _ from hp.out, if_pos hbit.out]; exact congrArg (Value.int .i64) (hx.out _ (by decide))) | (rw [show redTo 1 M = _ from hp.out, if_neg (by rw [hbit.out]; simp)]), rfl⟩, by decide⟩ | exact ⟨⟨2, by omega, by first | (rw [show redTo 2 M = _ from hp.out, if_pos hbit.out]; exact congrArg (Value.int .i64) (hx.out _ (by decide))) | (rw [show redTo 2 M = _ from hp.out, if_neg (by rw [hbit.out]; simp)]), rfl⟩, by decide⟩ | exact ⟨⟨3, by omega, by first | (rw [show redTo 3 M = _ from hp.out, if_pos hbit.out]; exact congrArg (Value.int .i64) (hx.out _ (by decide))) | (rw [show redTo 3 M = _ from hp.out, if_neg (by rw [hbit.out]; simp)]), rfl⟩, by decide⟩ | exact ⟨⟨4, by omega, by first | (rw [show redTo 4 M = _ from hp.out, if_pos hbit.out]; exact congrArg (Value.int .i64) (hx.out _ (by decide))) | (rw [show redTo 4 M = _ from hp.out, if_neg (by rw [hbit.out]; simp)]), rfl⟩, by decide⟩ | exact ⟨⟨5, by omega, by first | (rw [show redTo 5 M = _ from hp.out, if_pos hbit.out]; exact congrArg (Value.int .i64) (hx.out _ (by decide))) | (rw [show redTo 5 M = _ from hp.out, if_neg (by rw [hbit.out]; simp)]), rfl⟩, by decide⟩ | exact ⟨⟨6, by omega, by first | (rw [show redTo 6 M = _ from hp.out, if_pos hbit.out]; exact congrArg (Value.int .i64) (hx.out _ (by decide))) | (rw [show redTo 6 M = _ from hp.out, if_neg (by rw [hbit.out]; simp)]), rfl⟩, by decide⟩ | exact ⟨⟨7, by omega, by first | (rw [show redTo 7 M = _ from hp.out, if_pos hbit.out]; exact congrArg (Value.int .i64) (hx.out _ (by decide))) | (rw [show redTo 7 M = _ from hp.out, if_neg (by rw [hbit.out]; simp)]), rfl⟩, by decide⟩
    ·obtain rfl : k = 7 := by omega
     rw [redTo_7]
     have hr : red M < 256 := by rw [← hfin.out]; exact timesP_lt a b ha
     go_wp2
     go_ret
     exact ⟨by rw [hfin.out]; rfl, rfl⟩
end Go.Proofs.YtikmhlbpefednaaGreat

namespace Go.Proofs.YtikmhlbpefednaaGreat
def PLt : List Nat := [1, 3, 5, 15, 17, 51, 85, 255, 26, 46, 114, 150, 161, 248, 19, 53, 95, 225, 56, 72, 216, 115, 149, 164, 247, 2, 6, 10, 30, 34, 102, 170,
 229, 52, 92, 228, 55, 89, 235, 38, 106, 190, 217, 112, 144, 171, 230, 49, 83, 245, 4, 12, 20, 60, 68, 204, 79, 209, 104, 184, 211, 110, 178, 205,
 76, 212, 103, 169, 224, 59, 77, 215, 98, 166, 241, 8, 24, 40, 120, 136, 131, 158, 185, 208, 107, 189, 220, 127, 129, 152, 179, 206, 73, 219, 118, 154,
 181, 196, 87, 249, 16, 48, 80, 240, 11, 29, 39, 105, 187, 214, 97, 163, 254, 25, 43, 125, 135, 146, 173, 236, 47, 113, 147, 174, 233, 32, 96, 160,
 251, 22, 58, 78, 210, 109, 183, 194, 93, 231, 50, 86, 250, 21, 63, 65, 195, 94, 226, 61, 71, 201, 64, 192, 91, 237, 44, 116, 156, 191, 218, 117,
 159, 186, 213, 100, 172, 239, 42, 126, 130, 157, 188, 223, 122, 142, 137, 128, 155, 182, 193, 88, 232, 35, 101, 175, 234, 37, 111, 177, 200, 67, 197, 84,
 252, 31, 33, 99, 165, 244, 7, 9, 27, 45, 119, 153, 176, 203, 70, 202, 69, 207, 74, 222, 121, 139, 134, 145, 168, 227, 62, 66, 198, 81, 243, 14,
 18, 54, 90, 238, 41, 123, 141, 140, 143, 138, 133, 148, 167, 242, 13, 23, 57, 75, 221, 124, 132, 151, 162, 253, 28, 36, 108, 180, 199, 82, 246, 1]
def QLt : List Nat := [1, 246, 82, 199, 180, 108, 36, 28, 253, 162, 151, 132, 124, 221, 75, 57, 23, 13, 242, 167, 148, 133, 138, 143, 140, 141, 123, 41, 238, 90, 54, 18,
 14, 243, 81, 198, 66, 62, 227, 168, 145, 134, 139, 121, 222, 74, 207, 69, 202, 70, 203, 176, 153, 119, 45, 27, 9, 7, 244, 165, 99, 33, 31, 252,
 84, 197, 67, 200, 177, 111, 37, 234, 175, 101, 35, 232, 88, 193, 182, 155, 128, 137, 142, 122, 223, 188, 157, 130, 126, 42, 239, 172, 100, 213, 186, 159,
 117, 218, 191, 156, 116, 44, 237, 91, 192, 64, 201, 71, 61, 226, 94, 195, 65, 63, 21, 250, 86, 50, 231, 93, 194, 183, 109, 210, 78, 58, 22, 251,
 160, 96, 32, 233, 174, 147, 113, 47, 236, 173, 146, 135, 125, 43, 25, 254, 163, 97, 214, 187, 105, 39, 29, 11, 240, 80, 48, 16, 249, 87, 196, 181,
 154, 118, 219, 73, 206, 179, 152, 129, 127, 220, 189, 107, 208, 185, 158, 131, 136, 120, 40, 24, 8, 241, 166, 98, 215, 77, 59, 224, 169, 103, 212, 76,
 205, 178, 110, 211, 184, 104, 209, 79, 204, 68, 60, 20, 12, 4, 245, 83, 49, 230, 171, 144, 112, 217, 190, 106, 38, 235, 89, 55, 228, 92, 52, 229,
 170, 102, 34, 30, 10, 6, 2, 247, 164, 149, 115, 216, 72, 56, 225, 95, 53, 19, 248, 161, 150, 114, 46, 26, 255, 85, 51, 17, 15, 5, 3, 1]
def sbox : List Nat := [99, 124, 119, 123, 242, 107, 111, 197, 48, 1, 103, 43, 254, 215, 171, 118, 202, 130, 201, 125, 250, 89, 71, 240, 173, 212, 162, 175, 156, 164, 114, 192,
 183, 253, 147, 38, 54, 63, 247, 204, 52, 165, 229, 241, 113, 216, 49, 21, 4, 199, 35, 195, 24, 150, 5, 154, 7, 18, 128, 226, 235, 39, 178, 117,
 9, 131, 44, 26, 27, 110, 90, 160, 82, 59, 214, 179, 41, 227, 47, 132, 83, 209, 0, 237, 32, 252, 177, 91, 106, 203, 190, 57, 74, 76, 88, 207,
 208, 239, 170, 251, 67, 77, 51, 133, 69, 249, 2, 127, 80, 60, 159, 168, 81, 163, 64, 143, 146, 157, 56, 245, 188, 182, 218, 33, 16, 255, 243, 210,
 205, 12, 19, 236, 95, 151, 68, 23, 196, 167, 126, 61, 100, 93, 25, 115, 96, 129, 79, 220, 34, 42, 144, 136, 70, 238, 184, 20, 222, 94, 11, 219,
 224, 50, 58, 10, 73, 6, 36, 92, 194, 211, 172, 98, 145, 149, 228, 121, 231, 200, 55, 109, 141, 213, 78, 169, 108, 86, 244, 234, 101, 122, 174, 8,
 186, 120, 37, 46, 28, 166, 180, 198, 232, 221, 116, 31, 75, 189, 139, 138, 112, 62, 181, 102, 72, 3, 246, 14, 97, 53, 87, 185, 134, 193, 29, 158,
 225, 248, 152, 17, 105, 217, 142, 148, 155, 30, 135, 233, 206, 85, 40, 223, 140, 161, 137, 13, 191, 230, 66, 104, 65, 153, 45, 15, 176, 84, 187, 22]
def isbox : List Nat := [82, 9, 106, 213, 48, 54, 165, 56, 191, 64, 163, 158, 129, 243, 215, 251, 124, 227, 57, 130, 155, 47, 255, 135, 52, 142, 67, 68, 196, 222, 233, 203,
 84, 123, 148, 50, 166, 194, 35, 61, 238, 76, 149, 11, 66, 250, 195, 78, 8, 46, 161, 102, 40, 217, 36, 178, 118, 91, 162, 73, 109, 139, 209, 37,
 114, 248, 246, 100, 134, 104, 152, 22, 212, 164, 92, 204, 93, 101, 182, 146, 108, 112, 72, 80, 253, 237, 185, 218, 94, 21, 70, 87, 167, 141, 157, 132,
 144, 216, 171, 0, 140, 188, 211, 10, 247, 228, 88, 5, 184, 179, 69, 6, 208, 44, 30, 143, 202, 63, 15, 2, 193, 175, 189, 3, 1, 19, 138, 107,
 58, 145, 17, 65, 79, 103, 220, 234, 151, 242, 207, 206, 240, 180, 230, 115, 150, 172, 116, 34, 231, 173, 53, 133, 226, 249, 55, 232, 28, 117, 223, 110,
 71, 241, 26, 113, 29, 41, 197, 137, 111, 183, 98, 14, 170, 24, 190, 27, 252, 86, 62, 75, 198, 210, 121, 32, 154, 219, 192, 254, 120, 205, 90, 244,
 31, 221, 168, 51, 136, 7, 199, 49, 177, 18, 16, 89, 39, 128, 236, 95, 96, 81, 127, 169, 25, 181, 74, 13, 45, 229, 122, 159, 147, 201, 156, 239,
 160, 224, 59, 77, 174, 42, 245, 176, 200, 235, 187, 60, 131, 83, 153, 97, 23, 43, 4, 126, 186, 119, 214, 38, 225, 105, 20, 99, 85, 33, 12, 125]
def xr (q : Nat) : Nat → Nat
 | 0 => q
 | m + 1 => xr q m ^^^ rotl8 q (m + 1)
def pl (k : Nat) : Nat := PLt.getD k 0
def ql (k : Nat) : Nat := QLt.getD k 0
theorem allR (n : Nat) (p : Nat → Bool) (h : (List.range n).all p = true) (k : Nat) (hk : k < n) : p k = true := List.all_eq_true.1 h k (List.mem_range.2 hk)
theorem pl_step (k : Nat) (hk : k < 255) : timesP (pl k) 3 = pl (k + 1) := by
 have := allR 255 (fun k => sumP 8 (pl k) 3 == pl (k + 1)) (by decide +kernel) k hk
 unfold timesP; rw [titer_eq]; exact beq_iff_eq.1 this
theorem ql_step (k : Nat) (hk : k < 255) : timesP (ql k) 246 = ql (k + 1) := by
 have := allR 255 (fun k => sumP 8 (ql k) 246 == ql (k + 1)) (by decide +kernel) k hk
 unfold timesP; rw [titer_eq]; exact beq_iff_eq.1 this
theorem pl_one (k : Nat) (h1 : 1 ≤ k) (hk : k < 255) : pl k ≠ 1 := by
 have := allR 255 (fun k => k == 0 || pl k != 1) (by decide +kernel) k hk
 simp at this
 rcases this with h | h
 ·omega
 ·exact h
theorem pl_end : pl 255 = 1 := by decide
theorem pl_lt (k : Nat) (hk : k ≤ 255) : pl k < 256 ∧ ql k < 256 ∧ 1 ≤ pl k := by
 have := allR 256 (fun k => decide (pl k < 256 ∧ ql k < 256 ∧ 1 ≤ pl k)) (by decide +kernel) k (by omega)
 exact of_decide_eq_true this
theorem sbox_at (k : Nat) (h1 : 1 ≤ k) (hk : k ≤ 255) : sbox.getD (pl k) 0 = xr (ql k) 4 ^^^ 99 := by
 have := allR 256 (fun k => k == 0 || sbox.getD (pl k) 0 == xr (ql k) 4 ^^^ 99) (by decide +kernel) k (by omega)
 simp at this
 rcases this with h | h
 ·omega
 ·simpa [List.getD_eq_getElem?_getD] using h
theorem pl_all (v : Nat) (h1 : 1 ≤ v) (hv : v < 256) : ∃ k, 1 ≤ k ∧ k ≤ 255 ∧ pl k = v := by
 have := allR 256 (fun v => v == 0 || (List.range 255).any fun k => pl (k + 1) == v) (by decide +kernel) v hv
 simp only [Bool.or_eq_true, beq_iff_eq, List.any_eq_true, List.mem_range] at this
 rcases this with h | ⟨k, hk, h⟩
 ·omega
 ·exact ⟨k + 1, by omega, by omega, h⟩
theorem sbox_len : sbox.length = 256 := by decide +kernel
theorem sbox_lt (v : Nat) : sbox.getD v 0 < 256 := by
 rcases Nat.lt_or_ge v 256 with h | h
 ·exact of_decide_eq_true (allR 256 (fun v => decide (sbox.getD v 0 < 256)) (by decide +kernel) v h)
 ·rw [List.getD_eq_getElem?_getD, List.getElem?_eq_none (by rw [sbox_len]; exact h)]; simp
theorem rotl8_lt (x n : Nat) (hx : x < 256) : rotl8 x n < 256 := by
 unfold rotl8
 refine Nat.or_lt_two_pow (n := 8) (by omega) ?_
 rw [Nat.shiftRight_eq_div_pow]
 exact Nat.lt_of_le_of_lt (Nat.div_le_self _ _) hx
theorem xr_lt (q : Nat) (hq : q < 256) : ∀ m, xr q m < 256
 | 0 => hq
 | m + 1 => Nat.xor_lt_two_pow (n := 8) (xr_lt q hq m) (rotl8_lt q _ hq)
theorem table_end (O : List Nat) (hl : O.length = 256) (h : ∀ j, 1 ≤ j → j ≤ 255 → O.getD (pl j) 0 = sbox.getD (pl j) 0) : O.set 0 99 = sbox := by
 refine List.ext_getElem? fun i => ?_
 rcases Nat.lt_or_ge i 256 with hi | hi
 ·by_cases h0 : i = 0
  ·subst h0
   rw [List.getElem?_set_self (by omega)]; rfl
  ·rw [List.getElem?_set_ne (by omega)]
   obtain ⟨k, k1, k2, rfl⟩ := pl_all i (by omega) hi
   have := h k k1 k2
   rw [List.getD_eq_getElem?_getD, List.getD_eq_getElem?_getD, List.getElem?_eq_getElem (by omega), List.getElem?_eq_getElem (by rw [sbox_len]; omega)] at this
   rw [List.getElem?_eq_getElem (by omega), List.getElem?_eq_getElem (by rw [sbox_len]; omega)]
   simpa using this
 ·rw [List.getElem?_eq_none (by rw [List.length_set]; omega), List.getElem?_eq_none (by rw [sbox_len]; omega)]
attribute [irreducible] sbox isbox
end Go.Proofs.YtikmhlbpefednaaGreat

namespace Go.Proofs.YtikmhlbpefednaaGreat
open Go.RowKit
theorem zero256 : ∀ w, (zeroValue 247).run Tryz.prog w = .ok (.agg (ivA .u8 (zeros 256))) w := fun w => by kernel_rfl
theorem info256 : (Tryz.prog.info? 247).map (·.size) = some 256 := by kernel_rfl
set_option maxRecDepth 100000 in
set_option maxHeartbeats 4000000 in
theorem box_any (w : World) :
  Calls Tryz.prog 151 #[] w fun e w' => e = .returned (.agg (ivA .u8 sbox)) ∧ Below w.heap.size w w' := by
 go_enter Tryz.func151, Tryz.ntmps151
 go_wp2_with (refine wpList_alloc_of rfl 247 rfl _ zero256 ?_)
 go_loopg [2, 3] 255 (fun g p q wx => ∃ k O, g = 255 - k ∧ k < 255 ∧ p = .int .u8 (pl k : Nat) ∧ q = .int .u8 (ql k : Nat) ∧ Hid (O.length = 256 ∧ ∀ j, 1 ≤ j → j ≤ k → O.getD (pl j) 0 = sbox.getD (pl j) 0) ∧ wx = (w.alloc (.cells (ivA .u8 (zeros 256)) 247)).alloc (.cells (ivA .u8 O) 247))
 case atStart => exact ⟨0, _, by omega, by omega, rfl, rfl, Lib.hid ⟨zeros_len _, fun j h1 h2 => by omega⟩, rfl⟩
 case round =>
  obtain ⟨k, O, rfl, hk, rfl, rfl, hO, rfl⟩ := hrel
  obtain ⟨hp, hq, hp1⟩ := pl_lt k (by omega)
  obtain ⟨hp', hq', hp1'⟩ := pl_lt (k + 1) (by omega)
  have hps := Lib.hid (pl_step k hk)
  have hqs := Lib.hid (ql_step k hk)
  have hsb := Lib.hid (sbox_at (k + 1) (by omega) (by omega))
  go_wp2_with fail
  refine (times_any (pl k) 3 hp (by omega) _).mono ?_
  rintro e w' ⟨rfl, rfl⟩
  rw [hps.out]
  go_wp2_with fail
  refine (times_any (ql k) 246 hq (by omega) _).mono ?_
  rintro e w' ⟨rfl, rfl⟩
  rw [hqs.out]
  generalize hP : pl (k + 1) = p' at *
  generalize hQ : ql (k + 1) = q' at *
  replace hP := Lib.hid hP
  replace hQ := Lib.hid hQ
  go_wp2_with fail
  go_loopg [4, 5] 4 (fun g x n wx => ∃ m, g = 4 - m ∧ m ≤ 4 ∧ x = .int .u8 (xr q' m : Nat) ∧ n = .int .i64 ((m : Nat) + 1 : Int) ∧ wx = (w.alloc (.cells (ivA .u8 (zeros 256)) 247)).alloc (.cells (ivA .u8 O) 247))
  case atStart => exact ⟨0, by omega, by omega, rfl, rfl, rfl⟩
  case round =>
   obtain ⟨m, rfl, hm, rfl, rfl, rfl⟩ := hrel
   by_cases hm4 : m < 4
   ·have hx := xr_lt q' hq' m
    have hr := rotl8_lt q' (m + 1) hq'
    have hxx := Lib.hid (u8_xor_nat (xr q' m) (rotl8 q' (m + 1)) hx hr)
    have hrot := Lib.hid (rot_any q' (m + 1) hq' ⟨by omega, by omega⟩ ((w.alloc (.cells (ivA .u8 (zeros 256)) 247)).alloc (.cells (ivA .u8 O) 247)))
    go_wp2_with fail
    refine hrot.out.mono ?_
    rintro e w' ⟨rfl, rfl⟩
    go_wp2_with fail
    go_roundg (4 - (m + 1))
    case measure => omega
    case rel => exact ⟨m + 1, rfl, by omega, congrArg (Value.int .u8) hxx.out, by go_num, rfl⟩
   ·obtain rfl : m = 4 := by omega
    have hx := xr_lt q' hq' 4
    have hv := u8_xor_nat (xr q' 4) 99 hx (by omega)
    push_cast at hv
    have hOl := hO.out.1
    have hcell := ivA_get .u8 O p' (by omega)
    have hset := fun x : Nat => ivA_set .u8 O p' x
    have hp2 : (p' : Int) ≤ 255 := by omega
    replace hOl := Lib.hid hOl
    have hO' : Hid ((O.set p' (xr q' 4 ^^^ 99)).length = 256 ∧ ∀ j, 1 ≤ j → j ≤ k + 1 → (O.set p' (xr q' 4 ^^^ 99)).getD (pl j) 0 = sbox.getD (pl j) 0) := by
     refine ⟨by rw [List.length_set]; exact hOl.out, fun j h1 h2 => ?_⟩
     by_cases hj : pl j = p'
     ·rw [hj, List.getD_eq_getElem?_getD, List.getElem?_set_self (by rw [hOl.out]; omega)]
      simpa [Hid] using hsb.out.symm
     ·have hjk : j ≤ k := by
       rcases Nat.lt_or_ge k j with h | h
       ·have : j = k + 1 := by omega
        subst this
        exact (hj hP.out).elim
       ·exact h
      have := hO.out.2 j h1 hjk
      rw [List.getD_eq_getElem?_getD] at this ⊢
      rw [List.getElem?_set_ne (by omega)]
      exact this
    by_cases hend : k + 1 = 255
    ·have hp1 : Hid (p' = 1) := by show p' = 1; rw [← hP.out, hend]; exact pl_end
     have hpe : ((p' : Int) == 1) = true := by simp [hp1.out]
     have hc0 := ivA_get .u8 (O.set p' (xr q' 4 ^^^ 99)) 0 (by rw [List.length_set, hOl.out]; omega)
     have hs0 : (ivA .u8 (O.set p' (xr q' 4 ^^^ 99))).setIfInBounds 0 (.int .u8 99) = ivA .u8 ((O.set p' (xr q' 4 ^^^ 99)).set 0 99) := ivA_set .u8 _ 0 99
     have htab : Hid ((O.set p' (xr q' 4 ^^^ 99)).set 0 99 = sbox) := table_end _ hO'.out.1 fun j h1 h2 => hO'.out.2 j h1 (by omega)
     have hsz : Hid (((O.set p' (xr q' 4 ^^^ 99)).set 0 99).length = 256) := by show _ = _; rw [List.length_set]; exact hO'.out.1
     have hg0 := heap_alloc2_old w (.cells (ivA .u8 (zeros 256)) 247) (.cells (ivA .u8 ((O.set p' (xr q' 4 ^^^ 99)).set 0 99)) 247)
     have hg1 := heap_alloc2_new w (.cells (ivA .u8 (zeros 256)) 247) (.cells (ivA .u8 ((O.set p' (xr q' 4 ^^^ 99)).set 0 99)) 247)
     have L : Below w.heap.size w ((w.alloc (.cells (ivA .u8 (zeros 256)) 247)).alloc (.cells (ivA .u8 ((O.set p' (xr q' 4 ^^^ 99)).set 0 99)) 247)) := ((Below.refl _ _).alloc (Nat.le_refl _) _).alloc (by simp) _
     replace hg0 := Lib.hid hg0
     replace hg1 := Lib.hid hg1
     clear hend
     go_wp2_with (first | (refine wpList_load_row rfl 247 _ rfl _ rfl _ _ _ _ hg1.out Tryz.underlying247 rfl (by rw [info256, ivA_size, hsz.out]) ?_) | (refine wpList_store_row rfl 247 _ _ rfl _ _ rfl rfl _ _ hg0.out (by rw [info256, ivA_size, hsz.out]) (by rw [ivA_size, ivA_size, zeros_len, hsz.out]) (ivA_one _ _) ?_))
     refine bodyPost_ret (results_cell_row (p := 0) rfl _ _ w.heap.size _ _ _ _ rfl (setRow_get _ _ _ _ _ _ hg0.out) Tryz.underlying247 rfl (by rw [info256, ivA_size, hsz.out])) rfl ⟨?_, Below.setRow L (Nat.le_refl _) _⟩
     rw [htab.out]
    ·have hpe : ((p' : Int) == 1) = false := by
      have := pl_one (k + 1) (by omega) (by omega)
      rw [hP.out] at this
      simp; omega
     go_wp2_with fail
     go_roundg (255 - (k + 1))
     case measure => omega
     case rel => exact ⟨k + 1, _, rfl, by omega, by rw [hP.out], by rw [hQ.out], hO', rfl⟩
end Go.Proofs.YtikmhlbpefednaaGreat

namespace Go.Proofs.YtikmhlbpefednaaGreat
open Go.RowKit
theorem zero16 : ∀ w, (zeroValue 22).run Tryz.prog w = .ok (.agg (ivA .u8 (zeros 16))) w := fun w => by kernel_rfl
theorem info16 : (Tryz.prog.info? 22).map (·.size) = some 16 := by kernel_rfl
def Cf (w : World) (g : Nat) (W : List Nat) : Prop := w.heap[g]? = some (.cells (ivA .u8 (sbox ++ W)) 252) ∧ W.length = 176 ∧ Byt W
theorem Cf.lt {w : World} {g : Nat} {W : List Nat} (h : Cf w g W) : g < w.heap.size := by
 rcases Nat.lt_or_ge g w.heap.size with hh | hh
 ·exact hh
 ·have := h.1; simp [hh] at this
theorem Cf.below {w w' : World} {g : Nat} {W : List Nat} (h : Cf w g W) (hb : Below w.heap.size w w') : Cf w' g W := ⟨by rw [hb.block g h.lt]; exact h.1, h.2⟩
theorem Cf.word {w : World} {g : Nat} {W : List Nat} (h : Cf w g W) (i : Nat) (hi : i < 176) : w.cell? ⟨g, 256 + i, none⟩ = some (.int .u8 (W.getD i 0 : Nat)) := by
 simp only [World.cell?, h.1, Option.isSome_none, Bool.false_eq_true, if_false]
 rw [ivA_get _ _ _ (by rw [List.length_append, sbox_len, h.2.1]; omega)]
 congr 3
 rw [List.getD_eq_getElem?_getD, List.getD_eq_getElem?_getD, List.getElem?_append_right (by rw [sbox_len]; omega), sbox_len, Nat.add_sub_cancel_left]
theorem Cf.box {w : World} {g : Nat} {W : List Nat} (h : Cf w g W) (i : Nat) (hi : i < 256) : w.cell? ⟨g, i, none⟩ = some (.int .u8 (sbox.getD i 0 : Nat)) := by
 simp only [World.cell?, h.1, Option.isSome_none, Bool.false_eq_true, if_false]
 rw [ivA_get _ _ _ (by rw [List.length_append, sbox_len, h.2.1]; omega)]
 congr 3
 rw [List.getD_eq_getElem?_getD, List.getD_eq_getElem?_getD, List.getElem?_append_left (by rw [sbox_len]; omega)]
def keyTo (W : List Nat) (r : Nat) (b : List Nat) (i : Nat) : List Nat := tab 16 fun j => if j < i then b.getD j 0 ^^^ W.getD (16 * r + j) 0 else b.getD j 0
def keyN (W : List Nat) (r : Nat) (b : List Nat) : List Nat := keyTo W r b 16
set_option maxRecDepth 100000 in
set_option maxHeartbeats 4000000 in
theorem key_any (W b : List Nat) (g r : Nat) (hb : b.length = 16) (hB : Byt b) (hr : r ≤ 10) (w : World) (hC : Cf w g W) :
  Calls Tryz.prog 153 #[.pointer (some ⟨g, 0, none⟩), .agg (ivA .u8 b), .int .i64 (r : Nat)] w fun e w' => e = .returned (.agg (ivA .u8 (keyN W r b))) ∧ Below w.heap.size w w' := by
 replace hC := Lib.hid hC
 have hg := hC.out.lt
 have hg1 : g < w.heap.size + 1 := by omega
 have h0 : Hid (b = keyTo W r b 0) := by
  show b = _
  unfold keyTo
  rw [tab_congr 16 _ (fun j => b.getD j 0) (fun j _ => by simp), tab_of 16 b hb]
 replace hb := Lib.hid hb
 replace hB := Lib.hid hB
 go_enter Tryz.func153, Tryz.ntmps153
 go_wp2_with (refine wpList_alloc_of rfl 22 rfl _ zero16 ?_)
 go_loopg [8] 16 (fun n i wx => ∃ k d, n = 16 - k ∧ k ≤ 16 ∧ i = .int .i64 (k : Nat) ∧ wx = World.drewN ((w.alloc (.cells (ivA .u8 (keyTo W r b k)) 22)).alloc (.cells (ivA .u8 (zeros 16)) 22)) d)
 case atStart => exact ⟨0, 0, by omega, by omega, rfl, by rw [← h0.out]; rfl⟩
 case round =>
  obtain ⟨k, d, rfl, hk, rfl, rfl⟩ := hrel
  by_cases hk16 : k < 16
  ·have c1 := ivA_get .u8 (keyTo W r b k) k (by unfold keyTo; rw [tab_len]; omega)
   have e1 : Hid ((keyTo W r b k).getD k 0 = b.getD k 0) := by show _ = _; unfold keyTo; rw [tab_get _ _ _ hk16]; simp
   rw [e1.out] at c1
   have c2 := hC.out.word (16 * r + k) (by omega)
   have hx := u8_xor_nat (b.getD k 0) (W.getD (16 * r + k) 0) (hB.out k) (hC.out.2.2 _)
   have hs := ivA_set .u8 (keyTo W r b k) k (b.getD k 0 ^^^ W.getD (16 * r + k) 0)
   have e2 : Hid ((keyTo W r b k).set k (b.getD k 0 ^^^ W.getD (16 * r + k) 0) = keyTo W r b (k + 1)) := by
    show _ = _
    unfold keyTo
    refine tab_set 16 _ _ k _ hk16 (by simp) fun j hj hne => ?_
    have : (j < k + 1) ↔ (j < k) := by omega
    simp only [this]
   rw [e2.out] at hs
   generalize hwv : World.drewN ((w.alloc (.cells (ivA .u8 (keyTo W r b k)) 22)).alloc (.cells (ivA .u8 (zeros 16)) 22)) d = wv at *
   have c1' : wv.cell? ⟨w.heap.size, k, none⟩ = some (.int .u8 (b.getD k 0 : Nat)) := by rw [← hwv]; simp [go_sem, c1]
   have f1' : wv.frozen? ⟨w.heap.size, k, none⟩ = false := by rw [← hwv]; simp [go_sem]
   have c2' : wv.cell? ⟨g, 256 + (16 * r + k), none⟩ = some (.int .u8 (W.getD (16 * r + k) 0 : Nat)) := by rw [← hwv, ← c2]; simp [go_sem, hg, hg1]
   generalize W.getD (16 * r + k) 0 = y at *
   generalize b.getD k 0 = x at *
   replace hwv := Lib.hid hwv
   replace hs := Lib.hid hs
   clear c2 c1
   have a1 : IntKind.i64.wrap (16 * (r : Int)) = 16 * (r : Int) := IntWalk.i64_in _ (by omega)
   have a2 : IntKind.i64.wrap (16 * (r : Int) + k) = 16 * (r : Int) + k := IntWalk.i64_in _ (by omega)
   have a3 : 0 ≤ 16 * (r : Int) + k := by omega
   have a4 : 16 * (r : Int) + k < 176 := by omega
   have a5 : (16 * (r : Int) + k).toNat = 16 * r + k := by omega
   go_wp2_with fail
   go_still_tail 14, (by kernel_rfl)
   change wpList _ _ _ _ _ wv.drew
   clear a1 a2 a3 a4 a5 c2'
   go_wp2_with fail
   go_roundg (16 - (k + 1))
   case measure => omega
   case rel => exact ⟨k + 1, d + 1, rfl, by omega, by go_num, by rw [← hwv.out]; simp [go_sem, hs.out]⟩
  ·obtain rfl : k = 16 := by omega
   have hg1 := heap_alloc2_new w (.cells (ivA .u8 (keyTo W r b 16)) 22) (.cells (ivA .u8 (zeros 16)) 22)
   have hg0 := heap_alloc2_old w (.cells (ivA .u8 (keyTo W r b 16)) 22) (.cells (ivA .u8 (zeros 16)) 22)
   generalize hwv : World.drewN ((w.alloc (.cells (ivA .u8 (keyTo W r b 16)) 22)).alloc (.cells (ivA .u8 (zeros 16)) 22)) d = wv at *
   have L : Below w.heap.size w wv := by rw [← hwv]; exact Below.drewN (((Below.refl _ _).alloc (Nat.le_refl _) _).alloc (by simp) _) d
   have hh : wv.heap = ((w.alloc (.cells (ivA .u8 (keyTo W r b 16)) 22)).alloc (.cells (ivA .u8 (zeros 16)) 22)).heap := by rw [← hwv]; rfl
   rw [← hh] at hg0 hg1
   replace hg0 := Lib.hid hg0
   replace hg1 := Lib.hid hg1
   have hl16 : Hid ((keyTo W r b 16).length = 16) := tab_len _ _
   clear hh hwv
   go_wp2_with (first | (refine wpList_load_row rfl 22 _ rfl _ rfl _ _ _ _ hg0.out Tryz.underlying22 rfl (by rw [info16, ivA_size, hl16.out]) ?_) | (refine wpList_store_row rfl 22 _ _ rfl _ _ rfl rfl _ _ hg1.out (by rw [info16, ivA_size, hl16.out]) (by rw [ivA_size, ivA_size, zeros_len, hl16.out]) (ivA_one _ _) ?_))
   exact bodyPost_ret (results_cell_row (p := 6) rfl _ _ (w.heap.size + 1) _ _ _ _ rfl (setRow_get _ _ _ _ _ _ hg1.out) Tryz.underlying22 rfl (by rw [info16, ivA_size, hl16.out])) rfl ⟨rfl, Below.setRow L (by omega) _⟩
end Go.Proofs.YtikmhlbpefednaaGreat

namespace Go.Proofs.YtikmhlbpefednaaGreat
open Go.RowKit
theorem row_cell {w : World} {g : Nat} {k : IntKind} {l : List Nat} {t : TypeId} {f : Nat × Nat} (h : w.heap[g]? = some (.cells (ivA k l) t f)) (i : Nat) (hi : i < l.length) : w.cell? ⟨g, i, none⟩ = some (.int k (l.getD i 0 : Nat)) := by
 simp only [World.cell?, h, Option.isSome_none, Bool.false_eq_true, if_false]
 exact ivA_get k l i hi
theorem row_frozen {w : World} {g : Nat} {cs : Array Value} {t : TypeId} (h : w.heap[g]? = some (.cells cs t (0, 0))) (i : Nat) : w.frozen? ⟨g, i, none⟩ = false := by
 simp [World.frozen?, h]
theorem row_set {w : World} {g : Nat} {k : IntKind} {l : List Nat} {t : TypeId} {f : Nat × Nat} (h : w.heap[g]? = some (.cells (ivA k l) t f)) (i x : Nat) : (w.setCell ⟨g, i, none⟩ (.int k (x : Nat))).heap[g]? = some (.cells (ivA k (l.set i x)) t f) := by
 simp [World.setCell, Array.getElem?_modify, h, ivA_set]
theorem row_other {w : World} {g g' i : Nat} {v : Value} (h : g' ≠ g) : (w.setCell ⟨g, i, none⟩ v).heap[g']? = w.heap[g']? := Below.heap_setCell _ _ _ _ h
theorem al_new (w : World) (o : Obj) (n : Nat) (h : n = w.heap.size) : (w.alloc o).heap[n]? = some o := by subst h; exact heap_alloc_new w o
theorem al_old (w : World) (o : Obj) (n : Nat) (h : n < w.heap.size) : (w.alloc o).heap[n]? = w.heap[n]? := Below.heap_alloc w o n h
def turnTo (b : List Nat) (i : Nat) : List Nat := tab 16 fun j => if j < i then sbox.getD (b.getD ((j + 4 * (j % 4)) % 16) 0) 0 else 0
def turnN (b : List Nat) : List Nat := turnTo b 16
set_option maxRecDepth 100000 in
set_option maxHeartbeats 4000000 in
theorem turned_any (W b : List Nat) (g : Nat) (hb : b.length = 16) (hB : Byt b) (w : World) (hC : Cf w g W) :
  Calls Tryz.prog 155 #[.pointer (some ⟨g, 0, none⟩), .agg (ivA .u8 b)] w fun e w' => e = .returned (.agg (ivA .u8 (turnN b))) ∧ Below w.heap.size w w' := by
 replace hC := Lib.hid hC
 have hg := hC.out.lt
 have h0 : Hid (zeros 16 = turnTo b 0) := by
  show zeros 16 = _
  rw [← tab_of 16 (zeros 16) (zeros_len _)]
  exact tab_congr 16 _ _ fun j _ => by rw [zeros_get]; simp
 replace hb := Lib.hid hb
 replace hB := Lib.hid hB
 go_enter Tryz.func155, Tryz.ntmps155
 go_wp2_with (refine wpList_alloc_of rfl 22 rfl _ zero16 ?_)
 go_loopg [7] 16 (fun n i wx => ∃ k, n = 16 - k ∧ k ≤ 16 ∧ i = .int .i64 (k : Nat) ∧ Hid (wx.heap[w.heap.size]? = some (.cells (ivA .u8 b) 22)) ∧ Hid (wx.heap[w.heap.size + 1]? = some (.cells (ivA .u8 (zeros 16)) 22)) ∧ Hid (wx.heap[w.heap.size + 2]? = some (.cells (ivA .u8 (turnTo b k)) 22)) ∧ Below w.heap.size w wx ∧ w.heap.size + 2 < wx.heap.size)
 case atStart =>
  refine ⟨0, by omega, by omega, rfl, ?_, ?_, ?_, (((Below.refl _ _).alloc (Nat.le_refl _) _).alloc (by simp) _).alloc (by simp; omega) _, by simp⟩
  ·refine Lib.hid ?_; rw [al_old _ _ _ (by simp; omega), al_old _ _ _ (by simp), al_new _ _ _ (by simp)]
  ·refine Lib.hid ?_; rw [al_old _ _ _ (by simp), al_new _ _ _ (by simp)]
  ·refine Lib.hid ?_; rw [al_new _ _ _ (by simp), h0.out]
 case round =>
  obtain ⟨k, rfl, hk, rfl, H0, H1, H2, L, hz⟩ := hrel
  by_cases hk16 : k < 16
  ·have hC' := Lib.hid (hC.out.below L)
   have c1 := row_cell H0.out ((k + 4 * (k % 4)) % 16) (by rw [hb.out]; omega)
   have hx := hB.out ((k + 4 * (k % 4)) % 16)
   have c2 := hC'.out.box (b.getD ((k + 4 * (k % 4)) % 16) 0) hx
   have c3 := row_cell H2.out k (by unfold turnTo; rw [tab_len]; omega)
   have f3 := row_frozen H2.out k
   have hs := Lib.hid (row_set H2.out k (sbox.getD (b.getD ((k + 4 * (k % 4)) % 16) 0) 0))
   have e2 : Hid ((turnTo b k).set k (sbox.getD (b.getD ((k + 4 * (k % 4)) % 16) 0) 0) = turnTo b (k + 1)) := by
    show _ = _
    unfold turnTo
    refine tab_set 16 _ _ k _ hk16 (by simp) fun j hj hne => ?_
    have : (j < k + 1) ↔ (j < k) := by omega
    simp only [this]
   generalize hy : sbox.getD (b.getD ((k + 4 * (k % 4)) % 16) 0) 0 = y at *
   generalize b.getD ((k + 4 * (k % 4)) % 16) 0 = x at *
   replace hy := Lib.hid hy
   have a1 : IntKind.i64.wrap (4 * ((k : Int) % 4)) = 4 * ((k : Int) % 4) := IntWalk.i64_in _ (by omega)
   have a2 : IntKind.i64.wrap ((k : Int) + 4 * ((k : Int) % 4)) = (k : Int) + 4 * ((k : Int) % 4) := IntWalk.i64_in _ (by omega)
   have a0 : (k : Int).tmod 4 = (k : Int) % 4 := Int.tmod_eq_emod_of_nonneg (by omega)
   have a6 : ((k : Int) + 4 * ((k : Int) % 4)).tmod 16 = ((k : Int) + 4 * ((k : Int) % 4)) % 16 := Int.tmod_eq_emod_of_nonneg (by omega)
   have a3 : 0 ≤ ((k : Int) + 4 * ((k : Int) % 4)) % 16 := by omega
   have a4 : ((k : Int) + 4 * ((k : Int) % 4)) % 16 < 16 := by omega
   have a5 : (((k : Int) + 4 * ((k : Int) % 4)) % 16).toNat = (k + 4 * (k % 4)) % 16 := by omega
   have hx1 : (x : Int) < 256 := by omega
   go_wp2_with fail
   go_still_tail 15, (by kernel_rfl)
   change wpList _ _ _ _ _ wr.drew
   clear a1 a2 a3 a4 a5 a0 a6 c1 c2
   go_wp2_with fail
   go_roundg (16 - (k + 1))
   case measure => omega
   case rel =>
    refine ⟨k + 1, rfl, by omega, by go_num, ?_, ?_, ?_, (Below.set3 L (by omega) _).drew, by simp; omega⟩
    ·exact Lib.hid ((row_other (by omega)).trans H0.out)
    ·exact Lib.hid ((row_other (by omega)).trans H1.out)
    ·rw [← e2.out]; exact hs
  ·obtain rfl : k = 16 := by omega
   have hl16 : Hid ((turnTo b 16).length = 16) := tab_len _ _
   go_wp2_with (first | (refine wpList_load_row rfl 22 _ rfl _ rfl _ _ _ _ H2.out Tryz.underlying22 rfl (by rw [info16, ivA_size, hl16.out]) ?_) | (refine wpList_store_row rfl 22 _ _ rfl _ _ rfl rfl _ _ H1.out (by rw [info16, ivA_size, hl16.out]) (by rw [ivA_size, ivA_size, zeros_len, hl16.out]) (ivA_one _ _) ?_))
   exact bodyPost_ret (results_cell_row (p := 4) rfl _ _ (w.heap.size + 1) _ _ _ _ rfl (setRow_get _ _ _ _ _ _ H1.out) Tryz.underlying22 rfl (by rw [info16, ivA_size, hl16.out])) rfl ⟨rfl, Below.setRow L (by omega) _⟩
end Go.Proofs.YtikmhlbpefednaaGreat

namespace Go.Proofs.YtikmhlbpefednaaGreat
open Go.RowKit
set_option maxHeartbeats 1000000 in
theorem at_any (b : List Nat) (hb : b.length = 16) (bb bc br : Nat) (c r m : Int) (hc0 : 0 ≤ c) (hc1 : c ≤ 12) (hr0 : 0 ≤ r) (hr1 : r ≤ 3) (hm0 : 0 ≤ m) (hm1 : m ≤ 3) (w : World) (hB : w.heap[bb]? = some (.cells (ivA .u8 b) 22))
  (hc : w.cell? ⟨bc, 0, none⟩ = some (.int .i64 c)) (hr : w.cell? ⟨br, 0, none⟩ = some (.int .i64 r)) :
  Calls Tryz.prog 162 #[.int .i64 m, .pointer (some ⟨bb, 0, none⟩), .pointer (some ⟨bc, 0, none⟩), .pointer (some ⟨br, 0, none⟩)] w fun e w' => e = .returned (.int .u8 (b.getD (c + (r + m) % 4).toNat 0 : Nat)) ∧ w' = w := by
 have c1 := row_cell hB (c + (r + m) % 4).toNat (by rw [hb]; omega)
 clear hB
 have a1 : 0 ≤ c + (r + m) % 4 := by omega
 have a2 : c + (r + m) % 4 < 16 := by omega
 generalize b.getD (c + (r + m) % 4).toNat 0 = x at *
 go_enter Tryz.func162, Tryz.ntmps162
 go_wp2
 go_ret
 exact ⟨rfl, rfl⟩
def mixV (b : List Nat) (i : Nat) : Nat := dbl (b.getD (i / 4 * 4 + i % 4) 0) ^^^ dbl (b.getD (i / 4 * 4 + (i % 4 + 1) % 4) 0) ^^^ b.getD (i / 4 * 4 + (i % 4 + 1) % 4) 0 ^^^ b.getD (i / 4 * 4 + (i % 4 + 2) % 4) 0 ^^^ b.getD (i / 4 * 4 + (i % 4 + 3) % 4) 0
def mixTo (b : List Nat) (i : Nat) : List Nat := tab 16 fun j => if j < i then mixV b j else 0
def mixN (b : List Nat) : List Nat := mixTo b 16
set_option maxRecDepth 100000 in
set_option maxHeartbeats 4000000 in
theorem mixed_any (b : List Nat) (hb : b.length = 16) (hB : Byt b) (w : World) :
  Calls Tryz.prog 154 #[.agg (ivA .u8 b)] w fun e w' => e = .returned (.agg (ivA .u8 (mixN b))) ∧ Below w.heap.size w w' := by
 have h0 : Hid (zeros 16 = mixTo b 0) := by
  show zeros 16 = _
  rw [← tab_of 16 (zeros 16) (zeros_len _)]
  exact tab_congr 16 _ _ fun j _ => by rw [zeros_get]; simp
 replace hb := Lib.hid hb
 replace hB := Lib.hid hB
 go_enter Tryz.func154, Tryz.ntmps154
 go_wp2_with (refine wpList_alloc_of rfl 22 rfl _ zero16 ?_)
 go_loopg [8] 16 (fun n i wx => ∃ k, n = 16 - k ∧ k ≤ 16 ∧ i = .int .i64 (k : Nat) ∧ Hid (wx.heap[w.heap.size]? = some (.cells (ivA .u8 b) 22)) ∧ Hid (wx.heap[w.heap.size + 1]? = some (.cells (ivA .u8 (zeros 16)) 22)) ∧ Hid (wx.heap[w.heap.size + 2]? = some (.cells (ivA .u8 (mixTo b k)) 22)) ∧ Below w.heap.size w wx ∧ w.heap.size + 2 < wx.heap.size)
 case atStart =>
  refine ⟨0, by omega, by omega, rfl, ?_, ?_, ?_, (((Below.refl _ _).alloc (Nat.le_refl _) _).alloc (by simp) _).alloc (by simp; omega) _, by simp⟩
  ·refine Lib.hid ?_; rw [al_old _ _ _ (by simp; omega), al_old _ _ _ (by simp), al_new _ _ _ (by simp)]
  ·refine Lib.hid ?_; rw [al_old _ _ _ (by simp), al_new _ _ _ (by simp)]
  ·refine Lib.hid ?_; rw [al_new _ _ _ (by simp), h0.out]
 case round =>
  obtain ⟨k, rfl, hk, rfl, H0, H1, H2, L, hz⟩ := hrel
  by_cases hk16 : k < 16
  ·have A := Lib.hid (fun (m : Int) (h0 : 0 ≤ m) (h1 : m ≤ 3) => at_any b hb.out w.heap.size wr.heap.size (wr.heap.size + 1) ((k : Int) / 4 * 4) ((k : Int) % 4) m (by omega) (by omega) (by omega) (by omega) h0 h1 ((wr.alloc (.cells #[.int .i64 ((k : Int) / 4 * 4)] 3)).alloc (.cells #[.int .i64 ((k : Int) % 4)] 3))
    (by rw [al_old _ _ _ (by simp; omega), al_old _ _ _ (by omega)]; exact H0.out) (by simp [go_sem]) (by simp [go_sem]))
   obtain ⟨x0, g0⟩ : ∃ x, Hid (b.getD (k / 4 * 4 + k % 4) 0 = x) := ⟨_, rfl⟩
   have p0 := hB.out (k / 4 * 4 + k % 4)
   rw [g0.out] at p0
   obtain ⟨x1, g1⟩ : ∃ x, Hid (b.getD (k / 4 * 4 + (k % 4 + 1) % 4) 0 = x) := ⟨_, rfl⟩
   have p1 := hB.out (k / 4 * 4 + (k % 4 + 1) % 4)
   rw [g1.out] at p1
   obtain ⟨x2, g2⟩ : ∃ x, Hid (b.getD (k / 4 * 4 + (k % 4 + 2) % 4) 0 = x) := ⟨_, rfl⟩
   have p2 := hB.out (k / 4 * 4 + (k % 4 + 2) % 4)
   rw [g2.out] at p2
   obtain ⟨x3, g3⟩ : ∃ x, Hid (b.getD (k / 4 * 4 + (k % 4 + 3) % 4) 0 = x) := ⟨_, rfl⟩
   have p3 := hB.out (k / 4 * 4 + (k % 4 + 3) % 4)
   rw [g3.out] at p3
   have hmv : Hid (mixV b k = dbl x0 ^^^ dbl x1 ^^^ x1 ^^^ x2 ^^^ x3) := by
    show mixV b k = _
    unfold mixV
    rw [g0.out, g1.out, g2.out, g3.out]
   have q0 := dbl_lt x0
   have q1 := dbl_lt x1
   go_wp2_with fail
   refine (A.out 0 (by omega) (by omega)).mono ?_
   rintro e w' ⟨rfl, rfl⟩
   rw [show ((k : Int) / 4 * 4 + ((k : Int) % 4 + 0) % 4).toNat = k / 4 * 4 + k % 4 by omega, g0.out]
   go_wp2_with fail
   refine (double_any x0 p0 ((wr.alloc (.cells #[.int .i64 ((k : Int) / 4 * 4)] 3)).alloc (.cells #[.int .i64 ((k : Int) % 4)] 3))).mono ?_
   rintro e w' ⟨rfl, rfl⟩
   generalize dbl x0 = y0 at *
   go_wp2_with fail
   refine (A.out 1 (by omega) (by omega)).mono ?_
   rintro e w' ⟨rfl, rfl⟩
   rw [show ((k : Int) / 4 * 4 + ((k : Int) % 4 + 1) % 4).toNat = k / 4 * 4 + (k % 4 + 1) % 4 by omega, g1.out]
   go_wp2_with fail
   refine (double_any x1 p1 ((wr.alloc (.cells #[.int .i64 ((k : Int) / 4 * 4)] 3)).alloc (.cells #[.int .i64 ((k : Int) % 4)] 3))).mono ?_
   rintro e w' ⟨rfl, rfl⟩
   generalize dbl x1 = y1 at *
   go_wp2_with fail
   refine (A.out 1 (by omega) (by omega)).mono ?_
   rintro e w' ⟨rfl, rfl⟩
   rw [show ((k : Int) / 4 * 4 + ((k : Int) % 4 + 1) % 4).toNat = k / 4 * 4 + (k % 4 + 1) % 4 by omega, g1.out]
   go_wp2_with fail
   refine (A.out 2 (by omega) (by omega)).mono ?_
   rintro e w' ⟨rfl, rfl⟩
   rw [show ((k : Int) / 4 * 4 + ((k : Int) % 4 + 2) % 4).toNat = k / 4 * 4 + (k % 4 + 2) % 4 by omega, g2.out]
   go_wp2_with fail
   refine (A.out 3 (by omega) (by omega)).mono ?_
   rintro e w' ⟨rfl, rfl⟩
   rw [show ((k : Int) / 4 * 4 + ((k : Int) % 4 + 3) % 4).toNat = k / 4 * 4 + (k % 4 + 3) % 4 by omega, g3.out]
   have e2 : Hid ((mixTo b k).set k (mixV b k) = mixTo b (k + 1)) := by
    show _ = _
    unfold mixTo
    refine tab_set 16 _ _ k _ hk16 (by simp) fun j hj hne => ?_
    have : (j < k + 1) ↔ (j < k) := by omega
    simp only [this]
   clear A
   have z1 : y0 ^^^ y1 < 256 := Nat.xor_lt_two_pow (n := 8) q0 q1
   have z2 : y0 ^^^ y1 ^^^ x1 < 256 := Nat.xor_lt_two_pow (n := 8) z1 p1
   have z3 : y0 ^^^ y1 ^^^ x1 ^^^ x2 < 256 := Nat.xor_lt_two_pow (n := 8) z2 p2
   have r1 := u8_xor_nat y0 y1 q0 q1
   have r2 := u8_xor_nat _ x1 z1 p1
   have r3 := u8_xor_nat _ x2 z2 p2
   have r4 := u8_xor_nat _ x3 z3 p3
   rw [← hmv.out] at r4
   generalize mixV b k = mv at *
   generalize y0 ^^^ y1 ^^^ x1 ^^^ x2 = u3 at *
   generalize y0 ^^^ y1 ^^^ x1 = u2 at *
   generalize y0 ^^^ y1 = u1 at *
   clear q0 q1 p0 p1 p2 p3 z1 z2 z3 hmv
   have K0 := Lib.hid (Eq.trans (show ((wr.alloc (.cells #[.int .i64 ((k : Int) / 4 * 4)] 3)).alloc (.cells #[.int .i64 ((k : Int) % 4)] 3)).heap[w.heap.size]? = wr.heap[w.heap.size]? from by rw [al_old _ _ _ (by simp; omega), al_old _ _ _ (by omega)]) H0.out)
   have K1 := Lib.hid (Eq.trans (show ((wr.alloc (.cells #[.int .i64 ((k : Int) / 4 * 4)] 3)).alloc (.cells #[.int .i64 ((k : Int) % 4)] 3)).heap[w.heap.size + 1]? = wr.heap[w.heap.size + 1]? from by rw [al_old _ _ _ (by simp; omega), al_old _ _ _ (by omega)]) H1.out)
   have K2 := Lib.hid (Eq.trans (show ((wr.alloc (.cells #[.int .i64 ((k : Int) / 4 * 4)] 3)).alloc (.cells #[.int .i64 ((k : Int) % 4)] 3)).heap[w.heap.size + 2]? = wr.heap[w.heap.size + 2]? from by rw [al_old _ _ _ (by simp; omega), al_old _ _ _ (by omega)]) H2.out)
   have L' := (L.alloc L.size (.cells #[.int .i64 ((k : Int) / 4 * 4)] 3)).alloc (by simp; omega) (.cells #[.int .i64 ((k : Int) % 4)] 3)
   have hz' : w.heap.size + 2 < ((wr.alloc (.cells #[.int .i64 ((k : Int) / 4 * 4)] 3)).alloc (.cells #[.int .i64 ((k : Int) % 4)] 3)).heap.size := by simp; omega
   generalize (wr.alloc (.cells #[.int .i64 ((k : Int) / 4 * 4)] 3)).alloc (.cells #[.int .i64 ((k : Int) % 4)] 3) = wv at *
   have c3 := row_cell K2.out k (by unfold mixTo; rw [tab_len]; omega)
   have f3 := row_frozen K2.out k
   have hs := Lib.hid (row_set K2.out k mv)
   go_wp2_with fail
   go_roundg (16 - (k + 1))
   case measure => omega
   case rel =>
    refine ⟨k + 1, rfl, by omega, by go_num, ?_, ?_, ?_, Below.set3 L' (by omega) _, by simp; omega⟩
    ·exact Lib.hid ((row_other (by omega)).trans K0.out)
    ·exact Lib.hid ((row_other (by omega)).trans K1.out)
    ·rw [← e2.out]; exact hs
  ·obtain rfl : k = 16 := by omega
   have hl16 : Hid ((mixTo b 16).length = 16) := tab_len _ _
   go_wp2_with (first | (refine wpList_load_row rfl 22 _ rfl _ rfl _ _ _ _ H2.out Tryz.underlying22 rfl (by rw [info16, ivA_size, hl16.out]) ?_) | (refine wpList_store_row rfl 22 _ _ rfl _ _ rfl rfl _ _ H1.out (by rw [info16, ivA_size, hl16.out]) (by rw [ivA_size, ivA_size, zeros_len, hl16.out]) (ivA_one _ _) ?_))
   exact bodyPost_ret (results_cell_row (p := 2) rfl _ _ (w.heap.size + 1) _ _ _ _ rfl (setRow_get _ _ _ _ _ _ H1.out) Tryz.underlying22 rfl (by rw [info16, ivA_size, hl16.out])) rfl ⟨rfl, Below.setRow L (by omega) _⟩
end Go.Proofs.YtikmhlbpefednaaGreat

namespace Go.Proofs.YtikmhlbpefednaaGreat
open Go.RowKit
def blk (W b : List Nat) : Nat → List Nat
 | 0 => keyN W 0 b
 | r + 1 => keyN W (r + 1) (mixN (turnN (blk W b r)))
def blockN (W b : List Nat) : List Nat := keyN W 10 (turnN (blk W b 9))
theorem keyN_len (W b : List Nat) (r : Nat) : (keyN W r b).length = 16 := tab_len _ _
theorem turnN_len (b : List Nat) : (turnN b).length = 16 := tab_len _ _
theorem mixN_len (b : List Nat) : (mixN b).length = 16 := tab_len _ _
theorem blk_len (W b : List Nat) (r : Nat) : (blk W b r).length = 16 := by cases r <;> exact keyN_len _ _ _
theorem keyN_byt {W b : List Nat} (r : Nat) (hW : Byt W) (hb : Byt b) : Byt (keyN W r b) := by
 unfold keyN keyTo
 refine Byt.tab 16 _ fun j hj => ?_
 rw [if_pos hj]
 exact Nat.xor_lt_two_pow (n := 8) (hb j) (hW _)
theorem turnN_byt (b : List Nat) : Byt (turnN b) := by
 unfold turnN turnTo
 refine Byt.tab 16 _ fun j _ => ?_
 split
 ·exact sbox_lt _
 ·omega
theorem mixV_lt (b : List Nat) (hb : Byt b) (j : Nat) : mixV b j < 256 := by
 unfold mixV
 exact Nat.xor_lt_two_pow (n := 8) (Nat.xor_lt_two_pow (n := 8) (Nat.xor_lt_two_pow (n := 8) (Nat.xor_lt_two_pow (n := 8) (dbl_lt _) (dbl_lt _)) (hb _)) (hb _)) (hb _)
theorem mixN_byt {b : List Nat} (hb : Byt b) : Byt (mixN b) := by
 unfold mixN mixTo
 refine Byt.tab 16 _ fun j _ => ?_
 split
 ·exact mixV_lt b hb j
 ·omega
theorem blk_byt {W b : List Nat} (hW : Byt W) (hb : Byt b) : ∀ r, Byt (blk W b r)
 | 0 => keyN_byt 0 hW hb
 | r + 1 => keyN_byt _ hW (mixN_byt (turnN_byt _))
set_option maxRecDepth 100000 in
set_option maxHeartbeats 4000000 in
theorem block_any (W b : List Nat) (g : Nat) (hb : b.length = 16) (hB : Byt b) (w : World) (hC : Cf w g W) :
  Calls Tryz.prog 141 #[.pointer (some ⟨g, 0, none⟩), .agg (ivA .u8 b)] w fun e w' => e = .returned (.agg (ivA .u8 (blockN W b))) ∧ Below w.heap.size w w' := by
 replace hC := Lib.hid hC
 have hg := hC.out.lt
 replace hb := Lib.hid hb
 replace hB := Lib.hid hB
 have L0 : Below w.heap.size w ((w.alloc (.cells (ivA .u8 b) 22)).alloc (.cells (ivA .u8 (zeros 16)) 22)) := ((Below.refl _ _).alloc (Nat.le_refl _) _).alloc (by simp) _
 have G0 := Lib.hid (heap_alloc2_old w (.cells (ivA .u8 b) 22) (.cells (ivA .u8 (zeros 16)) 22))
 have G1 := Lib.hid (heap_alloc2_new w (.cells (ivA .u8 b) 22) (.cells (ivA .u8 (zeros 16)) 22))
 go_enter Tryz.func141, Tryz.ntmps141
 go_wp2_with (first | (refine wpList_alloc_of rfl 22 rfl _ zero16 ?_) | (refine wpList_load_row rfl 22 _ rfl _ rfl _ _ _ _ G0.out Tryz.underlying22 rfl (by rw [info16, ivA_size, hb.out]) ?_))
 refine (key_any W b g 0 hb.out hB.out (by omega) _ (hC.out.below L0)).mono ?_
 rintro e w1 ⟨rfl, hb1⟩
 have L1 := L0.trans (hb1.mono L0.size)
 have G1' := Lib.hid ((hb1.block (w.heap.size + 1) (by simp)).trans G1.out)
 have z1 : w.heap.size + 2 ≤ w1.heap.size := by have := hb1.size; simpa using this
 clear hb1 G0 G1 L0
 have l0 := blk_len W b 0
 rw [show keyN W 0 b = blk W b 0 from rfl]
 replace l0 := Lib.hid l0
 go_wp2_with (first | (refine wpList_alloc_of rfl 22 rfl _ zero16 ?_) | (refine wpList_store_row rfl 22 _ _ rfl _ _ rfl rfl _ _ (al_new _ _ _ rfl) (by rw [info16, ivA_size, l0.out]) (by rw [ivA_size, ivA_size, zeros_len, l0.out]) (ivA_one _ _) ?_; rw [World.setRow_alloc_new]))
 generalize hS : w1.heap.size = S at *
 replace hS := Lib.hid hS
 go_loopg [6] 9 (fun n i wx => ∃ r, n = 9 - r ∧ r ≤ 9 ∧ i = .int .i64 (((r : Nat) : Int) + 1) ∧ Hid (wx.heap[w.heap.size + 1]? = some (.cells (ivA .u8 (zeros 16)) 22)) ∧ Hid (wx.heap[S]? = some (.cells (ivA .u8 (blk W b r)) 22)) ∧ Below w.heap.size w wx ∧ S < wx.heap.size)
 case atStart =>
  have hS' := hS.out
  exact ⟨0, by omega, by omega, rfl, Lib.hid ((al_old _ _ _ (by omega)).trans G1'.out), Lib.hid (al_new _ _ _ hS'.symm), L1.alloc (by omega) _, by simp; omega⟩
 case round =>
  obtain ⟨r, rfl, hr, rfl, H1, H2, L, hz⟩ := hrel
  have lr := Lib.hid (blk_len W b r)
  have br := Lib.hid (blk_byt hC.out.2.2 hB.out r)
  by_cases hr9 : r < 9
  ·go_wp2_with (first | (refine wpList_load_row rfl 22 _ rfl _ rfl _ _ _ _ H2.out Tryz.underlying22 rfl (by rw [info16, ivA_size, lr.out]) ?_))
   refine (turned_any W _ g lr.out br.out _ (hC.out.below L)).mono ?_
   rintro e w2 ⟨rfl, hb2⟩
   have L2 := L.trans (hb2.mono L.size)
   go_wp2_with fail
   refine (mixed_any _ (turnN_len _) (turnN_byt _) _).mono ?_
   rintro e w3 ⟨rfl, hb3⟩
   have L3 := L2.trans (hb3.mono L2.size)
   go_wp2_with fail
   refine (key_any W _ g (r + 1) (mixN_len _) (mixN_byt (turnN_byt _)) (by omega) _ (hC.out.below L3)).mono ?_
   rintro e w4 ⟨rfl, hb4⟩
   have L4 := L3.trans (hb4.mono L3.size)
   have hz2 : S < w2.heap.size := by have := hb2.size; omega
   have hz3 : S < w3.heap.size := by have := hb3.size; omega
   have hz4 : S < w4.heap.size := by have := hb4.size; omega
   have K1 := Lib.hid ((hb4.block (w.heap.size + 1) (by omega)).trans ((hb3.block (w.heap.size + 1) (by omega)).trans ((hb2.block (w.heap.size + 1) (by omega)).trans H1.out)))
   have K2 := Lib.hid ((hb4.block S hz3).trans ((hb3.block S hz2).trans ((hb2.block S hz).trans H2.out)))
   clear hb2 hb3 hb4 L L2 L3 H1 H2
   rw [show keyN W (r + 1) (mixN (turnN (blk W b r))) = blk W b (r + 1) from rfl]
   have lr1 := Lib.hid (blk_len W b (r + 1))
   go_wp2_with (first | (refine wpList_store_row rfl 22 _ _ rfl _ _ rfl rfl _ _ K2.out (by rw [info16, ivA_size, lr1.out]) (by rw [ivA_size, ivA_size, lr.out, lr1.out]) (ivA_one _ _) ?_))
   go_roundg (9 - (r + 1))
   case measure => omega
   case rel =>
    have hS' := hS.out
    refine ⟨r + 1, rfl, by omega, by go_num, ?_, Lib.hid (setRow_get _ _ _ _ _ _ K2.out), Below.setRow L4 (by omega) _, by simpa using hz4⟩
    refine Lib.hid (Eq.trans ?_ K1.out)
    simp only [World.setRow, Array.getElem?_modify]
    rw [if_neg (by omega)]
  ·obtain rfl : r = 9 := by omega
   go_wp2_with (first | (refine wpList_load_row rfl 22 _ rfl _ rfl _ _ _ _ H2.out Tryz.underlying22 rfl (by rw [info16, ivA_size, lr.out]) ?_))
   refine (turned_any W _ g lr.out br.out _ (hC.out.below L)).mono ?_
   rintro e w2 ⟨rfl, hb2⟩
   have L2 := L.trans (hb2.mono L.size)
   go_wp2_with fail
   refine (key_any W _ g 10 (turnN_len _) (turnN_byt _) (by omega) _ (hC.out.below L2)).mono ?_
   rintro e w3 ⟨rfl, hb3⟩
   have L3 := L2.trans (hb3.mono L2.size)
   have hS' := hS.out
   have hz2 : S < w2.heap.size := by have := hb2.size; omega
   have K1 := Lib.hid ((hb3.block (w.heap.size + 1) (by omega)).trans ((hb2.block (w.heap.size + 1) (by omega)).trans H1.out))
   clear hb2 hb3 L L2 H1 H2 hS'
   rw [show keyN W 10 (turnN (blk W b 9)) = blockN W b from rfl]
   have lf : Hid ((blockN W b).length = 16) := keyN_len _ _ _
   go_wp2_with (first | (refine wpList_store_row rfl 22 _ _ rfl _ _ rfl rfl _ _ K1.out (by rw [info16, ivA_size, lf.out]) (by rw [ivA_size, ivA_size, zeros_len, lf.out]) (ivA_one _ _) ?_))
   exact bodyPost_ret (results_cell_row (p := 4) rfl _ _ (w.heap.size + 1) _ _ _ _ rfl (setRow_get _ _ _ _ _ _ K1.out) Tryz.underlying22 rfl (by rw [info16, ivA_size, lf.out])) rfl ⟨rfl, Below.setRow L3 (by omega) _⟩
end Go.Proofs.YtikmhlbpefednaaGreat
