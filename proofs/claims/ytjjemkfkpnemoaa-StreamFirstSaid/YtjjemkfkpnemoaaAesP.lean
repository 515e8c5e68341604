/- Plain laws on the cipher's bytes (numbers below 256): no program in sight. -/
import Derived.Test.YtjjemkfkpnemoaaRows
namespace Go.Proofs.Ytjjemkfkpnemoaa

/-- Times x. -/
def dbl (a : Nat) : Nat := if a.testBit 7 then (2 * a % 256) ^^^ 27 else 2 * a % 256
def tstep (s : Nat × Nat × Nat) : Nat × Nat × Nat := (if s.2.2.testBit 0 then s.1 ^^^ s.2.1 else s.1, dbl s.2.1, s.2.2 / 2)
def titer : Nat → Nat × Nat × Nat → Nat × Nat × Nat
  | 0, s => s
  | k + 1, s => tstep (titer k s)
/-- The program's product. -/
def timesP (a b : Nat) : Nat := (titer 8 (0, a, b)).1

def mulI : Nat → Nat → Nat → Nat
  | 0, _, _ => 0
  | k + 1, a, b => if b.testBit k then mulI k a b ^^^ (a <<< k) else mulI k a b
/-- One step of the reduction at bit i. -/
def rstep (i x : Nat) : Nat := if x.testBit i then x ^^^ (283 <<< (i - 8)) else x
def red (x : Nat) : Nat := rstep 8 (rstep 9 (rstep 10 (rstep 11 (rstep 12 (rstep 13 (rstep 14 x))))))
/-- The reference's product. -/
def timesR (a b : Nat) : Nat := red (mulI 8 a b)

theorem rstep_xor (i x y : Nat) : rstep i (x ^^^ y) = rstep i x ^^^ rstep i y := by
  unfold rstep
  rw [Nat.testBit_xor]
  cases x.testBit i <;> cases y.testBit i <;> simp
  · rw [Nat.xor_assoc]
  · rw [Nat.xor_assoc, Nat.xor_comm y, ← Nat.xor_assoc]
  · rw [Nat.xor_assoc, Nat.xor_comm _ (y ^^^ _), Nat.xor_assoc, Nat.xor_self, Nat.xor_zero]
theorem red_xor (x y : Nat) : red (x ^^^ y) = red x ^^^ red y := by
  unfold red; simp only [rstep_xor]
theorem red_zero : red 0 = 0 := by decide

def dpow : Nat → Nat → Nat
  | 0, a => a
  | k + 1, a => dbl (dpow k a)

theorem red_shift : ∀ a, a < 256 → ∀ k, k < 8 → red (a <<< k) = dpow k a := by
  have : (List.range 256).all (fun a => (List.range 8).all fun k => red (a <<< k) == dpow k a) = true := by decide +kernel
  intro a ha k hk
  have h1 := List.all_eq_true.1 this a (List.mem_range.2 ha)
  exact beq_iff_eq.1 (List.all_eq_true.1 h1 k (List.mem_range.2 hk))

def sumP : Nat → Nat → Nat → Nat
  | 0, _, _ => 0
  | k + 1, a, b => if b.testBit k then sumP k a b ^^^ dpow k a else sumP k a b

theorem titer_eq (a b : Nat) : ∀ k, titer k (0, a, b) = (sumP k a b, dpow k a, b >>> k)
  | 0 => rfl
  | k + 1 => by
    rw [titer, titer_eq a b k, tstep, sumP, dpow]
    simp only [Nat.shiftRight_succ]
    have : (b >>> k).testBit 0 = b.testBit k := by rw [Nat.testBit_shiftRight]; simp
    simp only [this]

theorem red_mulI (a b : Nat) (ha : a < 256) : ∀ k, k ≤ 8 → red (mulI k a b) = sumP k a b
  | 0, _ => red_zero
  | k + 1, hk => by
    rw [mulI, sumP]
    split
    · rw [red_xor, red_mulI a b ha k (by omega), red_shift a ha k (by omega)]
    · exact red_mulI a b ha k (by omega)

theorem times_eq (a b : Nat) (ha : a < 256) : timesR a b = timesP a b := by
  unfold timesR timesP
  rw [titer_eq, red_mulI a b ha 8 (Nat.le_refl _)]

theorem dbl_lt (a : Nat) : dbl a < 256 := by
  unfold dbl
  split
  · exact Nat.xor_lt_two_pow (n := 8) (by omega) (by omega)
  · omega
theorem sumP_lt (a b : Nat) (ha : a < 256) : ∀ k, sumP k a b < 256
  | 0 => by simp [sumP]
  | k + 1 => by
    have hd : ∀ k, dpow k a < 256 := fun k => by cases k with | zero => exact ha | succ k => exact dbl_lt _
    rw [sumP]
    split
    · exact Nat.xor_lt_two_pow (n := 8) (sumP_lt a b ha k) (hd k)
    · exact sumP_lt a b ha k
theorem timesP_lt (a b : Nat) (ha : a < 256) : timesP a b < 256 := by unfold timesP; rw [titer_eq]; exact sumP_lt a b ha 8

theorem sumP_stop (a b k : Nat) (h : b >>> k = 0) : ∀ j, sumP (k + j) a b = sumP k a b
  | 0 => rfl
  | j + 1 => by
    rw [show k + (j + 1) = (k + j) + 1 from rfl, sumP]
    have : b.testBit (k + j) = false := by
      have := congrArg (fun x => Nat.testBit x j) h
      simpa [Nat.testBit_shiftRight] using this
    rw [this]
    exact sumP_stop a b k h j
theorem timesP_stop (a b k : Nat) (hk : k ≤ 8) (h : b >>> k = 0) : timesP a b = (titer k (0, a, b)).1 := by
  unfold timesP
  rw [titer_eq, titer_eq]
  have := sumP_stop a b k h (8 - k)
  rw [show k + (8 - k) = 8 by omega] at this
  exact this
theorem dpow_lt (a : Nat) (ha : a < 256) : ∀ k, dpow k a < 256
  | 0 => ha
  | _ + 1 => dbl_lt _

def rotl8 (x n : Nat) : Nat := (x <<< n % 256) ||| (x >>> (8 - n))
/-- The loop of Box: (p, q, out) behind k rounds. -/
def bstep (s : Nat × Nat × List Nat) : Nat × Nat × List Nat :=
  let p := timesP s.1 3
  let q := timesP s.2.1 246
  (p, q, s.2.2.set p (q ^^^ rotl8 q 1 ^^^ rotl8 q 2 ^^^ rotl8 q 3 ^^^ rotl8 q 4 ^^^ 99))
def biter : Nat → Nat × Nat × List Nat
  | 0 => (1, 1, List.replicate 256 0)
  | k + 1 => bstep (biter k)
end Go.Proofs.Ytjjemkfkpnemoaa
