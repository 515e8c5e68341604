/- Numbers as bytes; counters; the bytes of a stream. Nothing of the program; no condition. -/
import Derived.Test.YtjjemkfkpnemoaaGKi
import Derived.Test.YtjjemkfkpnemoaaGBa
import Derived.Test.YtjjemkfkpnemoaaRfA
import Derived.Test.YtjjemkfkpnemoaaGAa
namespace Go.Proofs.Ytjjemkfkpnemoaa
open Go.RowKit

theorem putB_cons (n x : Nat) : putB (n + 1) x = x / 256 ^ n % 256 :: putB n x := by
  unfold putB
  rw [List.range_succ_eq_map, List.map_cons, List.map_map]
  simp only [Nat.add_sub_cancel, Nat.sub_zero, List.cons.injEq, true_and]
  refine List.map_congr_left fun i hi => ?_
  have := List.mem_range.1 hi
  simp only [Function.comp, Nat.succ_eq_add_one]
  rw [show n - (i + 1) = n - 1 - i by omega]
/-- Only the lower digits count. -/
theorem putB_add (a x : Nat) : ∀ n, n ≤ a → ∀ y, putB n (x * 256 ^ a + y) = putB n y
  | 0, _, _ => rfl
  | n + 1, h, y => by
    rw [putB_cons, putB_cons, putB_add a x n (by omega) y]
    congr 1
    rw [show a = n + 1 + (a - n - 1) by omega, Nat.pow_add, Nat.pow_succ]
    rw [show x * (256 ^ n * 256 * 256 ^ (a - n - 1)) = 256 ^ n * (256 * (x * 256 ^ (a - n - 1))) by ac_rfl, Nat.mul_add_div (Nat.pow_pos (by decide)), Nat.mul_add_mod]
theorem putB_split (b : Nat) (x z : Nat) (hz : z < 256 ^ b) : ∀ a, putB (a + b) (x * 256 ^ b + z) = putB a x ++ putB b z
  | 0 => by rw [Nat.zero_add, putB_add b x b (Nat.le_refl _)]; rfl
  | a + 1 => by
    rw [show a + 1 + b = (a + b) + 1 by omega, putB_cons, putB_cons, putB_split b x z hz a, List.cons_append]
    congr 2
    rw [Nat.add_comm a b, Nat.pow_add, ← Nat.div_div_eq_div_mul, Nat.mul_comm x, Nat.mul_add_div (Nat.pow_pos (by decide)), Nat.div_eq_of_lt hz, Nat.add_zero]
theorem putB_numB : ∀ (l : List Nat), ByL l → putB l.length (numB l) = l
  | [], _ => rfl
  | c :: l, h => by
    have hl : ByL l := fun x hx => h x (by simp [hx])
    rw [List.length_cons, putB_cons, numB_cons, Nat.mul_add_div (Nat.pow_pos (by decide)), Nat.div_eq_of_lt (numB_lt l hl), Nat.add_zero, Nat.mod_eq_of_lt (h c (by simp))]
    rw [Nat.mul_comm, putB_add _ _ _ (Nat.le_refl _), putB_numB l hl]
theorem numB_putB (n x : Nat) : numB (putB n x) = x % 256 ^ n := by
  induction n with
  | zero => simp [putB, numB]; omega
  | succ n ih =>
    rw [putB_cons, numB_cons, ih, putB_len, Nat.pow_succ, Nat.mod_mul]
    omega
theorem putB_mod (n x : Nat) : putB n (x % 256 ^ n) = putB n x := by
  conv => rhs; rw [← Nat.div_add_mod x (256 ^ n), Nat.mul_comm, putB_add n _ n (Nat.le_refl _)]
theorem putB_ctr (x k : Nat) : putB 16 (numB (putB 16 x) + k) = putB 16 (x + k) := by
  rw [numB_putB, ← putB_mod 16 (x % 256 ^ 16 + k), Nat.mod_add_mod, putB_mod]
theorem numB_append (a b : List Nat) : numB (a ++ b) = numB a * 256 ^ b.length + numB b := by
  induction a with
  | nil => simp [numB]
  | cons c a ih =>
    rw [List.cons_append, numB_cons, numB_cons, ih, List.length_append, Nat.pow_add, Nat.add_mul, ← Nat.add_assoc]
    congr 2
    ac_rfl

/-- A counter, its last k bytes turned by n. -/
def ctrK (c : List Nat) (n k : Nat) : List Nat := c.take (16 - k) ++ putB k (numB (c.drop (16 - k)) + n)
def ctrN (c : List Nat) (n k : Nat) : Nat := (numB (c.drop (16 - k)) + n) / 256 ^ k
theorem ctrK_zero (c : List Nat) (n : Nat) (hc : c.length = 16) : ctrK c n 0 = c := by
  unfold ctrK
  rw [Nat.sub_zero, List.take_of_length_le (by omega)]; simp [putB]
theorem ctrN_zero (c : List Nat) (n : Nat) (hc : c.length = 16) : ctrN c n 0 = n := by
  unfold ctrN
  rw [Nat.sub_zero, List.drop_of_length_le (by omega)]; simp [numB]
theorem ctrK_all (c : List Nat) (n : Nat) : ctrK c n 16 = putB 16 (numB c + n) := by simp [ctrK]
theorem ctrK_len (c : List Nat) (n k : Nat) (hc : c.length = 16) (hk : k ≤ 16) : (ctrK c n k).length = 16 := by
  unfold ctrK
  rw [List.length_append, List.length_take, putB_len]; omega
theorem ctr_low (c : List Nat) (k : Nat) (hc : c.length = 16) (hk : k < 16) : c.drop (16 - (k + 1)) = c.getD (15 - k) 0 :: c.drop (16 - k) := by
  rw [show 16 - (k + 1) = 15 - k by omega, List.drop_eq_getElem_cons (by omega), show 15 - k + 1 = 16 - k by omega]
  simp [List.getD_eq_getElem?_getD, List.getElem?_eq_getElem (show 15 - k < c.length by omega)]
theorem ctr_num (c : List Nat) (k : Nat) (hc : c.length = 16) (hk : k < 16) : numB (c.drop (16 - (k + 1))) = 256 ^ k * c.getD (15 - k) 0 + numB (c.drop (16 - k)) := by
  rw [ctr_low c k hc hk, numB_cons, List.length_drop, show c.length - (16 - k) = k by omega]
theorem ctrK_get (c : List Nat) (n k : Nat) (hc : c.length = 16) (hk : k < 16) : (ctrK c n k).getD (15 - k) 0 = c.getD (15 - k) 0 := by
  unfold ctrK
  rw [List.getD_eq_getElem?_getD, List.getElem?_append_left (by rw [List.length_take]; omega), List.getElem?_take, if_pos (by omega), List.getD_eq_getElem?_getD]
theorem ctr_step (c : List Nat) (n k : Nat) (hc : c.length = 16) (hk : k < 16) :
    (ctrK c n k).set (15 - k) ((ctrN c n k + c.getD (15 - k) 0) % 256) = ctrK c n (k + 1) ∧ (ctrN c n k + c.getD (15 - k) 0) / 256 = ctrN c n (k + 1) := by
  have hs : ctrN c n k + c.getD (15 - k) 0 = (numB (c.drop (16 - (k + 1))) + n) / 256 ^ k := by
    unfold ctrN
    rw [ctr_num c k hc hk, Nat.add_assoc, Nat.mul_add_div (Nat.pow_pos (by decide)), Nat.add_comm]
  rw [hs]
  constructor
  · unfold ctrK
    rw [putB_cons, ctr_num c k hc hk, Nat.add_assoc, Nat.mul_comm (256 ^ k), putB_add k _ k (Nat.le_refl _), show 16 - k = (15 - k) + 1 by omega, List.take_succ_eq_append_getElem (by omega), List.append_assoc, show 16 - (k + 1) = 15 - k by omega]
    rw [List.set_append_right _ _ (by rw [List.length_take]; omega), List.length_take, show 15 - k - min (15 - k) c.length = 0 by omega]
    rfl
  · unfold ctrN
    rw [Nat.pow_succ, Nat.div_div_eq_div_mul]
/-- Nothing carried: the rest stays. -/
theorem ctr_end (c : List Nat) (n k : Nat) (hc : c.length = 16) (hb : ByL c) (hk : k ≤ 16) (h0 : ctrN c n k = 0) : ctrK c n k = putB 16 (numB c + n) := by
  have hz : numB (c.drop (16 - k)) + n < 256 ^ k := by
    unfold ctrN at h0
    exact (Nat.div_eq_zero_iff.1 h0).resolve_left (Nat.ne_of_gt (Nat.pow_pos (by decide)))
  have e1 : numB c = numB (c.take (16 - k)) * 256 ^ k + numB (c.drop (16 - k)) := by
    conv => lhs; rw [← List.take_append_drop (16 - k) c]
    rw [numB_append, List.length_drop, show c.length - (16 - k) = k by omega]
  have e2 : (c.take (16 - k)).length = 16 - k := by rw [List.length_take]; omega
  have e3 := putB_split k (numB (c.take (16 - k))) _ hz (16 - k)
  rw [show 16 - k + k = 16 by omega] at e3
  rw [e1, Nat.add_assoc, e3]
  unfold ctrK
  congr 1
  have := putB_numB (c.take (16 - k)) (hb.take _)
  rw [e2] at this
  exact this.symm

/-- The bytes b turned into c, from a place on. -/
def xorAt (n : Nat) (c : List Nat) (at_ : Nat) (b : List Nat) : List Nat := tab n fun j => c.getD j 0 ^^^ (if at_ ≤ j then b.getD (j - at_) 0 else 0)
theorem xorAt_len (n : Nat) (c : List Nat) (a : Nat) (b : List Nat) : (xorAt n c a b).length = n := tab_len _ _
theorem xorAt_nil (n : Nat) (c : List Nat) (a : Nat) (hc : c.length = n) : xorAt n c a [] = c := by
  unfold xorAt
  conv => rhs; rw [← tab_of n c hc]
  exact tab_congr _ _ _ fun j _ => by simp
theorem xorAt_get (n : Nat) (c : List Nat) (a : Nat) (b : List Nat) (i : Nat) (hi : a + i < n) : (xorAt n c a (b.take i)).getD (a + i) 0 = c.getD (a + i) 0 := by
  unfold xorAt
  rw [tab_get _ _ _ hi, if_pos (by omega), Nat.add_sub_cancel_left]
  simp [List.getD_eq_getElem?_getD, List.getElem?_take]
theorem xorAt_step (n : Nat) (c : List Nat) (a : Nat) (b : List Nat) (i : Nat) (hi : a + i < n) (hb : i < b.length) : (xorAt n c a (b.take i)).set (a + i) (c.getD (a + i) 0 ^^^ b.getD i 0) = xorAt n c a (b.take (i + 1)) := by
  refine tab_set n _ _ (a + i) _ hi ?_ fun j hj hne => ?_
  · rw [if_pos (by omega), Nat.add_sub_cancel_left]
    simp [List.getD_eq_getElem?_getD, List.getElem?_take]
  · congr 1
    by_cases h : a ≤ j
    · rw [if_pos h, if_pos h]
      simp only [List.getD_eq_getElem?_getD, List.getElem?_take]
      by_cases h2 : j - a < i
      · rw [if_pos h2, if_pos (by omega)]
      · rw [if_neg h2, if_neg (by omega)]
    · rw [if_neg h, if_neg h]
theorem xorAt_byt (n : Nat) (c : List Nat) (a : Nat) (b : List Nat) (hc : Byt c) (hb : Byt b) : Byt (xorAt n c a b) := by
  refine Byt.tab _ _ fun j _ => ?_
  split
  · exact Nat.xor_lt_two_pow (n := 8) (hc j) (hb _)
  · simpa using hc j
theorem byt_of {l : List Nat} (h : ByL l) : Byt l := fun i => h.get i
theorem byl_of {l : List Nat} (h : Byt l) : ByL l := fun x hx => by
  obtain ⟨i, hi⟩ := List.mem_iff_getElem?.1 hx
  have := h i
  rw [List.getD_eq_getElem?_getD, hi] at this
  exact this

/-- A stream's first n bytes: words, counter as a number. -/
def strm (W : List Nat) (x n : Nat) : List Nat := (List.range n).map fun i => (blockN W (putB 16 (x + i / 16))).getD (i % 16) 0
def cipN (W : List Nat) (x : Nat) (l : List Nat) : List Nat := (List.range l.length).map fun i => l.getD i 0 ^^^ (blockN W (putB 16 (x + i / 16))).getD (i % 16) 0
theorem strm_len (W : List Nat) (x n : Nat) : (strm W x n).length = n := by simp [strm]
theorem strm_take (W : List Nat) (x n k : Nat) (h : k ≤ n) : (strm W x n).take k = strm W x k := by
  unfold strm
  rw [← List.map_take, List.take_range, Nat.min_eq_left h]
theorem blockN_len (W b : List Nat) : (blockN W b).length = 16 := keyN_len _ _ _
theorem strm_block (W : List Nat) (x q : Nat) : strm W x (16 * q) ++ blockN W (putB 16 (x + q)) = strm W x (16 * (q + 1)) := by
  unfold strm
  rw [show 16 * (q + 1) = 16 * q + 16 by omega, List.range_add, List.map_append, List.map_map]
  congr 1
  refine List.ext_getElem (by simp [blockN_len]) fun i h1 h2 => ?_
  rw [blockN_len] at h1
  simp only [List.getElem_map, List.getElem_range, Function.comp]
  rw [show (16 * q + i) / 16 = q by omega, show (16 * q + i) % 16 = i by omega]
  simp [List.getD_eq_getElem?_getD, List.getElem?_eq_getElem (show i < (blockN W (putB 16 (x + q))).length by rw [blockN_len]; exact h1)]
theorem strm_get (W : List Nat) (x n i : Nat) (h : i < n) : (strm W x n).getD i 0 = (blockN W (putB 16 (x + i / 16))).getD (i % 16) 0 := by
  simp [strm, List.getD_eq_getElem?_getD, h]
theorem cipN_len (W : List Nat) (x : Nat) (l : List Nat) : (cipN W x l).length = l.length := by simp [cipN]
/-- The first k bytes ciphered. -/
theorem cipN_snoc (W : List Nat) (x : Nat) (l : List Nat) (k : Nat) (h : k < l.length) : cipN W x (l.take k) ++ [l.getD k 0 ^^^ (blockN W (putB 16 (x + k / 16))).getD (k % 16) 0] = cipN W x (l.take (k + 1)) := by
  unfold cipN
  rw [List.length_take, List.length_take, Nat.min_eq_left (by omega), Nat.min_eq_left (by omega), List.range_succ, List.map_append]
  simp only [List.map_cons, List.map_nil]
  congr 1
  · refine List.map_congr_left fun i hi => ?_
    have := List.mem_range.1 hi
    simp only [List.getD_eq_getElem?_getD, List.getElem?_take]
    rw [if_pos this, if_pos (by omega)]
  · simp [List.getD_eq_getElem?_getD, List.getElem?_take]
theorem cipN_twice (W : List Nat) (x : Nat) (l : List Nat) : cipN W x (cipN W x l) = l := by
  refine List.ext_getElem (by simp [cipN]) fun i h1 h2 => ?_
  simp only [cipN, List.getElem_map, List.getElem_range, List.getD_eq_getElem?_getD]
  rw [List.getElem?_map, List.getElem?_range (by simpa using h2)]
  simp [List.getElem?_eq_getElem h2, Nat.xor_assoc]
theorem cipN_zeros (W : List Nat) (x n : Nat) : cipN W x (List.replicate n 0) = strm W x n := by
  unfold cipN strm
  rw [List.length_replicate]
  refine List.map_congr_left fun i hi => ?_
  simp [List.getD_eq_getElem?_getD, List.getElem?_replicate, List.mem_range.1 hi]
/-- A stream with the first k bytes turned. -/
def mixK (W : List Nat) (x : Nat) (l : List Nat) (k : Nat) : List Nat := cipN W x (l.take k) ++ (strm W x l.length).drop k
theorem mixK_zero (W : List Nat) (x : Nat) (l : List Nat) : mixK W x l 0 = strm W x l.length := by simp [mixK, cipN]
theorem mixK_all (W : List Nat) (x : Nat) (l : List Nat) : mixK W x l l.length = cipN W x l := by
  unfold mixK
  rw [List.take_of_length_le (Nat.le_refl _), List.drop_of_length_le (by rw [strm_len]; exact Nat.le_refl _), List.append_nil]
theorem mixK_get (W : List Nat) (x : Nat) (l : List Nat) (k : Nat) (h : k < l.length) : (mixK W x l k).getD k 0 = (blockN W (putB 16 (x + k / 16))).getD (k % 16) 0 := by
  rw [← strm_get W x l.length k h]
  unfold mixK
  have hl : (cipN W x (l.take k)).length = k := by rw [cipN_len, List.length_take]; omega
  rw [List.getD_eq_getElem?_getD, List.getElem?_append_right (by omega), hl, Nat.sub_self, List.getElem?_drop, Nat.add_zero, List.getD_eq_getElem?_getD]
theorem mixK_set (W : List Nat) (x : Nat) (l : List Nat) (k : Nat) (h : k < l.length) : (mixK W x l k).set k ((blockN W (putB 16 (x + k / 16))).getD (k % 16) 0 ^^^ l.getD k 0) = mixK W x l (k + 1) := by
  have hl : (cipN W x (l.take k)).length = k := by rw [cipN_len, List.length_take]; omega
  unfold mixK
  rw [List.set_append_right _ _ (by omega), hl, Nat.sub_self, ← cipN_snoc W x l k h, List.append_assoc, List.drop_eq_getElem_cons (by rw [strm_len]; exact h), List.set_cons_zero, Nat.xor_comm]
  rfl
end Go.Proofs.Ytjjemkfkpnemoaa
