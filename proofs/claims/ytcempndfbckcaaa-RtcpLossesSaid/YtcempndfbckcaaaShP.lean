/- Plain laws on SHA-1 over numbers: no program in sight. -/
import Init.Data.List.Lemmas
namespace Go.Proofs.Ytcempndfbckcaaa

def rol (x n : Nat) : Nat := (x <<< n) % 4294967296 ||| (x >>> (32 - n))
def numB (l : List Nat) : Nat := l.foldl (fun x c => x * 256 + c) 0
def putB (n x : Nat) : List Nat := (List.range n).map fun i => x / 256 ^ (n - 1 - i) % 256
def wnext (bl W : List Nat) (t : Nat) : Nat := if t < 16 then numB ((bl.drop (4 * t)).take 4) else rol (W.getD (t - 3) 0 ^^^ W.getD (t - 8) 0 ^^^ W.getD (t - 14) 0 ^^^ W.getD (t - 16) 0) 1
def wl (bl : List Nat) : Nat → List Nat
  | 0 => []
  | t + 1 => (fun W => W ++ [wnext bl W t]) (wl bl t)
def fmix (t b c d : Nat) : Nat := if t < 20 then (b &&& c) ||| ((4294967295 - b) &&& d) else if t < 40 then b ^^^ c ^^^ d else if t < 60 then (b &&& c) ||| (b &&& d) ||| (c &&& d) else b ^^^ c ^^^ d
def kmix (t : Nat) : Nat := if t < 20 then 1518500249 else if t < 40 then 1859775393 else if t < 60 then 2400959708 else 3395469782
def vstep (x t : Nat) (v : List Nat) : List Nat :=
  [(rol (v.getD 0 0) 5 + fmix t (v.getD 1 0) (v.getD 2 0) (v.getD 3 0) + v.getD 4 0 + kmix t + x) % 4294967296, v.getD 0 0, rol (v.getD 1 0) 30, v.getD 2 0, v.getD 3 0]
def vt (W H : List Nat) : Nat → List Nat
  | 0 => H
  | t + 1 => vstep (W.getD t 0) t (vt W H t)
def addH (V H : List Nat) : List Nat := [(V.getD 0 0 + H.getD 0 0) % 4294967296, (V.getD 1 0 + H.getD 1 0) % 4294967296, (V.getD 2 0 + H.getD 2 0) % 4294967296, (V.getD 3 0 + H.getD 3 0) % 4294967296, (V.getD 4 0 + H.getD 4 0) % 4294967296]
def takeH (H bl : List Nat) : List Nat := addH (vt (wl bl 80) H 80) H
def hfrom (H l : List Nat) : Nat → List Nat
  | 0 => H
  | k + 1 => takeH (hfrom H l k) ((l.drop (64 * k)).take 64)
def H0 : List Nat := [1732584193, 4023233417, 2562383102, 271733878, 3285377520]
def padZ (n : Nat) : Nat := (119 - n % 64) % 64
def pad (m : List Nat) : List Nat := m ++ [128] ++ List.replicate (padZ m.length) 0 ++ putB 8 (8 * m.length % 18446744073709551616)
def digest (H : List Nat) : List Nat := putB 4 (H.getD 0 0) ++ putB 4 (H.getD 1 0) ++ putB 4 (H.getD 2 0) ++ putB 4 (H.getD 3 0) ++ putB 4 (H.getD 4 0)
def sumN (m : List Nat) : List Nat := digest (hfrom H0 (pad m) ((pad m).length / 64))

theorem sum_empty : sumN [] = [0xda, 0x39, 0xa3, 0xee, 0x5e, 0x6b, 0x4b, 0x0d, 0x32, 0x55, 0xbf, 0xef, 0x95, 0x60, 0x18, 0x90, 0xaf, 0xd8, 0x07, 0x09] := by decide +kernel
theorem sum_abc : sumN [97, 98, 99] = [0xa9, 0x99, 0x3e, 0x36, 0x47, 0x06, 0x81, 0x6a, 0xba, 0x3e, 0x25, 0x71, 0x78, 0x50, 0xc2, 0x6c, 0x9c, 0xd0, 0xd8, 0x9d] := by decide +kernel

theorem wl_len (bl : List Nat) : ∀ t, (wl bl t).length = t
  | 0 => rfl
  | t + 1 => by simp [wl, wl_len bl t]
theorem wl_get (bl : List Nat) (t : Nat) : ∀ d i, i < t → (wl bl (t + d)).getD i 0 = (wl bl t).getD i 0
  | 0, _, _ => rfl
  | d + 1, i, h => by
    have hl := wl_len bl (t + d)
    rw [show t + (d + 1) = (t + d) + 1 from rfl, wl]
    simp only [List.getD_eq_getElem?_getD]
    rw [List.getElem?_append_left (by omega)]
    simpa [List.getD_eq_getElem?_getD] using wl_get bl t d i h
theorem wl_at (bl : List Nat) (t : Nat) : (wl bl (t + 1)).getD t 0 = wnext bl (wl bl t) t := by
  have hl := wl_len bl t
  simp only [wl, List.getD_eq_getElem?_getD]
  rw [List.getElem?_append_right (by omega), hl]
  simp
theorem rol_lt (x n : Nat) (hx : x < 4294967296) : rol x n < 4294967296 := by
  unfold rol
  refine Nat.or_lt_two_pow (n := 32) (Nat.mod_lt _ (by decide)) ?_
  rw [Nat.shiftRight_eq_div_pow]
  exact Nat.lt_of_le_of_lt (Nat.div_le_self _ _) hx
theorem numB_lt (l : List Nat) (h : ∀ x ∈ l, x < 256) : numB l < 256 ^ l.length := by
  have key : ∀ (l : List Nat) (a : Nat), (∀ x ∈ l, x < 256) → l.foldl (fun x c => x * 256 + c) a < (a + 1) * 256 ^ l.length := by
    intro l
    induction l with
    | nil => intro a _; simp
    | cons c l ih =>
      intro a h
      simp only [List.foldl_cons, List.length_cons]
      have h1 := ih (a * 256 + c) (fun x hx => h x (List.mem_cons_of_mem _ hx))
      have h2 := h c (List.mem_cons_self ..)
      refine Nat.lt_of_lt_of_le h1 ?_
      rw [Nat.pow_succ, Nat.mul_comm (256 ^ l.length) 256, ← Nat.mul_assoc]
      exact Nat.mul_le_mul_right _ (by omega)
  have := key l 0 h
  simpa [numB] using this
theorem numB_snoc (l : List Nat) (c : Nat) : numB (l ++ [c]) = numB l * 256 + c := by simp [numB]
theorem putB_len (n x : Nat) : (putB n x).length = n := by simp [putB]
theorem putB_byt (n x : Nat) : ∀ y ∈ putB n x, y < 256 := by
  intro y hy
  obtain ⟨i, _, rfl⟩ := List.mem_map.1 hy
  exact Nat.mod_lt _ (by decide)

theorem hfrom_append (H a b : List Nat) (q : Nat) (ha : a.length = 64 * q) : ∀ k, hfrom H (a ++ b) (q + k) = hfrom (hfrom H a q) b k
  | 0 => by
    have key : ∀ j, j ≤ q → hfrom H (a ++ b) j = hfrom H a j := by
      intro j
      induction j with
      | zero => intro _; rfl
      | succ j ih =>
        intro hj
        rw [hfrom, hfrom, ih (by omega)]
        congr 1
        rw [List.drop_append, List.take_append, show 64 - (a.drop (64 * j)).length = 0 by simp; omega]
        simp
    exact key q (Nat.le_refl _)
  | k + 1 => by
    rw [show q + (k + 1) = (q + k) + 1 from rfl, hfrom, hfrom_append H a b q ha k, hfrom]
    congr 2
    rw [List.drop_append, List.drop_of_length_le (by omega), List.nil_append, ha]
    congr 1; omega
theorem padZ_spec (n : Nat) : (n + 1 + padZ n) % 64 = 56 ∧ padZ n < 64 := by unfold padZ; omega
theorem padZ_least (n j : Nat) (hj : j < padZ n) : (n + 1 + j) % 64 ≠ 56 := by unfold padZ at hj; omega
theorem pad_len (m : List Nat) : (pad m).length % 64 = 0 := by
  have := padZ_spec m.length
  simp only [pad, List.length_append, List.length_cons, List.length_nil, List.length_replicate, putB_len]
  omega
/-- The end of a message, q blocks of which are done. -/
def endN (m : List Nat) : List Nat := m.drop (64 * (m.length / 64)) ++ [128] ++ List.replicate (padZ m.length) 0 ++ putB 8 (8 * m.length % 18446744073709551616)
theorem pad_split (m : List Nat) : pad m = m.take (64 * (m.length / 64)) ++ endN m := by
  unfold pad endN
  rw [← List.append_assoc, ← List.append_assoc, ← List.append_assoc, List.take_append_drop]
theorem endN_len (m : List Nat) : (endN m).length % 64 = 0 := by
  have h1 := pad_len m
  rw [pad_split, List.length_append, List.length_take] at h1
  omega
theorem sum_end (m : List Nat) : sumN m = digest (hfrom (hfrom H0 m (m.length / 64)) (endN m) ((endN m).length / 64)) := by
  unfold sumN
  have hl : (m.take (64 * (m.length / 64))).length = 64 * (m.length / 64) := by rw [List.length_take]; omega
  have hd : (pad m).length / 64 = m.length / 64 + (endN m).length / 64 := by
    rw [pad_split, List.length_append, hl]; omega
  rw [hd, pad_split, hfrom_append _ _ _ _ hl]
  congr 2
  have := hfrom_append H0 (m.take (64 * (m.length / 64))) (m.drop (64 * (m.length / 64))) (m.length / 64) hl 0
  rw [List.take_append_drop] at this
  exact this.symm
end Go.Proofs.Ytcempndfbckcaaa
