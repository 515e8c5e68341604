/- The block's steps can be taken back: plain laws. -/
import Derived.Test.YtjjemkfkpnemoaaAesBb
namespace Go.Proofs.Ytjjemkfkpnemoaa
open Go.RowKit

theorem dbl_xor (a b : Nat) : dbl (a ^^^ b) = dbl a ^^^ dbl b := by
  have h : ∀ x, 2 * x % 256 = (x <<< 1) % 2 ^ 8 := fun x => by rw [Nat.shiftLeft_eq]; omega
  unfold dbl
  rw [Nat.testBit_xor, h, h, h, Nat.shiftLeft_xor_distrib, Nat.xor_mod_two_pow]
  cases a.testBit 7 <;> cases b.testBit 7 <;> simp
  · rw [Nat.xor_assoc]
  · rw [Nat.xor_assoc, Nat.xor_assoc, Nat.xor_comm 27]
  · generalize a <<< 1 % 256 = p
    generalize b <<< 1 % 256 = q
    rw [Nat.xor_assoc, Nat.xor_comm 27 (q ^^^ 27), Nat.xor_assoc, Nat.xor_self, Nat.xor_zero]
theorem xor_left_self (a b : Nat) : a ^^^ (a ^^^ b) = b := by rw [← Nat.xor_assoc, Nat.xor_self, Nat.zero_xor]
def e14 (x : Nat) : Nat := dbl (dbl (dbl x)) ^^^ dbl (dbl x) ^^^ dbl x
def e11 (x : Nat) : Nat := dbl (dbl (dbl x)) ^^^ dbl x ^^^ x
def e13 (x : Nat) : Nat := dbl (dbl (dbl x)) ^^^ dbl (dbl x) ^^^ x
def e9 (x : Nat) : Nat := dbl (dbl (dbl x)) ^^^ x
def mx (a b c d : Nat) : Nat := dbl a ^^^ dbl b ^^^ b ^^^ c ^^^ d
theorem xor_lc (a b c : Nat) : a ^^^ (b ^^^ c) = b ^^^ (a ^^^ c) := by rw [← Nat.xor_assoc, Nat.xor_comm a b, Nat.xor_assoc]
theorem e14_xor (a b : Nat) : e14 (a ^^^ b) = e14 a ^^^ e14 b := by simp only [e14, dbl_xor]; ac_rfl
theorem e11_xor (a b : Nat) : e11 (a ^^^ b) = e11 a ^^^ e11 b := by simp only [e11, dbl_xor]; ac_rfl
theorem e13_xor (a b : Nat) : e13 (a ^^^ b) = e13 a ^^^ e13 b := by simp only [e13, dbl_xor]; ac_rfl
theorem e9_xor (a b : Nat) : e9 (a ^^^ b) = e9 a ^^^ e9 b := by simp only [e9, dbl_xor]; ac_rfl
theorem gA (a : Nat) : e14 (dbl a) ^^^ (e11 a ^^^ (e13 a ^^^ (e9 (dbl a) ^^^ e9 a))) = a := by
  simp only [e14, e11, e13, e9, Nat.xor_assoc, Nat.xor_comm, xor_lc, Nat.xor_self, Nat.xor_zero, Nat.zero_xor, xor_left_self]
theorem gB (a : Nat) : e14 (dbl a) ^^^ (e14 a ^^^ (e11 (dbl a) ^^^ (e13 a ^^^ e9 a))) = 0 := by
  simp only [e14, e11, e13, e9, Nat.xor_assoc, Nat.xor_comm, xor_lc, Nat.xor_self, Nat.xor_zero, Nat.zero_xor, xor_left_self]
theorem gC (a : Nat) : e14 a ^^^ (e11 (dbl a) ^^^ (e11 a ^^^ (e13 (dbl a) ^^^ e9 a))) = 0 := by
  simp only [e14, e11, e13, e9, Nat.xor_assoc, Nat.xor_comm, xor_lc, Nat.xor_self, Nat.xor_zero, Nat.zero_xor, xor_left_self]
theorem gD (a : Nat) : e14 a ^^^ (e11 a ^^^ (e13 (dbl a) ^^^ (e13 a ^^^ e9 (dbl a)))) = 0 := by
  simp only [e14, e11, e13, e9, Nat.xor_assoc, Nat.xor_comm, xor_lc, Nat.xor_self, Nat.xor_zero, Nat.zero_xor, xor_left_self]
theorem unmix (a b c d : Nat) : e14 (mx a b c d) ^^^ e11 (mx b c d a) ^^^ e13 (mx c d a b) ^^^ e9 (mx d a b c) = a := by
  have h : e14 (mx a b c d) ^^^ e11 (mx b c d a) ^^^ e13 (mx c d a b) ^^^ e9 (mx d a b c) =
      (e14 (dbl a) ^^^ (e11 a ^^^ (e13 a ^^^ (e9 (dbl a) ^^^ e9 a)))) ^^^ ((e14 (dbl b) ^^^ (e14 b ^^^ (e11 (dbl b) ^^^ (e13 b ^^^ e9 b)))) ^^^ ((e14 c ^^^ (e11 (dbl c) ^^^ (e11 c ^^^ (e13 (dbl c) ^^^ e9 c)))) ^^^ (e14 d ^^^ (e11 d ^^^ (e13 (dbl d) ^^^ (e13 d ^^^ e9 (dbl d))))))) := by
    simp only [mx, e14_xor, e11_xor, e13_xor, e9_xor]
    ac_rfl
  rw [h, gA, gB, gC, gD]
  simp
theorem mix_inj (x y : List Nat) (hx : x.length = 16) (hy : y.length = 16) (h : mixN x = mixN y) : x = y := by
  have hv : ∀ j, j < 16 → mixV x j = mixV y j := fun j hj => by
    have := congrArg (fun l => l.getD j 0) h
    simp only [mixN, mixTo, tab_get 16 _ j hj, if_pos hj] at this
    exact this
  have hm : ∀ (z : List Nat) col row, row < 4 → mixV z (4 * col + row) = mx (z.getD (4 * col + row) 0) (z.getD (4 * col + (row + 1) % 4) 0) (z.getD (4 * col + (row + 2) % 4) 0) (z.getD (4 * col + (row + 3) % 4) 0) := fun z col row hr => by
    unfold mixV mx
    have q1 : (4 * col + row) / 4 * 4 = 4 * col := by omega
    have q2 : (4 * col + row) % 4 = row := by omega
    rw [q1, q2]
  refine List.ext_getElem? fun i => ?_
  rcases Nat.lt_or_ge i 16 with hi | hi
  · have key : x.getD i 0 = y.getD i 0 := by
      have h0 := hv (4 * (i / 4) + i % 4) (by omega)
      have h1 := hv (4 * (i / 4) + (i % 4 + 1) % 4) (by omega)
      have h2 := hv (4 * (i / 4) + (i % 4 + 2) % 4) (by omega)
      have h3 := hv (4 * (i / 4) + (i % 4 + 3) % 4) (by omega)
      rw [hm x _ _ (by omega), hm y _ _ (by omega)] at h0 h1 h2 h3
      have r1 : ((i % 4 + 1) % 4 + 1) % 4 = (i % 4 + 2) % 4 := by omega
      have r2 : ((i % 4 + 1) % 4 + 2) % 4 = (i % 4 + 3) % 4 := by omega
      have r3 : ((i % 4 + 1) % 4 + 3) % 4 = i % 4 := by omega
      have s1 : ((i % 4 + 2) % 4 + 1) % 4 = (i % 4 + 3) % 4 := by omega
      have s2 : ((i % 4 + 2) % 4 + 2) % 4 = i % 4 := by omega
      have s3 : ((i % 4 + 2) % 4 + 3) % 4 = (i % 4 + 1) % 4 := by omega
      have u1 : ((i % 4 + 3) % 4 + 1) % 4 = i % 4 := by omega
      have u2 : ((i % 4 + 3) % 4 + 2) % 4 = (i % 4 + 1) % 4 := by omega
      have u3 : ((i % 4 + 3) % 4 + 3) % 4 = (i % 4 + 2) % 4 := by omega
      rw [r1, r2, r3] at h1
      rw [s1, s2, s3] at h2
      rw [u1, u2, u3] at h3
      have e : 4 * (i / 4) + i % 4 = i := by omega
      rw [e] at h0 h1 h2 h3
      have g := unmix (x.getD i 0) (x.getD (4 * (i / 4) + (i % 4 + 1) % 4) 0) (x.getD (4 * (i / 4) + (i % 4 + 2) % 4) 0) (x.getD (4 * (i / 4) + (i % 4 + 3) % 4) 0)
      rw [h0, h1, h2, h3, unmix] at g
      exact g.symm
    rw [List.getD_eq_getElem?_getD, List.getD_eq_getElem?_getD, List.getElem?_eq_getElem (by omega), List.getElem?_eq_getElem (by omega)] at key
    rw [List.getElem?_eq_getElem (by omega), List.getElem?_eq_getElem (by omega)]
    simpa using key
  · rw [List.getElem?_eq_none (by omega), List.getElem?_eq_none (by omega)]
theorem list16_ext {x y : List Nat} (hx : x.length = 16) (hy : y.length = 16) (h : ∀ i, i < 16 → x.getD i 0 = y.getD i 0) : x = y := by
  refine List.ext_getElem? fun i => ?_
  rcases Nat.lt_or_ge i 16 with hi | hi
  · have key := h i hi
    rw [List.getD_eq_getElem?_getD, List.getD_eq_getElem?_getD, List.getElem?_eq_getElem (by omega), List.getElem?_eq_getElem (by omega)] at key
    rw [List.getElem?_eq_getElem (by omega), List.getElem?_eq_getElem (by omega)]
    simpa using key
  · rw [List.getElem?_eq_none (by omega), List.getElem?_eq_none (by omega)]
theorem key_inj (W : List Nat) (r : Nat) (x y : List Nat) (hx : x.length = 16) (hy : y.length = 16) (h : keyN W r x = keyN W r y) : x = y := by
  refine list16_ext hx hy fun i hi => ?_
  have := congrArg (fun l => l.getD i 0) h
  simp only [keyN, keyTo, tab_get 16 _ i hi, if_pos hi] at this
  have h2 := congrArg (fun z => z ^^^ W.getD (16 * r + i) 0) this
  simpa [Nat.xor_assoc] using h2
theorem turn_inj (x y : List Nat) (hx : x.length = 16) (hy : y.length = 16) (bx : Byt x) (bY : Byt y) (h : turnN x = turnN y) : x = y := by
  refine list16_ext hx hy fun i hi => ?_
  -- the place from which i came: j with (j + 4 * (j % 4)) % 16 = i
  have hj : ((i + 12 * (i % 4)) % 16 + 4 * (((i + 12 * (i % 4)) % 16) % 4)) % 16 = i := by omega
  have := congrArg (fun l => l.getD ((i + 12 * (i % 4)) % 16) 0) h
  have hlt : (i + 12 * (i % 4)) % 16 < 16 := by omega
  simp only [turnN, turnTo, tab_get 16 _ _ hlt, if_pos hlt, hj] at this
  exact sbox_inj _ _ (bx i) (bY i) this
theorem blk_inj (W : List Nat) (hW : Byt W) (x y : List Nat) (hx : x.length = 16) (hy : y.length = 16) (bx : Byt x) (bY : Byt y) : ∀ r, blk W x r = blk W y r → x = y
  | 0, h => key_inj W 0 x y hx hy h
  | r + 1, h => by
    refine blk_inj W hW x y hx hy bx bY r ?_
    have h1 := key_inj W (r + 1) _ _ (mixN_len _) (mixN_len _) h
    have h2 := mix_inj _ _ (turnN_len _) (turnN_len _) h1
    exact turn_inj _ _ (blk_len _ _ _) (blk_len _ _ _) (blk_byt hW bx r) (blk_byt hW bY r) h2
theorem block_inj (W : List Nat) (hW : Byt W) (x y : List Nat) (hx : x.length = 16) (hy : y.length = 16) (bx : Byt x) (bY : Byt y) (h : blockN W x = blockN W y) : x = y := by
  have h1 := key_inj W 10 _ _ (turnN_len _) (turnN_len _) h
  exact blk_inj W hW x y hx hy bx bY 9 (turn_inj _ _ (blk_len _ _ _) (blk_len _ _ _) (blk_byt hW bx 9) (blk_byt hW bY 9) h1)
end Go.Proofs.Ytjjemkfkpnemoaa
