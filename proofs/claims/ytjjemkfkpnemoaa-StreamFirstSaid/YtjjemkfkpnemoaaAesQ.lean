import Derived.Test.YtjjemkfkpnemoaaAesP
namespace Go.Proofs.Ytjjemkfkpnemoaa
def PLt : List Nat := [1, 3, 5, 15, 17, 51, 85, 255, 26, 46, 114, 150, 161, 248, 19, 53, 95, 225, 56, 72, 216, 115, 149, 164, 247, 2, 6, 10, 30, 34, 102, 170,
  229, 52, 92, 228, 55, 89, 235, 38, 106, 190, 217, 112, 144, 171, 230, 49, 83, 245, 4, 12, 20, 60, 68, 204, 79, 209, 104, 184, 211, 110, 178, 205,
  76, 212, 103, 169, 224, 59, 77, 215, 98, 166, 241, 8, 24, 40, 120, 136, 131, 158, 185, 208, 107, 189, 220, 127, 129, 152, 179, 206, 73, 219, 118, 154,
  181, 196, 87, 249, 16, 48, 80, 240, 11, 29, 39, 105, 187, 214, 97, 163, 254, 25, 43, 125, 135, 146, 173, 236, 47, 113, 147, 174, 233, 32, 96, 160,
  251, 22, 58, 78, 210, 109, 183, 194, 93, 231, 50, 86, 250, 21, 63, 65, 195, 94, 226, 61, 71, 201, 64, 192, 91, 237, 44, 116, 156, 191, 218, 117,
  159, 186, 213, 100, 172, 239, 42, 126, 130, 157, 188, 223, 122, 142, 137, 128, 155, 182, 193, 88, 232, 35, 101, 175, 234, 37, 111, 177, 200, 67, 197, 84,
  252, 31, 33, 99, 165, 244, 7, 9, 27, 45, 119, 153, 176, 203, 70, 202, 69, 207, 74, 222, 121, 139, 134, 145, 168, 227, 62, 66, 198, 81, 243, 14,
  18, 54, 90, 238, 41, 123, 141, 140, 143, 138, 133, 148, 167, 242, 13, 23, 57, 75, 221, 124, 132, 151, 162, 253, 28, 36, 108, 180, 199, 82, 246, 1]
def QLt : List Nat := [1, 246, 82, 199, 180, 108, 36, 28, 253, 162, 151, 132, 124, 221, 75, 57, 23, 13, 242, 167, 148, 133, 138, 143, 140, 141, 123, 41, 238, 90, 54, 18,
  14, 243, 81, 198, 66, 62, 227, 168, 145, 134, 139, 121, 222, 74, 207, 69, 202, 70, 203, 176, 153, 119, 45, 27, 9, 7, 244, 165, 99, 33, 31, 252,
  84, 197, 67, 200, 177, 111, 37, 234, 175, 101, 35, 232, 88, 193, 182, 155, 128, 137, 142, 122, 223, 188, 157, 130, 126, 42, 239, 172, 100, 213, 186, 159,
  117, 218, 191, 156, 116, 44, 237, 91, 192, 64, 201, 71, 61, 226, 94, 195, 65, 63, 21, 250, 86, 50, 231, 93, 194, 183, 109, 210, 78, 58, 22, 251,
  160, 96, 32, 233, 174, 147, 113, 47, 236, 173, 146, 135, 125, 43, 25, 254, 163, 97, 214, 187, 105, 39, 29, 11, 240, 80, 48, 16, 249, 87, 196, 181,
  154, 118, 219, 73, 206, 179, 152, 129, 127, 220, 189, 107, 208, 185, 158, 131, 136, 120, 40, 24, 8, 241, 166, 98, 215, 77, 59, 224, 169, 103, 212, 76,
  205, 178, 110, 211, 184, 104, 209, 79, 204, 68, 60, 20, 12, 4, 245, 83, 49, 230, 171, 144, 112, 217, 190, 106, 38, 235, 89, 55, 228, 92, 52, 229,
  170, 102, 34, 30, 10, 6, 2, 247, 164, 149, 115, 216, 72, 56, 225, 95, 53, 19, 248, 161, 150, 114, 46, 26, 255, 85, 51, 17, 15, 5, 3, 1]
def sbox : List Nat := [99, 124, 119, 123, 242, 107, 111, 197, 48, 1, 103, 43, 254, 215, 171, 118, 202, 130, 201, 125, 250, 89, 71, 240, 173, 212, 162, 175, 156, 164, 114, 192,
  183, 253, 147, 38, 54, 63, 247, 204, 52, 165, 229, 241, 113, 216, 49, 21, 4, 199, 35, 195, 24, 150, 5, 154, 7, 18, 128, 226, 235, 39, 178, 117,
  9, 131, 44, 26, 27, 110, 90, 160, 82, 59, 214, 179, 41, 227, 47, 132, 83, 209, 0, 237, 32, 252, 177, 91, 106, 203, 190, 57, 74, 76, 88, 207,
  208, 239, 170, 251, 67, 77, 51, 133, 69, 249, 2, 127, 80, 60, 159, 168, 81, 163, 64, 143, 146, 157, 56, 245, 188, 182, 218, 33, 16, 255, 243, 210,
  205, 12, 19, 236, 95, 151, 68, 23, 196, 167, 126, 61, 100, 93, 25, 115, 96, 129, 79, 220, 34, 42, 144, 136, 70, 238, 184, 20, 222, 94, 11, 219,
  224, 50, 58, 10, 73, 6, 36, 92, 194, 211, 172, 98, 145, 149, 228, 121, 231, 200, 55, 109, 141, 213, 78, 169, 108, 86, 244, 234, 101, 122, 174, 8,
  186, 120, 37, 46, 28, 166, 180, 198, 232, 221, 116, 31, 75, 189, 139, 138, 112, 62, 181, 102, 72, 3, 246, 14, 97, 53, 87, 185, 134, 193, 29, 158,
  225, 248, 152, 17, 105, 217, 142, 148, 155, 30, 135, 233, 206, 85, 40, 223, 140, 161, 137, 13, 191, 230, 66, 104, 65, 153, 45, 15, 176, 84, 187, 22]
def isbox : List Nat := [82, 9, 106, 213, 48, 54, 165, 56, 191, 64, 163, 158, 129, 243, 215, 251, 124, 227, 57, 130, 155, 47, 255, 135, 52, 142, 67, 68, 196, 222, 233, 203,
  84, 123, 148, 50, 166, 194, 35, 61, 238, 76, 149, 11, 66, 250, 195, 78, 8, 46, 161, 102, 40, 217, 36, 178, 118, 91, 162, 73, 109, 139, 209, 37,
  114, 248, 246, 100, 134, 104, 152, 22, 212, 164, 92, 204, 93, 101, 182, 146, 108, 112, 72, 80, 253, 237, 185, 218, 94, 21, 70, 87, 167, 141, 157, 132,
  144, 216, 171, 0, 140, 188, 211, 10, 247, 228, 88, 5, 184, 179, 69, 6, 208, 44, 30, 143, 202, 63, 15, 2, 193, 175, 189, 3, 1, 19, 138, 107,
  58, 145, 17, 65, 79, 103, 220, 234, 151, 242, 207, 206, 240, 180, 230, 115, 150, 172, 116, 34, 231, 173, 53, 133, 226, 249, 55, 232, 28, 117, 223, 110,
  71, 241, 26, 113, 29, 41, 197, 137, 111, 183, 98, 14, 170, 24, 190, 27, 252, 86, 62, 75, 198, 210, 121, 32, 154, 219, 192, 254, 120, 205, 90, 244,
  31, 221, 168, 51, 136, 7, 199, 49, 177, 18, 16, 89, 39, 128, 236, 95, 96, 81, 127, 169, 25, 181, 74, 13, 45, 229, 122, 159, 147, 201, 156, 239,
  160, 224, 59, 77, 174, 42, 245, 176, 200, 235, 187, 60, 131, 83, 153, 97, 23, 43, 4, 126, 186, 119, 214, 38, 225, 105, 20, 99, 85, 33, 12, 125]

def xr (q : Nat) : Nat → Nat
  | 0 => q
  | m + 1 => xr q m ^^^ rotl8 q (m + 1)
def pl (k : Nat) : Nat := PLt.getD k 0
def ql (k : Nat) : Nat := QLt.getD k 0
theorem allR (n : Nat) (p : Nat → Bool) (h : (List.range n).all p = true) (k : Nat) (hk : k < n) : p k = true := List.all_eq_true.1 h k (List.mem_range.2 hk)
theorem pl_step (k : Nat) (hk : k < 255) : timesP (pl k) 3 = pl (k + 1) := by
  have := allR 255 (fun k => sumP 8 (pl k) 3 == pl (k + 1)) (by decide +kernel) k hk
  unfold timesP; rw [titer_eq]; exact beq_iff_eq.1 this
theorem ql_step (k : Nat) (hk : k < 255) : timesP (ql k) 246 = ql (k + 1) := by
  have := allR 255 (fun k => sumP 8 (ql k) 246 == ql (k + 1)) (by decide +kernel) k hk
  unfold timesP; rw [titer_eq]; exact beq_iff_eq.1 this
theorem pl_one (k : Nat) (h1 : 1 ≤ k) (hk : k < 255) : pl k ≠ 1 := by
  have := allR 255 (fun k => k == 0 || pl k != 1) (by decide +kernel) k hk
  simp at this
  rcases this with h | h
  · omega
  · exact h
theorem pl_end : pl 255 = 1 := by decide
theorem pl_lt (k : Nat) (hk : k ≤ 255) : pl k < 256 ∧ ql k < 256 ∧ 1 ≤ pl k := by
  have := allR 256 (fun k => decide (pl k < 256 ∧ ql k < 256 ∧ 1 ≤ pl k)) (by decide +kernel) k (by omega)
  exact of_decide_eq_true this
theorem sbox_at (k : Nat) (h1 : 1 ≤ k) (hk : k ≤ 255) : sbox.getD (pl k) 0 = xr (ql k) 4 ^^^ 99 := by
  have := allR 256 (fun k => k == 0 || sbox.getD (pl k) 0 == xr (ql k) 4 ^^^ 99) (by decide +kernel) k (by omega)
  simp at this
  rcases this with h | h
  · omega
  · simpa [List.getD_eq_getElem?_getD] using h
/-- Each byte but 0 is met. -/
theorem pl_all (v : Nat) (h1 : 1 ≤ v) (hv : v < 256) : ∃ k, 1 ≤ k ∧ k ≤ 255 ∧ pl k = v := by
  have := allR 256 (fun v => v == 0 || (List.range 255).any fun k => pl (k + 1) == v) (by decide +kernel) v hv
  simp only [Bool.or_eq_true, beq_iff_eq, List.any_eq_true, List.mem_range] at this
  rcases this with h | ⟨k, hk, h⟩
  · omega
  · exact ⟨k + 1, by omega, by omega, h⟩
theorem sbox_len : sbox.length = 256 := by decide +kernel
theorem sbox_lt (v : Nat) : sbox.getD v 0 < 256 := by
  rcases Nat.lt_or_ge v 256 with h | h
  · exact of_decide_eq_true (allR 256 (fun v => decide (sbox.getD v 0 < 256)) (by decide +kernel) v h)
  · rw [List.getD_eq_getElem?_getD, List.getElem?_eq_none (by rw [sbox_len]; exact h)]; simp
theorem isbox_sbox (v : Nat) (hv : v < 256) : isbox.getD (sbox.getD v 0) 0 = v := by
  have := allR 256 (fun v => isbox.getD (sbox.getD v 0) 0 == v) (by decide +kernel) v hv
  exact beq_iff_eq.1 this
theorem sbox_inj (a b : Nat) (ha : a < 256) (hb : b < 256) (h : sbox.getD a 0 = sbox.getD b 0) : a = b := by
  rw [← isbox_sbox a ha, h, isbox_sbox b hb]
theorem rotl8_lt (x n : Nat) (hx : x < 256) : rotl8 x n < 256 := by
  unfold rotl8
  refine Nat.or_lt_two_pow (n := 8) (by omega) ?_
  rw [Nat.shiftRight_eq_div_pow]
  exact Nat.lt_of_le_of_lt (Nat.div_le_self _ _) hx
theorem xr_lt (q : Nat) (hq : q < 256) : ∀ m, xr q m < 256
  | 0 => hq
  | m + 1 => Nat.xor_lt_two_pow (n := 8) (xr_lt q hq m) (rotl8_lt q _ hq)
/-- What the loop's table is behind its last round. -/
theorem table_end (O : List Nat) (hl : O.length = 256) (h : ∀ j, 1 ≤ j → j ≤ 255 → O.getD (pl j) 0 = sbox.getD (pl j) 0) : O.set 0 99 = sbox := by
  refine List.ext_getElem? fun i => ?_
  rcases Nat.lt_or_ge i 256 with hi | hi
  · by_cases h0 : i = 0
    · subst h0
      rw [List.getElem?_set_self (by omega)]; rfl
    · rw [List.getElem?_set_ne (by omega)]
      obtain ⟨k, k1, k2, rfl⟩ := pl_all i (by omega) hi
      have := h k k1 k2
      rw [List.getD_eq_getElem?_getD, List.getD_eq_getElem?_getD, List.getElem?_eq_getElem (by omega), List.getElem?_eq_getElem (by rw [sbox_len]; omega)] at this
      rw [List.getElem?_eq_getElem (by omega), List.getElem?_eq_getElem (by rw [sbox_len]; omega)]
      simpa using this
  · rw [List.getElem?_eq_none (by rw [List.length_set]; omega), List.getElem?_eq_none (by rw [sbox_len]; omega)]
attribute [irreducible] sbox isbox
end Go.Proofs.Ytjjemkfkpnemoaa
