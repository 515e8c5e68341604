/- Plain laws on the words: each word out of those ahead of it. -/
import Derived.Test.YtikmhlbpefednaaAesV
namespace Go.Proofs.Ytikmhlbpefednaa
open Go.RowKit

theorem wput_new (W : List Nat) (rd a : Nat) : ∀ i j, j < i → a + i ≤ W.length → (wput W rd a i).getD (a + j) 0 = W.getD (a - 16 + j) 0 ^^^ wt W rd a j
  | 0, _, h, _ => by omega
  | i + 1, j, h, hl => by
    rw [wput]
    by_cases hj : j = i
    · subst hj
      rw [List.getD_eq_getElem?_getD, List.getElem?_set_self (by rw [wput_len]; omega)]; rfl
    · rw [List.getD_eq_getElem?_getD, List.getElem?_set_ne (by omega), ← List.getD_eq_getElem?_getD]
      exact wput_new W rd a i j (by omega) (by omega)
theorem ws_keep (key : List Nat) (n : Nat) : ∀ d idx, idx < 16 + 4 * n → (ws key (n + d)).1.getD idx 0 = (ws key n).1.getD idx 0
  | 0, _, _ => rfl
  | d + 1, idx, h => by
    rw [show n + (d + 1) = (n + d) + 1 from rfl, ws]
    rw [wput_old _ _ _ _ _ (by omega)]
    exact ws_keep key n d idx h
theorem W_key (key : List Nat) (hk : key.length = 16) (j : Nat) (hj : j < 16) : (wordsN key).getD j 0 = key.getD j 0 := by
  have h := ws_keep key 0 40 j (by omega)
  rw [Nat.zero_add] at h
  rw [wordsN_eq, h, ws]
  simp only [List.getD_eq_getElem?_getD]
  rw [List.getElem?_append_left (by omega)]
def rk (key : List Nat) (i : Nat) : Nat := (ws key (i - 4)).2
theorem rk_next (key : List Nat) (i : Nat) (h : 4 ≤ i) : rk key (i + 1) = if i % 4 = 0 then dbl (rk key i) else rk key i := by
  unfold rk
  rw [show i + 1 - 4 = (i - 4) + 1 by omega, ws]
  have : (16 + 4 * (i - 4)) % 16 = 0 ↔ i % 4 = 0 := by omega
  simp only [this]
theorem rk_low (key : List Nat) (i : Nat) (h : i ≤ 4) : rk key i = 1 := by
  unfold rk; rw [show i - 4 = 0 by omega]; rfl
theorem rk_lt (key : List Nat) (hB : Byt key) (i : Nat) : rk key i < 256 := (ws_byt key hB _).2
theorem wt_congr (W W' : List Nat) (rd a j : Nat) (hj : j < 4) (ha : 4 ≤ a) (h : ∀ i, i < a → W.getD i 0 = W'.getD i 0) : wt W rd a j = wt W' rd a j := by
  unfold wt
  rw [h (a - 3) (by omega), h (a - 2) (by omega), h (a - 1) (by omega), h (a - 4) (by omega), h (a - 4 + j) (by omega)]
theorem W_rec (key : List Nat) (hk : key.length = 16) (i j : Nat) (h4 : 4 ≤ i) (hi : i < 44) (hj : j < 4) :
    (wordsN key).getD (4 * i + j) 0 = (wordsN key).getD (4 * (i - 4) + j) 0 ^^^ wt (wordsN key) (rk key i) (4 * i) j := by
  have hlen := ws_len key hk (i - 4)
  have hold : ∀ idx, idx < 4 * i → (wordsN key).getD idx 0 = (ws key (i - 4)).1.getD idx 0 := fun idx h => by
    have := ws_keep key (i - 4) (40 - (i - 4)) idx (by omega)
    rw [show i - 4 + (40 - (i - 4)) = 40 by omega] at this
    rw [wordsN_eq]; exact this
  have hnew := ws_keep key (i - 4 + 1) (40 - (i - 4 + 1)) (4 * i + j) (by omega)
  rw [show i - 4 + 1 + (40 - (i - 4 + 1)) = 40 by omega, ← wordsN_eq] at hnew
  rw [hnew, ws]
  have e : 16 + 4 * (i - 4) = 4 * i := by omega
  rw [e, wput_new _ _ _ 4 j hj (by omega), show 4 * i - 16 + j = 4 * (i - 4) + j by omega]
  rw [hold (4 * (i - 4) + j) (by omega)]
  congr 1
  exact (wt_congr _ _ _ _ j hj (by omega) hold).symm
theorem times2 (r : Nat) (h : r < 256) : timesP r 2 = dbl r := by
  have := allR 256 (fun r => sumP 8 r 2 == dbl r) (by decide +kernel) r h
  unfold timesP; rw [titer_eq]; exact beq_iff_eq.1 this

def rowW (W : List Nat) (i : Nat) : List Nat := [W.getD (4 * i) 0, W.getD (4 * i + 1) 0, W.getD (4 * i + 2) 0, W.getD (4 * i + 3) 0]
def rowTo (W : List Nat) (i k : Nat) : List Nat := (rowW W i).take k
theorem rowTo_len (W : List Nat) (i k : Nat) (hk : k ≤ 4) : (rowTo W i k).length = k := by simp [rowTo, rowW]; omega
theorem rowTo_snoc (W : List Nat) (i k : Nat) (hk : k < 4) : rowTo W i k ++ [W.getD (4 * i + k) 0] = rowTo W i (k + 1) := by
  rcases (show k = 0 ∨ k = 1 ∨ k = 2 ∨ k = 3 by omega) with rfl | rfl | rfl | rfl <;> rfl
/-- The four bytes that are xored to those of the word four ahead. -/
def tv (W : List Nat) (rd i : Nat) : List Nat := [wt W rd (4 * i) 0, wt W rd (4 * i) 1, wt W rd (4 * i) 2, wt W rd (4 * i) 3]
theorem rowW_get (W : List Nat) (i k : Nat) (hk : k < 4) : (rowW W i).getD k 0 = W.getD (4 * i + k) 0 := by
  rcases (show k = 0 ∨ k = 1 ∨ k = 2 ∨ k = 3 by omega) with rfl | rfl | rfl | rfl <;> rfl
theorem tv_get (W : List Nat) (rd i k : Nat) (hk : k < 4) : (tv W rd i).getD k 0 = wt W rd (4 * i) k := by
  rcases (show k = 0 ∨ k = 1 ∨ k = 2 ∨ k = 3 by omega) with rfl | rfl | rfl | rfl <;> rfl
theorem tv_turn (W : List Nat) (rd i : Nat) (h4 : 4 ≤ i) (h : i % 4 = 0) : tv W rd i = [sbox.getD (W.getD (4 * (i - 1) + 1) 0) 0 ^^^ rd, sbox.getD (W.getD (4 * (i - 1) + 2) 0) 0, sbox.getD (W.getD (4 * (i - 1) + 3) 0) 0, sbox.getD (W.getD (4 * (i - 1)) 0) 0] := by
  have h16 : 4 * i % 16 = 0 := by omega
  simp only [tv, wt, h16, if_true, show ¬ (1 = 0) by decide, show ¬ (2 = 0) by decide, show ¬ (2 = 1) by decide, show ¬ (3 = 0) by decide, show ¬ (3 = 1) by decide, show ¬ (3 = 2) by decide, if_false]
  rw [show 4 * i - 3 = 4 * (i - 1) + 1 by omega, show 4 * i - 2 = 4 * (i - 1) + 2 by omega, show 4 * i - 1 = 4 * (i - 1) + 3 by omega, show 4 * i - 4 = 4 * (i - 1) by omega]
theorem tv_same (W : List Nat) (rd i : Nat) (h4 : 4 ≤ i) (h : ¬ i % 4 = 0) : tv W rd i = rowW W (i - 1) := by
  have h16 : ¬ 4 * i % 16 = 0 := by omega
  simp only [tv, wt, h16, if_false, rowW]
  rw [show 4 * i - 4 = 4 * (i - 1) by omega]
  rfl
end Go.Proofs.Ytikmhlbpefednaa
