/- The reference's block: plain laws, and what memory holds on the way. -/
import Derived.Test.YtikmhlbpefednaaAesWw
namespace Go.Proofs.Ytikmhlbpefednaa
open Go.RowKit

def mk4 (j : Nat) : Nat := [2, 3, 1, 1].getD j 0
theorem mk4_lt (j : Nat) : mk4 j < 256 := by
  unfold mk4
  rcases (show j = 0 ∨ j = 1 ∨ j = 2 ∨ j = 3 ∨ 4 ≤ j by omega) with rfl | rfl | rfl | rfl | h
  · decide
  · decide
  · decide
  · decide
  · rw [List.getD_eq_getElem?_getD, List.getElem?_eq_none (by simpa using h)]; decide
def xacc (U : List Nat) (col row : Nat) : Nat → Nat
  | 0 => 0
  | k + 1 => xacc U col row k ^^^ timesP (mk4 ((k + 4 - row) % 4)) (U.getD (4 * col + k) 0)
theorem xacc_lt (U : List Nat) (col row : Nat) : ∀ k, xacc U col row k < 256
  | 0 => by simp [xacc]
  | k + 1 => Nat.xor_lt_two_pow (n := 8) (xacc_lt U col row k) (timesP_lt _ _ (mk4_lt _))
theorem t1m (a : Nat) (h : a < 256) : timesP 1 a = a := by
  have := allR 256 (fun r => sumP 8 1 r == r) (by decide +kernel) a h
  unfold timesP; rw [titer_eq]; exact beq_iff_eq.1 this
theorem t2m (a : Nat) (h : a < 256) : timesP 2 a = dbl a := by
  have := allR 256 (fun r => sumP 8 2 r == dbl r) (by decide +kernel) a h
  unfold timesP; rw [titer_eq]; exact beq_iff_eq.1 this
theorem t3m (a : Nat) (h : a < 256) : timesP 3 a = dbl a ^^^ a := by
  have := allR 256 (fun r => sumP 8 3 r == dbl r ^^^ r) (by decide +kernel) a h
  unfold timesP; rw [titer_eq]; exact beq_iff_eq.1 this
theorem xacc_mix (U : List Nat) (hU : Byt U) (col row : Nat) (hr : row < 4) : xacc U col row 4 = mixV U (4 * col + row) := by
  have e : ∀ r, r < 4 → (4 * col + r) / 4 * 4 = 4 * col ∧ (4 * col + r) % 4 = r := fun r h => by omega
  have h0 := hU (4 * col)
  have h1 := hU (4 * col + 1)
  have h2 := hU (4 * col + 2)
  have h3 := hU (4 * col + 3)
  rcases (show row = 0 ∨ row = 1 ∨ row = 2 ∨ row = 3 by omega) with rfl | rfl | rfl | rfl
  · obtain ⟨q1, q2⟩ := e 0 (by omega)
    rw [Nat.add_zero] at q1 q2
    simp only [mixV, xacc, mk4, Nat.add_zero, q1, q2]
    simp only [List.getD_cons_zero, List.getD_cons_succ, Nat.reduceAdd, Nat.reduceSub, Nat.reduceMod, Nat.add_zero, t1m _ h2, t1m _ h3, t2m _ h0, t3m _ h1, Nat.zero_xor, Nat.zero_add]
    ac_rfl
  · obtain ⟨q1, q2⟩ := e 1 (by omega)
    simp only [mixV, xacc, mk4, q1, q2]
    simp only [List.getD_cons_zero, List.getD_cons_succ, Nat.reduceAdd, Nat.reduceSub, Nat.reduceMod, Nat.add_zero, t1m _ h0, t1m _ h3, t2m _ h1, t3m _ h2, Nat.zero_xor, Nat.zero_add]
    ac_rfl
  · obtain ⟨q1, q2⟩ := e 2 (by omega)
    simp only [mixV, xacc, mk4, q1, q2]
    simp only [List.getD_cons_zero, List.getD_cons_succ, Nat.reduceAdd, Nat.reduceSub, Nat.reduceMod, Nat.add_zero, t1m _ h0, t1m _ h1, t2m _ h2, t3m _ h3, Nat.zero_xor, Nat.zero_add]
    ac_rfl
  · obtain ⟨q1, q2⟩ := e 3 (by omega)
    simp only [mixV, xacc, mk4, q1, q2]
    simp only [List.getD_cons_zero, List.getD_cons_succ, Nat.reduceAdd, Nat.reduceSub, Nat.reduceMod, Nat.add_zero, t1m _ h1, t1m _ h2, t2m _ h3, t3m _ h0, Nat.zero_xor, Nat.zero_add]
    ac_rfl

/-- An array under way: the first i entries are f's. -/
def into (A : List Nat) (f : Nat → Nat) (i : Nat) : List Nat := tab 16 fun j => if j < i then f j else A.getD j 0
theorem into_len (A : List Nat) (f : Nat → Nat) (i : Nat) : (into A f i).length = 16 := tab_len _ _
theorem into_zero (A : List Nat) (f : Nat → Nat) (h : A.length = 16) : into A f 0 = A := by
  unfold into
  have := tab_of 16 A h
  rw [← this]
  refine tab_congr 16 _ _ fun j hj => ?_
  rw [if_neg (by omega), this]
theorem into_set (A : List Nat) (f : Nat → Nat) (i : Nat) (hi : i < 16) : (into A f i).set i (f i) = into A f (i + 1) := by
  unfold into
  refine tab_set 16 _ _ i _ hi (by simp) fun j hj hne => ?_
  have : (j < i + 1) ↔ (j < i) := by omega
  simp only [this]
theorem into_end (A : List Nat) (f : Nat → Nat) : into A f 16 = tab 16 f := by
  unfold into
  exact tab_congr 16 _ _ fun j hj => by rw [if_pos hj]
theorem into_byt {A : List Nat} (hA : Byt A) {f : Nat → Nat} (hf : ∀ j, j < 16 → f j < 256) (i : Nat) : Byt (into A f i) := by
  unfold into
  refine Byt.tab 16 _ fun j hj => ?_
  split
  · exact hf j hj
  · exact hA j
def turnF (S : List Nat) (j : Nat) : Nat := sbox.getD (S.getD ((j + 4 * (j % 4)) % 16) 0) 0
theorem turnF_at (S : List Nat) (col row : Nat) (hc : col < 4) (hr : row < 4) : turnF S (4 * col + row) = sbox.getD (S.getD (4 * ((col + row) % 4) + row) 0) 0 := by
  unfold turnF
  congr 2
  omega
theorem turn_end (S A : List Nat) : into A (turnF S) 16 = turnN S := by
  rw [into_end]; unfold turnN turnTo turnF
  exact tab_congr 16 _ _ fun j hj => by rw [if_pos hj]
theorem mix_end (U A : List Nat) : into A (mixV U) 16 = mixN U := by
  rw [into_end]; unfold mixN mixTo
  exact tab_congr 16 _ _ fun j hj => by rw [if_pos hj]
def keyF (W : List Nat) (r : Nat) (T : List Nat) (j : Nat) : Nat := T.getD j 0 ^^^ W.getD (16 * r + j) 0
theorem key_end (W : List Nat) (r : Nat) (T A : List Nat) : into A (keyF W r T) 16 = keyN W r T := by
  rw [into_end]; unfold keyN keyTo keyF
  exact tab_congr 16 _ _ fun j hj => by rw [if_pos hj]
/-- The state behind r rounds. -/
def sN (W b : List Nat) (r : Nat) : List Nat := if r ≤ 9 then blk W b r else blockN W b
theorem sN_len (W b : List Nat) (r : Nat) : (sN W b r).length = 16 := by unfold sN; split; exact blk_len _ _ _; exact keyN_len _ _ _
theorem sN_byt {W b : List Nat} (hW : Byt W) (hb : Byt b) (r : Nat) : Byt (sN W b r) := by
  unfold sN; split
  · exact blk_byt hW hb r
  · exact keyN_byt 10 hW (turnN_byt _)
theorem sN_next (W b : List Nat) (r : Nat) (h : r < 9) : sN W b (r + 1) = keyN W (r + 1) (mixN (turnN (sN W b r))) := by
  unfold sN; rw [if_pos (by omega), if_pos (by omega)]; rfl
theorem sN_last (W b : List Nat) : sN W b 10 = keyN W 10 (turnN (sN W b 9)) := rfl

/-- What memory holds in the reference's block: the result, the matrix, the state, another array. -/
structure Ph (w wx : World) (bt : Nat) (S T : List Nat) : Prop where
  res : wx.heap[w.heap.size + 1]? = some (.cells (ivA .u8 (zeros 16)) 32 (0, 0))
  mat : wx.heap[w.heap.size + 2]? = some (.cells (ivA .u8 [2, 3, 1, 1]) 220 (0, 0))
  st : wx.heap[w.heap.size + 3]? = some (.cells (ivA .u8 S) 32 (0, 0))
  ot : wx.heap[bt]? = some (.cells (ivA .u8 T) 32 (0, 0))
  ne : bt ≠ w.heap.size + 1 ∧ bt ≠ w.heap.size + 2 ∧ bt ≠ w.heap.size + 3 ∧ w.heap.size ≤ bt
  bel : Below w.heap.size w wx

theorem Ph.still {w wx wy : World} {bt : Nat} {S T : List Nat} (h : Ph w wx bt S T) (hs : Still [] wx wy) : Ph w wy bt S T :=
  ⟨hs.heap h.res (by simp), hs.heap h.mat (by simp), hs.heap h.st (by simp), hs.heap h.ot (by simp), h.ne, h.bel.trans (hs.below h.bel.size (by simp))⟩
theorem Ph.setT {w wx : World} {bt : Nat} {S T : List Nat} (h : Ph w wx bt S T) (i x : Nat) : Ph w (wx.setCell ⟨bt, i, none⟩ (.int .u8 (x : Nat))) bt S (T.set i x) := by
  have hl := h.ne
  exact ⟨(row_other (by omega)).trans h.res, (row_other (by omega)).trans h.mat, (row_other (by omega)).trans h.st, row_set h.ot i x, h.ne, Below.set3 h.bel (by omega) _⟩
theorem Ph.setS {w wx : World} {bt : Nat} {S T : List Nat} (h : Ph w wx bt S T) (i x : Nat) : Ph w (wx.setCell ⟨w.heap.size + 3, i, none⟩ (.int .u8 (x : Nat))) bt (S.set i x) T := by
  have hl := h.ne
  exact ⟨(row_other (by omega)).trans h.res, (row_other (by omega)).trans h.mat, row_set h.st i x, (row_other (by omega)).trans h.ot, h.ne, Below.set3 h.bel (by omega) _⟩
theorem Ph.size {w wx : World} {bt : Nat} {S T : List Nat} (h : Ph w wx bt S T) : w.heap.size + 3 < wx.heap.size ∧ bt < wx.heap.size := ⟨(Array.getElem?_eq_some_iff.1 h.st).1, (Array.getElem?_eq_some_iff.1 h.ot).1⟩
theorem Ph.new {w wx : World} {bt : Nat} {S T : List Nat} (h : Ph w wx bt S T) (X : List Nat) : Ph w (wx.alloc (.cells (ivA .u8 X) 32)) wx.heap.size S X := by
  have hs := h.size
  exact ⟨(al_old _ _ _ (by omega)).trans h.res, (al_old _ _ _ (by omega)).trans h.mat, (al_old _ _ _ (by omega)).trans h.st, al_new _ _ _ rfl, by omega, h.bel.alloc h.bel.size _⟩
theorem Ph.alloc {w wx : World} {bt : Nat} {S T : List Nat} (h : Ph w wx bt S T) (o : Obj) : Ph w (wx.alloc o) bt S T := h.still (Still.of_below ((Below.refl _ _).alloc (Nat.le_refl _) _))
end Go.Proofs.Ytikmhlbpefednaa
