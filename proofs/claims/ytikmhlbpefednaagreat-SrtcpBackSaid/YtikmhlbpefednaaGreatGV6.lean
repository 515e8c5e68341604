/- The reference's block: plain laws, and what memory holds on the way. The reference's block. No condition. -/
import Derived.Test.YtikmhlbpefednaaGreatAesWw
import Derived.Deep.DeepCutAuto
namespace Go.Proofs.YtikmhlbpefednaaGreat
open Go.RowKit
def mk4 (j : Nat) : Nat := [2, 3, 1, 1].getD j 0
theorem mk4_lt (j : Nat) : mk4 j < 256 := by
 unfold mk4
 rcases (show j = 0 ∨ j = 1 ∨ j = 2 ∨ j = 3 ∨ 4 ≤ j by omega) with rfl | rfl | rfl | rfl | h
 ·decide
 ·decide
 ·decide
 ·decide
 ·rw [List.getD_eq_getElem?_getD, List.getElem?_eq_none (by simpa using h)]; decide
def xacc (U : List Nat) (col row : Nat) : Nat → Nat
 | 0 => 0
 | k + 1 => xacc U col row k ^^^ timesP (mk4 ((k + 4 - row) % 4)) (U.getD (4 * col + k) 0)
theorem xacc_lt (U : List Nat) (col row : Nat) : ∀ k, xacc U col row k < 256
 | 0 => by simp [xacc]
 | k + 1 => Nat.xor_lt_two_pow (n := 8) (xacc_lt U col row k) (timesP_lt _ _ (mk4_lt _))
theorem t1m (a : Nat) (h : a < 256) : timesP 1 a = a := by
 have := allR 256 (fun r => sumP 8 1 r == r) (by decide +kernel) a h
 unfold timesP; rw [titer_eq]; exact beq_iff_eq.1 this
theorem t2m (a : Nat) (h : a < 256) : timesP 2 a = dbl a := by
 have := allR 256 (fun r => sumP 8 2 r == dbl r) (by decide +kernel) a h
 unfold timesP; rw [titer_eq]; exact beq_iff_eq.1 this
theorem t3m (a : Nat) (h : a < 256) : timesP 3 a = dbl a ^^^ a := by
 have := allR 256 (fun r => sumP 8 3 r == dbl r ^^^ r) (by decide +kernel) a h
 unfold timesP; rw [titer_eq]; exact beq_iff_eq.1 this
theorem xacc_mix (U : List Nat) (hU : Byt U) (col row : Nat) (hr : row < 4) : xacc U col row 4 = mixV U (4 * col + row) := by
 have e : ∀ r, r < 4 → (4 * col + r) / 4 * 4 = 4 * col ∧ (4 * col + r) % 4 = r := fun r h => by omega
 have h0 := hU (4 * col)
 have h1 := hU (4 * col + 1)
 have h2 := hU (4 * col + 2)
 have h3 := hU (4 * col + 3)
 rcases (show row = 0 ∨ row = 1 ∨ row = 2 ∨ row = 3 by omega) with rfl | rfl | rfl | rfl
 ·obtain ⟨q1, q2⟩ := e 0 (by omega)
  rw [Nat.add_zero] at q1 q2
  simp only [mixV, xacc, mk4, Nat.add_zero, q1, q2]
  simp only [List.getD_cons_zero, List.getD_cons_succ, Nat.reduceAdd, Nat.reduceSub, Nat.reduceMod, Nat.add_zero, t1m _ h2, t1m _ h3, t2m _ h0, t3m _ h1, Nat.zero_xor, Nat.zero_add]
  ac_rfl
 ·obtain ⟨q1, q2⟩ := e 1 (by omega)
  simp only [mixV, xacc, mk4, q1, q2]
  simp only [List.getD_cons_zero, List.getD_cons_succ, Nat.reduceAdd, Nat.reduceSub, Nat.reduceMod, Nat.add_zero, t1m _ h0, t1m _ h3, t2m _ h1, t3m _ h2, Nat.zero_xor, Nat.zero_add]
  ac_rfl
 ·obtain ⟨q1, q2⟩ := e 2 (by omega)
  simp only [mixV, xacc, mk4, q1, q2]
  simp only [List.getD_cons_zero, List.getD_cons_succ, Nat.reduceAdd, Nat.reduceSub, Nat.reduceMod, Nat.add_zero, t1m _ h0, t1m _ h1, t2m _ h2, t3m _ h3, Nat.zero_xor, Nat.zero_add]
  ac_rfl
 ·obtain ⟨q1, q2⟩ := e 3 (by omega)
  simp only [mixV, xacc, mk4, q1, q2]
  simp only [List.getD_cons_zero, List.getD_cons_succ, Nat.reduceAdd, Nat.reduceSub, Nat.reduceMod, Nat.add_zero, t1m _ h1, t1m _ h2, t2m _ h3, t3m _ h0, Nat.zero_xor, Nat.zero_add]
  ac_rfl
def into (A : List Nat) (f : Nat → Nat) (i : Nat) : List Nat := tab 16 fun j => if j < i then f j else A.getD j 0
theorem into_len (A : List Nat) (f : Nat → Nat) (i : Nat) : (into A f i).length = 16 := tab_len _ _
theorem into_zero (A : List Nat) (f : Nat → Nat) (h : A.length = 16) : into A f 0 = A := by
 unfold into
 have := tab_of 16 A h
 rw [← this]
 refine tab_congr 16 _ _ fun j hj => ?_
 rw [if_neg (by omega), this]
theorem into_set (A : List Nat) (f : Nat → Nat) (i : Nat) (hi : i < 16) : (into A f i).set i (f i) = into A f (i + 1) := by
 unfold into
 refine tab_set 16 _ _ i _ hi (by simp) fun j hj hne => ?_
 have : (j < i + 1) ↔ (j < i) := by omega
 simp only [this]
theorem into_end (A : List Nat) (f : Nat → Nat) : into A f 16 = tab 16 f := by
 unfold into
 exact tab_congr 16 _ _ fun j hj => by rw [if_pos hj]
def turnF (S : List Nat) (j : Nat) : Nat := sbox.getD (S.getD ((j + 4 * (j % 4)) % 16) 0) 0
theorem turnF_at (S : List Nat) (col row : Nat) (hc : col < 4) (hr : row < 4) : turnF S (4 * col + row) = sbox.getD (S.getD (4 * ((col + row) % 4) + row) 0) 0 := by
 unfold turnF
 congr 2
 omega
theorem turn_end (S A : List Nat) : into A (turnF S) 16 = turnN S := by
 rw [into_end]; unfold turnN turnTo turnF
 exact tab_congr 16 _ _ fun j hj => by rw [if_pos hj]
theorem mix_end (U A : List Nat) : into A (mixV U) 16 = mixN U := by
 rw [into_end]; unfold mixN mixTo
 exact tab_congr 16 _ _ fun j hj => by rw [if_pos hj]
def keyF (W : List Nat) (r : Nat) (T : List Nat) (j : Nat) : Nat := T.getD j 0 ^^^ W.getD (16 * r + j) 0
theorem key_end (W : List Nat) (r : Nat) (T A : List Nat) : into A (keyF W r T) 16 = keyN W r T := by
 rw [into_end]; unfold keyN keyTo keyF
 exact tab_congr 16 _ _ fun j hj => by rw [if_pos hj]
def sN (W b : List Nat) (r : Nat) : List Nat := if r ≤ 9 then blk W b r else blockN W b
theorem sN_len (W b : List Nat) (r : Nat) : (sN W b r).length = 16 := by unfold sN; split; exact blk_len _ _ _; exact keyN_len _ _ _
theorem sN_byt {W b : List Nat} (hW : Byt W) (hb : Byt b) (r : Nat) : Byt (sN W b r) := by
 unfold sN; split
 ·exact blk_byt hW hb r
 ·exact keyN_byt 10 hW (turnN_byt _)
theorem sN_next (W b : List Nat) (r : Nat) (h : r < 9) : sN W b (r + 1) = keyN W (r + 1) (mixN (turnN (sN W b r))) := by
 unfold sN; rw [if_pos (by omega), if_pos (by omega)]; rfl
theorem sN_last (W b : List Nat) : sN W b 10 = keyN W 10 (turnN (sN W b 9)) := rfl
structure Ph (w wx : World) (bt : Nat) (S T : List Nat) : Prop where
 res : wx.heap[w.heap.size + 1]? = some (.cells (ivA .u8 (zeros 16)) 22 (0, 0))
 mat : wx.heap[w.heap.size + 2]? = some (.cells (ivA .u8 [2, 3, 1, 1]) 224 (0, 0))
 st : wx.heap[w.heap.size + 3]? = some (.cells (ivA .u8 S) 22 (0, 0))
 ot : wx.heap[bt]? = some (.cells (ivA .u8 T) 22 (0, 0))
 ne : bt ≠ w.heap.size + 1 ∧ bt ≠ w.heap.size + 2 ∧ bt ≠ w.heap.size + 3 ∧ w.heap.size ≤ bt
 bel : Below w.heap.size w wx
theorem Ph.still {w wx wy : World} {bt : Nat} {S T : List Nat} (h : Ph w wx bt S T) (hs : Still [] wx wy) : Ph w wy bt S T :=
 ⟨hs.heap h.res (by simp), hs.heap h.mat (by simp), hs.heap h.st (by simp), hs.heap h.ot (by simp), h.ne, h.bel.trans (hs.below h.bel.size (by simp))⟩
theorem Ph.setT {w wx : World} {bt : Nat} {S T : List Nat} (h : Ph w wx bt S T) (i x : Nat) : Ph w (wx.setCell ⟨bt, i, none⟩ (.int .u8 (x : Nat))) bt S (T.set i x) := by
 have hl := h.ne
 exact ⟨(row_other (by omega)).trans h.res, (row_other (by omega)).trans h.mat, (row_other (by omega)).trans h.st, row_set h.ot i x, h.ne, Below.set3 h.bel (by omega) _⟩
theorem Ph.setS {w wx : World} {bt : Nat} {S T : List Nat} (h : Ph w wx bt S T) (i x : Nat) : Ph w (wx.setCell ⟨w.heap.size + 3, i, none⟩ (.int .u8 (x : Nat))) bt (S.set i x) T := by
 have hl := h.ne
 exact ⟨(row_other (by omega)).trans h.res, (row_other (by omega)).trans h.mat, row_set h.st i x, (row_other (by omega)).trans h.ot, h.ne, Below.set3 h.bel (by omega) _⟩
theorem Ph.size {w wx : World} {bt : Nat} {S T : List Nat} (h : Ph w wx bt S T) : w.heap.size + 3 < wx.heap.size ∧ bt < wx.heap.size := ⟨(Array.getElem?_eq_some_iff.1 h.st).1, (Array.getElem?_eq_some_iff.1 h.ot).1⟩
theorem Ph.new {w wx : World} {bt : Nat} {S T : List Nat} (h : Ph w wx bt S T) (X : List Nat) : Ph w (wx.alloc (.cells (ivA .u8 X) 22)) wx.heap.size S X := by
 have hs := h.size
 exact ⟨(al_old _ _ _ (by omega)).trans h.res, (al_old _ _ _ (by omega)).trans h.mat, (al_old _ _ _ (by omega)).trans h.st, al_new _ _ _ rfl, by omega, h.bel.alloc h.bel.size _⟩
theorem Ph.alloc {w wx : World} {bt : Nat} {S T : List Nat} (h : Ph w wx bt S T) (o : Obj) : Ph w (wx.alloc o) bt S T := h.still (Still.of_below ((Below.refl _ _).alloc (Nat.le_refl _) _))
end Go.Proofs.YtikmhlbpefednaaGreat

namespace Go.Proofs.YtikmhlbpefednaaGreat
open Go.RowKit
set_option maxRecDepth 100000 in
set_option maxHeartbeats 8000000 in
theorem rblock_any (W b : List Nat) (g : Nat) (hb : b.length = 16) (hB : Byt b) (hWb : Byt W) (w : World) (hR : RC w g W) :
  Calls Tryz.prog 98 #[.pointer (some ⟨g, 0, none⟩), .agg (ivA .u8 b)] w fun e w' => e = .returned (.agg (ivA .u8 (blockN W b))) ∧ Below w.heap.size w w' := by
 have hRb := Lib.hid hR.box
 have hRw := Lib.hid hR.word
 clear hR
 replace hb := Lib.hid hb
 replace hB := Lib.hid hB
 replace hWb := Lib.hid hWb
 go_enter Tryz.func98, Tryz.ntmps98
 go_wp2_with (first | (refine wpList_alloc_of rfl 22 rfl _ zero16 ?_))
 have P0 : Hid (Ph w ((((w.alloc (.cells (ivA .u8 b) 22)).alloc (.cells (ivA .u8 (zeros 16)) 22)).alloc (.cells #[.int .u8 2, .int .u8 3, .int .u8 1, .int .u8 1] 224)).alloc (.cells (ivA .u8 (zeros 16)) 22)) w.heap.size (zeros 16) b) :=
  ⟨by rw [al_old _ _ _ (by simp), al_old _ _ _ (by simp), al_new _ _ _ (by simp)], by rw [al_old _ _ _ (by simp), al_new _ _ _ (by simp)]; rfl, al_new _ _ _ (by simp), by rw [al_old _ _ _ (by simp; omega), al_old _ _ _ (by simp; omega), al_old _ _ _ (by simp), al_new _ _ _ rfl], by omega, ((((Below.refl _ _).alloc (Nat.le_refl _) _).alloc (by simp) _).alloc (by simp; omega) _).alloc (by simp; omega) _⟩
 generalize (((w.alloc (.cells (ivA .u8 b) 22)).alloc (.cells (ivA .u8 (zeros 16)) 22)).alloc (.cells #[.int .u8 2, .int .u8 3, .int .u8 1, .int .u8 1] 224)).alloc (.cells (ivA .u8 (zeros 16)) 22) = w4 at *
 have hz16 : Hid ((zeros 16).length = 16) := zeros_len 16
 go_loopg [7] 16 (fun m i wx => ∃ k, m = 16 - k ∧ k ≤ 16 ∧ i = .int .i64 (k : Nat) ∧ Hid (Ph w wx w.heap.size (into (zeros 16) (keyF W 0 b) k) b))
 case atStart => exact ⟨0, by omega, by omega, rfl, by rw [into_zero _ _ hz16.out]; exact P0⟩
 case round =>
  clear P0
  obtain ⟨k, rfl, hk, rfl, P⟩ := hrel
  by_cases hk16 : k < 16
  ·obtain ⟨gW, cW, q1, hrow⟩ := hRw.out
   obtain ⟨f, c, r1, r2⟩ := hrow (k / 4) (by omega)
   have r3 := r2 (k % 4) (by omega)
   rw [show 4 * (k / 4) + k % 4 = k by omega] at r3
   have hup : ∀ x : LaterS [] wr, Below w.heap.size w x.now := fun x => P.out.bel.trans (x.ok.below P.out.bel.size (by simp))
   have f0 : ∀ y : LaterS [] wr, y.now.cell? ⟨g, 1, none⟩ = some (.slice (some ⟨gW, 0, none⟩) 44 cW) := fun y => ((hup y).cell (World.block_lt_of_cell? _ _ q1)).trans q1
   have f1 : ∀ y : LaterS [] wr, y.now.cell? ⟨gW, k / 4, none⟩ = some (.slice (some ⟨f, 0, none⟩) 4 c) := fun y => ((hup y).cell (World.block_lt_of_cell? _ _ r1)).trans r1
   have f2 : ∀ y : LaterS [] wr, y.now.cell? ⟨f, k % 4, none⟩ = some (.int .u8 (W.getD k 0 : Nat)) := fun y => ((hup y).cell (World.block_lt_of_cell? _ _ r3)).trans r3
   have f3 : ∀ y : LaterS [] wr, y.now.cell? ⟨w.heap.size, k, none⟩ = some (.int .u8 (b.getD k 0 : Nat)) := fun y => y.cell (row_cell P.out.ot k (by rw [hb.out]; exact hk16)) (by simp)
   have hx : bits .xor .u8 (b.getD k 0 : Nat) (W.getD k 0 : Nat) = ((keyF W 0 b k : Nat) : Int) := by
    rw [u8_xor_nat _ _ (hB.out k) (hWb.out k)]; unfold keyF; rw [show 16 * 0 + k = k by omega]
   have hset := Lib.hid (into_set (zeros 16) (keyF W 0 b) k hk16)
   clear hrow q1 r1 r2 r3 hup
   generalize b.getD k 0 = y0 at *
   generalize W.getD k 0 = y1 at *
   go_wp2_with fail
   refine wp_region_gg [] [] [17] (by kernel_rfl) ?_
   refine hoist [] [] (a1 := ?_) 0 rfl (by kernel_rfl) (.inl ⟨rfl, rfl⟩) rfl rfl rfl (fun x K hK => ?_) ?_
   rotate_left
   ·go_big_quiet_op
    exact hK
   refine hoist [] [] (a1 := ?_) 1 rfl (by kernel_rfl) (.inl ⟨rfl, rfl⟩) rfl rfl rfl (fun x K hK => ?_) ?_
   rotate_left
   ·go_big_quiet_op
    exact hK
   refine hoist [] [] (a1 := ?_) 2 rfl (by kernel_rfl) (.inl ⟨rfl, rfl⟩) rfl rfl rfl (fun x K hK => ?_) ?_
   rotate_left
   ·go_big_quiet_op
    exact hK
   refine hoist [] [] (a1 := ?_) 3 rfl (by kernel_rfl) (.inl ⟨rfl, rfl⟩) rfl rfl rfl (fun x K hK => ?_) ?_
   rotate_left
   ·go_big_quiet_op
    exact hK
   refine hoist [] [] (a1 := ?_) 4 rfl (by kernel_rfl) (.inl ⟨rfl, rfl⟩) rfl rfl rfl (fun x K hK => ?_) ?_
   rotate_left
   ·go_big_quiet_op
    exact hK
   refine hoist [] [] (a1 := ?_) 5 rfl (by kernel_rfl) (.inl ⟨rfl, rfl⟩) rfl rfl rfl (fun x K hK => ?_) ?_
   rotate_left
   ·go_big_quiet_op
    exact hK
   refine hoist [] [] (a1 := ?_) 6 rfl (by kernel_rfl) (.inl ⟨rfl, rfl⟩) rfl rfl rfl (fun x K hK => ?_) ?_
   rotate_left
   ·go_big_quiet_op
    exact hK
   refine hoist [] [] (a1 := ?_) 7 rfl (by kernel_rfl) (.inl ⟨rfl, rfl⟩) rfl rfl rfl (fun x K hK => ?_) ?_
   rotate_left
   ·go_big_quiet_op
    exact hK
   refine hoist [] [] (a1 := ?_) 8 rfl (by kernel_rfl) (.inl ⟨rfl, rfl⟩) rfl rfl rfl (fun x K hK => ?_) ?_
   rotate_left
   ·go_big_quiet_op
    exact hK
   refine hoist [] [] (a1 := ?_) 9 rfl (by kernel_rfl) (.inl ⟨rfl, rfl⟩) rfl rfl rfl (fun x K hK => ?_) ?_
   rotate_left
   ·go_big_quiet_op
    exact hK
   refine hoist [] [] (a1 := ?_) 10 rfl (by kernel_rfl) (.inl ⟨rfl, rfl⟩) rfl rfl rfl (fun x K hK => ?_) ?_
   rotate_left
   ·go_big_quiet_op
    exact hK
   refine hoist [] [] (a1 := ?_) 11 rfl (by kernel_rfl) (.inl ⟨rfl, rfl⟩) rfl rfl rfl (fun x K hK => ?_) ?_
   rotate_left
   ·go_big_quiet_op
    exact hK
   refine hoist [] [] (a1 := ?_) 12 rfl (by kernel_rfl) (.inl ⟨rfl, rfl⟩) rfl rfl rfl (fun x K hK => ?_) ?_
   rotate_left
   ·go_big_quiet_op
    exact hK
   refine hoist [] [] (a1 := ?_) 13 rfl (by kernel_rfl) (.inl ⟨rfl, rfl⟩) rfl rfl rfl (fun x K hK => ?_) ?_
   rotate_left
   ·go_big_quiet_op
    exact hK
   refine hoist [] [] (a1 := ?_) 14 rfl (by kernel_rfl) (.inl ⟨rfl, rfl⟩) rfl rfl rfl (fun x K hK => ?_) ?_
   rotate_left
   ·go_big_quiet_op
    exact hK
   refine hoist [] [] (a1 := ?_) 15 rfl (by kernel_rfl) (.inl ⟨rfl, rfl⟩) rfl rfl rfl (fun x K hK => ?_) ?_
   rotate_left
   ·go_big_quiet_op
    exact hK
   refine hoist [] [] (a1 := ?_) 16 rfl (by kernel_rfl) (.inl ⟨rfl, rfl⟩) rfl rfl rfl (fun x K hK => ?_) ?_
   rotate_left
   ·go_big_quiet_op
    exact hK
   refine tail 17 rfl (by kernel_rfl) rfl (fun xr => ?_)
   simp only [List.drop_succ_cons, List.drop_zero]
   have P1 := Lib.hid (P.out.still xr.ok)
   have c1 := row_cell P1.out.st k (by rw [into_len]; exact hk16)
   have g1 := row_frozen P1.out.st k
   have P2 := Lib.hid (P1.out.setS k (keyF W 0 b k))
   rw [hset.out] at P2
   clear f0 f1 f2 f3 P P1
   go_wp2_with fail
   go_roundg (16 - (k + 1))
   case measure => omega
   case rel => exact ⟨k + 1, rfl, by omega, by go_num, P2⟩
  ·obtain rfl : k = 16 := by omega
   rw [key_end, show keyN W 0 b = sN W b 0 from rfl] at P
   go_wp2_with fail
   go_loopg [8] 10 (fun m i wx => ∃ r b0 T0, m = 10 - r ∧ r ≤ 10 ∧ i = .int .i64 (((r : Nat) : Int) + 1) ∧ Hid (Ph w wx b0 (sN W b r) T0))
   case atStart => exact ⟨0, _, _, by omega, by omega, rfl, P⟩
   case round =>
    clear P
    obtain ⟨r, b0, T0, rfl, hr, rfl, P⟩ := hrel
    have hSl := Lib.hid (sN_len W b r)
    have hSb := Lib.hid (sN_byt hWb.out hB.out r)
    by_cases hr10 : r < 10
    ·have hnx : Hid (sN W b (r + 1) = keyN W (r + 1) (if r < 9 then mixN (turnN (sN W b r)) else turnN (sN W b r))) := by
      by_cases h : r < 9
      ·rw [if_pos h]; exact sN_next W b r h
      ·rw [if_neg h]; obtain rfl : r = 9 := by omega
       exact sN_last W b
     generalize hS' : sN W b (r + 1) = S' at *
     replace hS' := Lib.hid hS'
     generalize sN W b r = S at *
     have hbx : ∀ j, S.getD j 0 < 256 := hSb.out
     replace hbx := Lib.hid hbx
     have PN := Lib.hid (P.out.new (zeros 16))
     have hn1 := P.out.size
     have d10 : decide ((r : Int) + 1 ≤ 10) = true := by simp; omega
     go_wp2_with (refine wpList_alloc_of rfl 22 rfl _ zero16 ?_)
     generalize wr.alloc (.cells (ivA .u8 (zeros 16)) 22) = w5 at *
     generalize wr.heap.size = bt at *
     clear P hn1
     go_loopg [10] 4 (fun m i wx => ∃ col, m = 4 - col ∧ col ≤ 4 ∧ i = .int .i64 (col : Nat) ∧ Hid (Ph w wx bt S (into (zeros 16) (turnF S) (4 * col))))
     case atStart => exact ⟨0, by omega, by omega, rfl, by rw [into_zero _ _ hz16.out]; exact PN⟩
     case round =>
      clear PN
      obtain ⟨col, rfl, hc, rfl, P⟩ := hrel
      by_cases hc4 : col < 4
      ·have dc : decide ((col : Int) < 4) = true := by simp; omega
       go_wp2_with fail
       go_loopg [11] 4 (fun m i wx => ∃ row, m = 4 - row ∧ row ≤ 4 ∧ i = .int .i64 (row : Nat) ∧ Hid (Ph w wx bt S (into (zeros 16) (turnF S) (4 * col + row))))
       case atStart => exact ⟨0, by omega, by omega, rfl, P⟩
       case round =>
        clear P
        obtain ⟨row, rfl, hrw, rfl, P⟩ := hrel
        by_cases hr4 : row < 4
        ·obtain ⟨gB, cB, q1, q2⟩ := hRb.out
         have hup : ∀ x : LaterS [] wr, Below w.heap.size w x.now := fun x => P.out.bel.trans (x.ok.below P.out.bel.size (by simp))
         have hv := hbx.out (4 * ((col + row) % 4) + row)
         have q3 := q2 _ hv
         have f0 : ∀ y : LaterS [] wr, y.now.cell? ⟨g, 0, none⟩ = some (.slice (some ⟨gB, 0, none⟩) 256 cB) := fun y => ((hup y).cell (World.block_lt_of_cell? _ _ q1)).trans q1
         have f1 : ∀ y : LaterS [] wr, y.now.cell? ⟨w.heap.size + 3, 4 * ((col + row) % 4) + row, none⟩ = some (.int .u8 (S.getD (4 * ((col + row) % 4) + row) 0 : Nat)) := fun y => y.cell (row_cell P.out.st _ (by rw [hSl.out]; omega)) (by simp)
         have f2 : ∀ y : LaterS [] wr, y.now.cell? ⟨gB, S.getD (4 * ((col + row) % 4) + row) 0, none⟩ = some (.int .u8 (turnF S (4 * col + row) : Nat)) := fun y => by
          rw [turnF_at S col row hc4 hr4]; exact ((hup y).cell (World.block_lt_of_cell? _ _ q3)).trans q3
         have hset := Lib.hid (into_set (zeros 16) (turnF S) (4 * col + row) (by omega))
         clear q1 q2 q3 hup
         generalize S.getD (4 * ((col + row) % 4) + row) 0 = y0 at *
         have hv' : (y0 : Int) < 256 := by omega
         go_wp2_with fail
         refine wp_region_gg [] [] [19] (by kernel_rfl) ?_
         refine hoist [] [] (a1 := ?_) 0 rfl (by kernel_rfl) (.inl ⟨rfl, rfl⟩) rfl rfl rfl (fun x K hK => ?_) ?_
         rotate_left
         ·go_big_quiet_op
          exact hK
         refine hoist [] [] (a1 := ?_) 1 rfl (by kernel_rfl) (.inl ⟨rfl, rfl⟩) rfl rfl rfl (fun x K hK => ?_) ?_
         rotate_left
         ·go_big_quiet_op
          exact hK
         refine hoist [] [] (a1 := ?_) 2 rfl (by kernel_rfl) (.inl ⟨rfl, rfl⟩) rfl rfl rfl (fun x K hK => ?_) ?_
         rotate_left
         ·go_big_quiet_op
          exact hK
         refine hoist [] [] (a1 := ?_) 3 rfl (by kernel_rfl) (.inl ⟨rfl, rfl⟩) rfl rfl rfl (fun x K hK => ?_) ?_
         rotate_left
         ·go_big_quiet_op
          exact hK
         refine hoist [] [] (a1 := ?_) 4 rfl (by kernel_rfl) (.inl ⟨rfl, rfl⟩) rfl rfl rfl (fun x K hK => ?_) ?_
         rotate_left
         ·go_big_quiet_op
          exact hK
         refine hoist [] [] (a1 := ?_) 5 rfl (by kernel_rfl) (.inl ⟨rfl, rfl⟩) rfl rfl rfl (fun x K hK => ?_) ?_
         rotate_left
         ·go_big_quiet_op
          exact hK
         refine hoist [] [] (a1 := ?_) 6 rfl (by kernel_rfl) (.inl ⟨rfl, rfl⟩) rfl rfl rfl (fun x K hK => ?_) ?_
         rotate_left
         ·go_big_quiet_op
          exact hK
         refine hoist [] [] (a1 := ?_) 7 rfl (by kernel_rfl) (.inl ⟨rfl, rfl⟩) rfl rfl rfl (fun x K hK => ?_) ?_
         rotate_left
         ·go_big_quiet_op
          exact hK
         refine hoist [] [] (a1 := ?_) 8 rfl (by kernel_rfl) (.inl ⟨rfl, rfl⟩) rfl rfl rfl (fun x K hK => ?_) ?_
         rotate_left
         ·go_big_quiet_op
          exact hK
         refine hoist [] [] (a1 := ?_) 9 rfl (by kernel_rfl) (.inl ⟨rfl, rfl⟩) rfl rfl rfl (fun x K hK => ?_) ?_
         rotate_left
         ·go_big_quiet_op
          exact hK
         refine hoist [] [] (a1 := ?_) 10 rfl (by kernel_rfl) (.inl ⟨rfl, rfl⟩) rfl rfl rfl (fun x K hK => ?_) ?_
         rotate_left
         ·go_big_quiet_op
          exact hK
         refine hoist [] [] (a1 := ?_) 11 rfl (by kernel_rfl) (.inl ⟨rfl, rfl⟩) rfl rfl rfl (fun x K hK => ?_) ?_
         rotate_left
         ·go_big_quiet_op
          exact hK
         refine hoist [] [] (a1 := ?_) 12 rfl (by kernel_rfl) (.inl ⟨rfl, rfl⟩) rfl rfl rfl (fun x K hK => ?_) ?_
         rotate_left
         ·go_big_quiet_op
          exact hK
         refine hoist [] [] (a1 := ?_) 13 rfl (by kernel_rfl) (.inl ⟨rfl, rfl⟩) rfl rfl rfl (fun x K hK => ?_) ?_
         rotate_left
         ·go_big_quiet_op
          exact hK
         refine hoist [] [] (a1 := ?_) 14 rfl (by kernel_rfl) (.inl ⟨rfl, rfl⟩) rfl rfl rfl (fun x K hK => ?_) ?_
         rotate_left
         ·go_big_quiet_op
          exact hK
         refine hoist [] [] (a1 := ?_) 15 rfl (by kernel_rfl) (.inl ⟨rfl, rfl⟩) rfl rfl rfl (fun x K hK => ?_) ?_
         rotate_left
         ·go_big_quiet_op
          exact hK
         refine hoist [] [] (a1 := ?_) 16 rfl (by kernel_rfl) (.inl ⟨rfl, rfl⟩) rfl rfl rfl (fun x K hK => ?_) ?_
         rotate_left
         ·go_big_quiet_op
          exact hK
         refine hoist [] [] (a1 := ?_) 17 rfl (by kernel_rfl) (.inl ⟨rfl, rfl⟩) rfl rfl rfl (fun x K hK => ?_) ?_
         rotate_left
         ·go_big_quiet_op
          exact hK
         refine hoist [] [] (a1 := ?_) 18 rfl (by kernel_rfl) (.inl ⟨rfl, rfl⟩) rfl rfl rfl (fun x K hK => ?_) ?_
         rotate_left
         ·go_big_quiet_op
          exact hK
         refine tail 19 rfl (by kernel_rfl) rfl (fun xr => ?_)
         simp only [List.drop_succ_cons, List.drop_zero]
         have P1 := Lib.hid (P.out.still xr.ok)
         have c1 := row_cell P1.out.ot (4 * col + row) (by rw [into_len]; omega)
         have g1 := row_frozen P1.out.ot (4 * col + row)
         have P2 := Lib.hid (P1.out.setT (4 * col + row) (turnF S (4 * col + row)))
         rw [hset.out] at P2
         clear f0 f1 f2 P P1
         go_wp2_with fail
         go_roundg (4 - (row + 1))
         case measure => omega
         case rel => exact ⟨row + 1, rfl, by omega, by go_num, P2⟩
        ·obtain rfl : row = 4 := by omega
         go_wp2_with fail
         go_roundg (4 - (col + 1))
         case measure => omega
         case rel => exact ⟨col + 1, rfl, by omega, by go_num, P⟩
      ·obtain rfl : col = 4 := by omega
       rw [turn_end] at P
       go_upto_if 74 with (fail)
       go_cut [] (fun wc => Hid (Ph w wc bt S (if r < 9 then mixN (turnN S) else turnN S)))
       case first =>
        have hTl : Hid ((turnN S).length = 16) := turnN_len S
        have hTb : Hid (Byt (turnN S)) := turnN_byt S
        by_cases hr9 : r < 9
        ·generalize hU : turnN S = U at *
         replace hU := Lib.hid hU
         have hsz := P.out.size
         have P5 := Lib.hid (P.out.alloc (.cells (ivA .u8 U) 22))
         have Hu := Lib.hid (al_new wr (.cells (ivA .u8 U) 22) _ rfl)
         have hnew := Lib.hid (al_new wr (.cells (ivA .u8 (zeros 16)) 22) _ rfl)
         have d9 : decide ((r : Int) + 1 < 10) = true := by simp; omega
         go_wp2_with (first | (refine wpList_load_row rfl 22 _ rfl _ rfl _ _ _ _ P.out.ot Tryz.underlying22 rfl (by rw [info16, ivA_size, hTl.out]) ?_) | (refine wpList_alloc_of rfl 22 rfl _ zero16 ?_) | (refine wpList_store_row rfl 22 _ _ rfl _ _ rfl rfl _ _ hnew.out (by rw [info16, ivA_size, hTl.out]) (by rw [ivA_size, ivA_size, zeros_len, hTl.out]) (ivA_one _ _) ?_; rw [World.setRow_alloc_new]))
         generalize wr.alloc (.cells (ivA .u8 U) 22) = w7 at *
         generalize wr.heap.size = bu at *
         clear P hnew
         have hub : bu ≠ bt := by omega
         clear hsz
         go_loopg [13] 4 (fun m i wx => ∃ col, m = 4 - col ∧ col ≤ 4 ∧ i = .int .i64 (col : Nat) ∧ Hid (Ph w wx bt S (into U (mixV U) (4 * col))) ∧ Hid (wx.heap[bu]? = some (.cells (ivA .u8 U) 22 (0, 0))))
         case atStart => exact ⟨0, by omega, by omega, rfl, by rw [into_zero _ _ hTl.out]; exact P5, Hu⟩
         case round =>
          clear P5 Hu
          obtain ⟨col, rfl, hc, rfl, P, Hu⟩ := hrel
          by_cases hc4 : col < 4
          ·have dc : decide ((col : Int) < 4) = true := by simp; omega
           go_wp2_with fail
           go_loopg [14] 4 (fun m i wx => ∃ row, m = 4 - row ∧ row ≤ 4 ∧ i = .int .i64 (row : Nat) ∧ Hid (Ph w wx bt S (into U (mixV U) (4 * col + row))) ∧ Hid (wx.heap[bu]? = some (.cells (ivA .u8 U) 22 (0, 0))))
           case atStart => exact ⟨0, by omega, by omega, rfl, P, Hu⟩
           case round =>
            clear P Hu
            obtain ⟨row, rfl, hrw, rfl, P, Hu⟩ := hrel
            by_cases hr4 : row < 4
            ·have dr : decide ((row : Int) < 4) = true := by simp; omega
             go_wp2_with fail
             go_loopg [15, 16] 4 (fun m x i wx => ∃ k, m = 4 - k ∧ k ≤ 4 ∧ i = .int .i64 (k : Nat) ∧ x = .int .u8 (xacc U col row k : Nat) ∧ Hid (Ph w wx bt S (into U (mixV U) (4 * col + row))) ∧ Hid (wx.heap[bu]? = some (.cells (ivA .u8 U) 22 (0, 0))))
             case atStart => exact ⟨0, by omega, by omega, rfl, rfl, P, Hu⟩
             case round =>
              clear P Hu
              obtain ⟨k, rfl, hk, rfl, rfl, P, Hu⟩ := hrel
              by_cases hk4 : k < 4
              ·have hx0 := xacc_lt U col row k
               have hm := mk4_lt ((k + 4 - row) % 4)
               have hu := hTb.out (4 * col + k)
               have ht := timesP_lt (mk4 ((k + 4 - row) % 4)) (U.getD (4 * col + k) 0) hm
               have hxr := u8_xor_nat (xacc U col row k) (timesP (mk4 ((k + 4 - row) % 4)) (U.getD (4 * col + k) 0)) hx0 ht
               have hnext : Hid (xacc U col row k ^^^ timesP (mk4 ((k + 4 - row) % 4)) (U.getD (4 * col + k) 0) = xacc U col row (k + 1)) := rfl
               have hct := Lib.hid (rtimes_any (mk4 ((k + 4 - row) % 4)) (U.getD (4 * col + k) 0) hm hu)
               have hidx : (((k : Int) - (row : Int) + 4) % 4).toNat = (k + 4 - row) % 4 := by omega
               have hidx2 : (((k : Int) - (row : Int)) % 4).toNat = (k + 4 - row) % 4 := by omega
               have f0 : ∀ y : LaterS [] wr, y.now.cell? ⟨w.heap.size + 2, (k + 4 - row) % 4, none⟩ = some (.int .u8 (mk4 ((k + 4 - row) % 4) : Nat)) := fun y => y.cell (row_cell P.out.mat _ (by simp; omega)) (by simp)
               have f1 : ∀ y : LaterS [] wr, y.now.cell? ⟨bu, 4 * col + k, none⟩ = some (.int .u8 (U.getD (4 * col + k) 0 : Nat)) := fun y => y.cell (row_cell Hu.out _ (by rw [hTl.out]; omega)) (by simp)
               generalize (k + 4 - row) % 4 = mi at *
               generalize U.getD (4 * col + k) 0 = y0 at *
               generalize mk4 mi = y1 at *
               generalize timesP y1 y0 = y2 at *
               replace hnext := hnext
               clear hu hm
               go_wp2_with fail
               refine wp_region_gg [] [] [] (by kernel_rfl) ?_
               refine hoist [] [] (a1 := ?_) 0 rfl (by kernel_rfl) (.inl ⟨rfl, rfl⟩) rfl rfl rfl (fun x K hK => ?_) ?_
               rotate_left
               ·go_big_quiet_op
                exact hK
               refine hoist [] [] (a1 := ?_) 1 rfl (by kernel_rfl) (.inl ⟨rfl, rfl⟩) rfl rfl rfl (fun x K hK => ?_) ?_
               rotate_left
               ·go_big_quiet_op
                exact hK
               refine hoist [] [] (a1 := ?_) 2 rfl (by kernel_rfl) (.inl ⟨rfl, rfl⟩) rfl rfl rfl (fun x K hK => ?_) ?_
               rotate_left
               ·go_big_quiet_op
                exact hK
               refine hoist [] [] (a1 := ?_) 3 rfl (by kernel_rfl) (.inl ⟨rfl, rfl⟩) rfl rfl rfl (fun x K hK => ?_) ?_
               rotate_left
               ·go_big_quiet_op
                exact hK
               refine hoist [] [] (a1 := ?_) 4 rfl (by kernel_rfl) (.inl ⟨rfl, rfl⟩) rfl rfl rfl (fun x K hK => ?_) ?_
               rotate_left
               ·go_big_quiet_op
                exact hK
               refine hoist [] [] (a1 := ?_) 5 rfl (by kernel_rfl) (.inl ⟨rfl, rfl⟩) rfl rfl rfl (fun x K hK => ?_) ?_
               rotate_left
               ·go_big_quiet_op
                exact hK
               refine hoist [] [] (a1 := ?_) 6 rfl (by kernel_rfl) (.inl ⟨rfl, rfl⟩) rfl rfl rfl (fun x K hK => ?_) ?_
               rotate_left
               ·go_big_quiet_op
                exact hK
               refine hoist [] [] (a1 := ?_) 7 rfl (by kernel_rfl) (.inl ⟨rfl, rfl⟩) rfl rfl rfl (fun x K hK => ?_) ?_
               rotate_left
               ·go_big_quiet_op
                exact hK
               refine hoist [] [] (a1 := ?_) 8 rfl (by kernel_rfl) (.inl ⟨rfl, rfl⟩) rfl rfl rfl (fun x K hK => ?_) ?_
               rotate_left
               ·go_big_quiet_op
                exact hK
               refine hoist [] [] (a1 := ?_) 9 rfl (by kernel_rfl) (.inl ⟨rfl, rfl⟩) rfl rfl rfl (fun x K hK => ?_) ?_
               rotate_left
               ·go_big_quiet_op
                exact hK
               refine hoist [] [] (a1 := ?_) 10 rfl (by kernel_rfl) (.inl ⟨rfl, rfl⟩) rfl rfl rfl (fun x K hK => ?_) ?_
               rotate_left
               ·go_big_quiet_op
                exact hK
               refine hoist [] [] (a1 := ?_) 11 rfl (by kernel_rfl) (.inl ⟨rfl, rfl⟩) rfl rfl rfl (fun x K hK => ?_) ?_
               rotate_left
               ·go_big_quiet_op
                exact hK
               refine hoist [] [] (a1 := ?_) 12 rfl (by kernel_rfl) (.inl ⟨rfl, rfl⟩) rfl rfl rfl (fun x K hK => ?_) ?_
               rotate_left
               ·go_big_quiet_op
                exact hK
               refine hoist [] [] (a1 := ?_) 13 rfl (by kernel_rfl) (.inl ⟨rfl, rfl⟩) rfl rfl rfl (fun x K hK => ?_) ?_
               rotate_left
               ·go_big_quiet_op
                exact hK
               refine hoist_call [] [] (a1 := ?_) 14 rfl (by kernel_rfl) (.inl ⟨rfl, rfl⟩) rfl rfl rfl (fun x K hK => ?_) ?_
               rotate_left
               ·go_big_quiet_op
                apply Exists.intro
                refine ⟨fun y => ?_, ?_⟩
                ·exact Calls.laterS_same (hct.out _)
                ·exact hK
               refine hoist [] [] (a1 := ?_) 15 rfl (by kernel_rfl) (.inl ⟨rfl, rfl⟩) rfl rfl rfl (fun x K hK => ?_) ?_
               rotate_left
               ·go_big_quiet_op
                exact hK
               refine hoist [] [] (a1 := ?_) 16 rfl (by kernel_rfl) (.inl ⟨rfl, rfl⟩) rfl rfl rfl (fun x K hK => ?_) ?_
               rotate_left
               ·go_big_quiet_op
                exact hK
               refine done (by kernel_rfl) (fun xr => ?_)
               rw [hnext.out]
               have P1 := Lib.hid (P.out.still xr.ok)
               have Hu1 := Lib.hid (xr.heap Hu.out (by simp))
               clear f0 f1 P Hu
               go_wp2_with fail
               go_roundg (4 - (k + 1))
               case measure => omega
               case rel => exact ⟨k + 1, rfl, by omega, by go_num, rfl, P1, Hu1⟩
              ·obtain rfl : k = 4 := by omega
               rw [xacc_mix U hTb.out col row hr4]
               have hset := Lib.hid (into_set U (mixV U) (4 * col + row) (by omega))
               have c1 := row_cell P.out.ot (4 * col + row) (by rw [into_len]; omega)
               have g1 := row_frozen P.out.ot (4 * col + row)
               have P2 := Lib.hid (P.out.setT (4 * col + row) (mixV U (4 * col + row)))
               rw [hset.out] at P2
               have Hu2 : Hid ((wr.setCell ⟨bt, 4 * col + row, none⟩ (.int .u8 (mixV U (4 * col + row) : Nat))).heap[bu]? = some (.cells (ivA .u8 U) 22 (0, 0))) := (row_other hub).trans Hu.out
               clear P Hu
               go_wp2_with fail
               go_roundg (4 - (row + 1))
               case measure => omega
               case rel => exact ⟨row + 1, rfl, by omega, by go_num, P2, Hu2⟩
            ·obtain rfl : row = 4 := by omega
             go_wp2_with fail
             go_roundg (4 - (col + 1))
             case measure => omega
             case rel => exact ⟨col + 1, rfl, by omega, by go_num, P, Hu⟩
          ·obtain rfl : col = 4 := by omega
           rw [mix_end] at P
           go_wp2_with fail
           go_meet
           rw [if_pos hr9]
           exact P
        ·have d9 : decide ((r : Int) + 1 < 10) = false := by simp; omega
         go_wp2_with fail
         go_meet
         rw [if_neg hr9]
         exact P
       case rest =>
        clear P
        replace hcut := Lib.hid hcut.out
        have hTl : Hid ((if r < 9 then mixN (turnN S) else turnN S).length = 16) := by
         rw [Hid]; split
         ·exact mixN_len _
         ·exact turnN_len _
        have hTb : Hid (Byt (if r < 9 then mixN (turnN S) else turnN S)) := by
         rw [Hid]; split
         ·exact mixN_byt (turnN_byt _)
         ·exact turnN_byt _
        generalize (if r < 9 then mixN (turnN S) else turnN S) = T at *
        go_wp2_with fail
        go_loopg [17] 16 (fun m i wx => ∃ k, m = 16 - k ∧ k ≤ 16 ∧ i = .int .i64 (k : Nat) ∧ Hid (Ph w wx bt (into S (keyF W (r + 1) T) k) T))
        case atStart => exact ⟨0, by omega, by omega, rfl, by rw [into_zero _ _ hSl.out]; exact hcut⟩
        case round =>
         clear hcut
         obtain ⟨k, rfl, hk, rfl, P⟩ := hrel
         by_cases hk16 : k < 16
         ·obtain ⟨gW, cW, q1, hrow⟩ := hRw.out
          obtain ⟨f, c, r1, r2⟩ := hrow (4 * (r + 1) + k / 4) (by omega)
          have r3 := r2 (k % 4) (by omega)
          rw [show 4 * (4 * (r + 1) + k / 4) + k % 4 = 16 * (r + 1) + k by omega] at r3
          have hup : ∀ x : LaterS [] wr, Below w.heap.size w x.now := fun x => P.out.bel.trans (x.ok.below P.out.bel.size (by simp))
          have f0 : ∀ y : LaterS [] wr, y.now.cell? ⟨g, 1, none⟩ = some (.slice (some ⟨gW, 0, none⟩) 44 cW) := fun y => ((hup y).cell (World.block_lt_of_cell? _ _ q1)).trans q1
          have f1 : ∀ y : LaterS [] wr, y.now.cell? ⟨gW, 4 * (r + 1) + k / 4, none⟩ = some (.slice (some ⟨f, 0, none⟩) 4 c) := fun y => ((hup y).cell (World.block_lt_of_cell? _ _ r1)).trans r1
          have f2 : ∀ y : LaterS [] wr, y.now.cell? ⟨f, k % 4, none⟩ = some (.int .u8 (W.getD (16 * (r + 1) + k) 0 : Nat)) := fun y => ((hup y).cell (World.block_lt_of_cell? _ _ r3)).trans r3
          have f3 : ∀ y : LaterS [] wr, y.now.cell? ⟨bt, k, none⟩ = some (.int .u8 (T.getD k 0 : Nat)) := fun y => y.cell (row_cell P.out.ot k (by rw [hTl.out]; exact hk16)) (by simp)
          have hx : bits .xor .u8 (T.getD k 0 : Nat) (W.getD (16 * (r + 1) + k) 0 : Nat) = ((keyF W (r + 1) T k : Nat) : Int) := by
           rw [u8_xor_nat _ _ (hTb.out k) (hWb.out _)]; rfl
          have hset := Lib.hid (into_set S (keyF W (r + 1) T) k hk16)
          clear hrow q1 r1 r2 r3 hup
          generalize T.getD k 0 = y0 at *
          generalize W.getD (16 * (r + 1) + k) 0 = y1 at *
          go_wp2_with fail
          refine wp_region_gg [] [] [20] (by kernel_rfl) ?_
          refine hoist [] [] (a1 := ?_) 0 rfl (by kernel_rfl) (.inl ⟨rfl, rfl⟩) rfl rfl rfl (fun x K hK => ?_) ?_
          rotate_left
          ·go_big_quiet_op
           exact hK
          refine hoist [] [] (a1 := ?_) 1 rfl (by kernel_rfl) (.inl ⟨rfl, rfl⟩) rfl rfl rfl (fun x K hK => ?_) ?_
          rotate_left
          ·go_big_quiet_op
           exact hK
          refine hoist [] [] (a1 := ?_) 2 rfl (by kernel_rfl) (.inl ⟨rfl, rfl⟩) rfl rfl rfl (fun x K hK => ?_) ?_
          rotate_left
          ·go_big_quiet_op
           exact hK
          refine hoist [] [] (a1 := ?_) 3 rfl (by kernel_rfl) (.inl ⟨rfl, rfl⟩) rfl rfl rfl (fun x K hK => ?_) ?_
          rotate_left
          ·go_big_quiet_op
           exact hK
          refine hoist [] [] (a1 := ?_) 4 rfl (by kernel_rfl) (.inl ⟨rfl, rfl⟩) rfl rfl rfl (fun x K hK => ?_) ?_
          rotate_left
          ·go_big_quiet_op
           exact hK
          refine hoist [] [] (a1 := ?_) 5 rfl (by kernel_rfl) (.inl ⟨rfl, rfl⟩) rfl rfl rfl (fun x K hK => ?_) ?_
          rotate_left
          ·go_big_quiet_op
           exact hK
          refine hoist [] [] (a1 := ?_) 6 rfl (by kernel_rfl) (.inl ⟨rfl, rfl⟩) rfl rfl rfl (fun x K hK => ?_) ?_
          rotate_left
          ·go_big_quiet_op
           exact hK
          refine hoist [] [] (a1 := ?_) 7 rfl (by kernel_rfl) (.inl ⟨rfl, rfl⟩) rfl rfl rfl (fun x K hK => ?_) ?_
          rotate_left
          ·go_big_quiet_op
           exact hK
          refine hoist [] [] (a1 := ?_) 8 rfl (by kernel_rfl) (.inl ⟨rfl, rfl⟩) rfl rfl rfl (fun x K hK => ?_) ?_
          rotate_left
          ·go_big_quiet_op
           exact hK
          refine hoist [] [] (a1 := ?_) 9 rfl (by kernel_rfl) (.inl ⟨rfl, rfl⟩) rfl rfl rfl (fun x K hK => ?_) ?_
          rotate_left
          ·go_big_quiet_op
           exact hK
          refine hoist [] [] (a1 := ?_) 10 rfl (by kernel_rfl) (.inl ⟨rfl, rfl⟩) rfl rfl rfl (fun x K hK => ?_) ?_
          rotate_left
          ·go_big_quiet_op
           exact hK
          refine hoist [] [] (a1 := ?_) 11 rfl (by kernel_rfl) (.inl ⟨rfl, rfl⟩) rfl rfl rfl (fun x K hK => ?_) ?_
          rotate_left
          ·go_big_quiet_op
           exact hK
          refine hoist [] [] (a1 := ?_) 12 rfl (by kernel_rfl) (.inl ⟨rfl, rfl⟩) rfl rfl rfl (fun x K hK => ?_) ?_
          rotate_left
          ·go_big_quiet_op
           exact hK
          refine hoist [] [] (a1 := ?_) 13 rfl (by kernel_rfl) (.inl ⟨rfl, rfl⟩) rfl rfl rfl (fun x K hK => ?_) ?_
          rotate_left
          ·go_big_quiet_op
           exact hK
          refine hoist [] [] (a1 := ?_) 14 rfl (by kernel_rfl) (.inl ⟨rfl, rfl⟩) rfl rfl rfl (fun x K hK => ?_) ?_
          rotate_left
          ·go_big_quiet_op
           exact hK
          refine hoist [] [] (a1 := ?_) 15 rfl (by kernel_rfl) (.inl ⟨rfl, rfl⟩) rfl rfl rfl (fun x K hK => ?_) ?_
          rotate_left
          ·go_big_quiet_op
           exact hK
          refine hoist [] [] (a1 := ?_) 16 rfl (by kernel_rfl) (.inl ⟨rfl, rfl⟩) rfl rfl rfl (fun x K hK => ?_) ?_
          rotate_left
          ·go_big_quiet_op
           exact hK
          refine hoist [] [] (a1 := ?_) 17 rfl (by kernel_rfl) (.inl ⟨rfl, rfl⟩) rfl rfl rfl (fun x K hK => ?_) ?_
          rotate_left
          ·go_big_quiet_op
           exact hK
          refine hoist [] [] (a1 := ?_) 18 rfl (by kernel_rfl) (.inl ⟨rfl, rfl⟩) rfl rfl rfl (fun x K hK => ?_) ?_
          rotate_left
          ·go_big_quiet_op
           exact hK
          refine hoist [] [] (a1 := ?_) 19 rfl (by kernel_rfl) (.inl ⟨rfl, rfl⟩) rfl rfl rfl (fun x K hK => ?_) ?_
          rotate_left
          ·go_big_quiet_op
           exact hK
          refine tail 20 rfl (by kernel_rfl) rfl (fun xr => ?_)
          simp only [List.drop_succ_cons, List.drop_zero]
          have P1 := Lib.hid (P.out.still xr.ok)
          have c1 := row_cell P1.out.st k (by rw [into_len]; exact hk16)
          have g1 := row_frozen P1.out.st k
          have P2 := Lib.hid (P1.out.setS k (keyF W (r + 1) T k))
          rw [hset.out] at P2
          clear f0 f1 f2 f3 P P1
          go_wp2_with fail
          go_roundg (16 - (k + 1))
          case measure => omega
          case rel => exact ⟨k + 1, rfl, by omega, by go_num, P2⟩
         ·obtain rfl : k = 16 := by omega
          rw [key_end, ← hnx.out] at P
          go_wp2_with fail
          go_roundg (10 - (r + 1))
          case measure => omega
          case rel => exact ⟨r + 1, bt, T, rfl, by omega, by go_num, by rw [hS'.out]; exact P⟩
    ·obtain rfl : r = 10 := by omega
     rw [show sN W b 10 = blockN W b from rfl] at P
     have lf : Hid ((blockN W b).length = 16) := keyN_len _ _ _
     go_wp2_with (first | (refine wpList_load_row rfl 22 _ rfl _ rfl _ _ _ _ P.out.st Tryz.underlying22 rfl (by rw [info16, ivA_size, lf.out]) ?_) | (refine wpList_store_row rfl 22 _ _ rfl _ _ rfl rfl _ _ P.out.res (by rw [info16, ivA_size, lf.out]) (by rw [ivA_size, ivA_size, zeros_len, lf.out]) (ivA_one _ _) ?_))
     exact bodyPost_ret (results_cell_row (p := 4) rfl _ _ (w.heap.size + 1) _ _ _ _ rfl (setRow_get _ _ _ _ _ _ P.out.res) Tryz.underlying22 rfl (by rw [info16, ivA_size, lf.out])) rfl ⟨rfl, Below.setRow P.out.bel (by omega) _⟩
end Go.Proofs.YtikmhlbpefednaaGreat
