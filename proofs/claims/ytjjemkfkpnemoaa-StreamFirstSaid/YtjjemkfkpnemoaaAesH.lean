import Derived.Test.YtjjemkfkpnemoaaAesG
import Derived.Deep.WholeRow
namespace Go.Proofs.Ytjjemkfkpnemoaa
open Go.RowKit

/-- The state behind r rounds. -/
def blk (W b : List Nat) : Nat → List Nat
  | 0 => keyN W 0 b
  | r + 1 => keyN W (r + 1) (mixN (turnN (blk W b r)))
def blockN (W b : List Nat) : List Nat := keyN W 10 (turnN (blk W b 9))

theorem keyN_len (W b : List Nat) (r : Nat) : (keyN W r b).length = 16 := tab_len _ _
theorem turnN_len (b : List Nat) : (turnN b).length = 16 := tab_len _ _
theorem mixN_len (b : List Nat) : (mixN b).length = 16 := tab_len _ _
theorem blk_len (W b : List Nat) (r : Nat) : (blk W b r).length = 16 := by cases r <;> exact keyN_len _ _ _
theorem keyN_byt {W b : List Nat} (r : Nat) (hW : Byt W) (hb : Byt b) : Byt (keyN W r b) := by
  unfold keyN keyTo
  refine Byt.tab 16 _ fun j hj => ?_
  rw [if_pos hj]
  exact Nat.xor_lt_two_pow (n := 8) (hb j) (hW _)
theorem turnN_byt (b : List Nat) : Byt (turnN b) := by
  unfold turnN turnTo
  refine Byt.tab 16 _ fun j _ => ?_
  split
  · exact sbox_lt _
  · omega
theorem mixV_lt (b : List Nat) (hb : Byt b) (j : Nat) : mixV b j < 256 := by
  unfold mixV
  exact Nat.xor_lt_two_pow (n := 8) (Nat.xor_lt_two_pow (n := 8) (Nat.xor_lt_two_pow (n := 8) (Nat.xor_lt_two_pow (n := 8) (dbl_lt _) (dbl_lt _)) (hb _)) (hb _)) (hb _)
theorem mixN_byt {b : List Nat} (hb : Byt b) : Byt (mixN b) := by
  unfold mixN mixTo
  refine Byt.tab 16 _ fun j _ => ?_
  split
  · exact mixV_lt b hb j
  · omega
theorem blk_byt {W b : List Nat} (hW : Byt W) (hb : Byt b) : ∀ r, Byt (blk W b r)
  | 0 => keyN_byt 0 hW hb
  | r + 1 => keyN_byt _ hW (mixN_byt (turnN_byt _))

set_option maxRecDepth 100000 in
set_option maxHeartbeats 4000000 in
theorem block_any (W b : List Nat) (g : Nat) (hb : b.length = 16) (hB : Byt b) (w : World) (hC : Cf w g W) :
    Calls Try.prog 22 #[.pointer (some ⟨g, 0, none⟩), .agg (ivA .u8 b)] w fun e w' => e = .returned (.agg (ivA .u8 (blockN W b))) ∧ Below w.heap.size w w' := by
  replace hC := Lib.hid hC
  have hg := hC.out.lt
  replace hb := Lib.hid hb
  replace hB := Lib.hid hB
  have L0 : Below w.heap.size w ((w.alloc (.cells (ivA .u8 b) 28)).alloc (.cells (ivA .u8 (zeros 16)) 28)) := ((Below.refl _ _).alloc (Nat.le_refl _) _).alloc (by simp) _
  have G0 := Lib.hid (heap_alloc2_old w (.cells (ivA .u8 b) 28) (.cells (ivA .u8 (zeros 16)) 28))
  have G1 := Lib.hid (heap_alloc2_new w (.cells (ivA .u8 b) 28) (.cells (ivA .u8 (zeros 16)) 28))
  go_enter Try.func22, Try.ntmps22
  go_wp2_with (first | (refine wpList_alloc_of rfl 28 rfl _ zero16 ?_) | (refine wpList_load_row rfl 28 _ rfl _ rfl _ _ _ _ G0.out Try.underlying28 rfl (by rw [info16, ivA_size, hb.out]) ?_))
  refine (key_any W b g 0 hb.out hB.out (by omega) _ (hC.out.below L0)).mono ?_
  rintro e w1 ⟨rfl, hb1⟩
  have L1 := L0.trans (hb1.mono L0.size)
  have G1' := Lib.hid ((hb1.block (w.heap.size + 1) (by simp)).trans G1.out)
  have z1 : w.heap.size + 2 ≤ w1.heap.size := by have := hb1.size; simpa using this
  clear hb1 G0 G1 L0
  have l0 := blk_len W b 0
  rw [show keyN W 0 b = blk W b 0 from rfl]
  replace l0 := Lib.hid l0
  go_wp2_with (first | (refine wpList_alloc_of rfl 28 rfl _ zero16 ?_) | (refine wpList_store_row rfl 28 _ _ rfl _ _ rfl rfl _ _ (al_new _ _ _ rfl) (by rw [info16, ivA_size, l0.out]) (by rw [ivA_size, ivA_size, zeros_len, l0.out]) (ivA_one _ _) ?_; rw [World.setRow_alloc_new]))
  generalize hS : w1.heap.size = S at *
  replace hS := Lib.hid hS
  go_loopg [6] 9 (fun n i wx => ∃ r, n = 9 - r ∧ r ≤ 9 ∧ i = .int .i64 (((r : Nat) : Int) + 1) ∧ Hid (wx.heap[w.heap.size + 1]? = some (.cells (ivA .u8 (zeros 16)) 28)) ∧ Hid (wx.heap[S]? = some (.cells (ivA .u8 (blk W b r)) 28)) ∧ Below w.heap.size w wx ∧ S < wx.heap.size)
  case atStart =>
    have hS' := hS.out
    exact ⟨0, by omega, by omega, rfl, Lib.hid ((al_old _ _ _ (by omega)).trans G1'.out), Lib.hid (al_new _ _ _ hS'.symm), L1.alloc (by omega) _, by simp; omega⟩
  case round =>
    obtain ⟨r, rfl, hr, rfl, H1, H2, L, hz⟩ := hrel
    have lr := Lib.hid (blk_len W b r)
    have br := Lib.hid (blk_byt hC.out.2.2 hB.out r)
    by_cases hr9 : r < 9
    · go_wp2_with (first | (refine wpList_load_row rfl 28 _ rfl _ rfl _ _ _ _ H2.out Try.underlying28 rfl (by rw [info16, ivA_size, lr.out]) ?_))
      refine (turned_any W _ g lr.out br.out _ (hC.out.below L)).mono ?_
      rintro e w2 ⟨rfl, hb2⟩
      have L2 := L.trans (hb2.mono L.size)
      go_wp2_with fail
      refine (mixed_any _ (turnN_len _) (turnN_byt _) _).mono ?_
      rintro e w3 ⟨rfl, hb3⟩
      have L3 := L2.trans (hb3.mono L2.size)
      go_wp2_with fail
      refine (key_any W _ g (r + 1) (mixN_len _) (mixN_byt (turnN_byt _)) (by omega) _ (hC.out.below L3)).mono ?_
      rintro e w4 ⟨rfl, hb4⟩
      have L4 := L3.trans (hb4.mono L3.size)
      have hz2 : S < w2.heap.size := by have := hb2.size; omega
      have hz3 : S < w3.heap.size := by have := hb3.size; omega
      have hz4 : S < w4.heap.size := by have := hb4.size; omega
      have K1 := Lib.hid ((hb4.block (w.heap.size + 1) (by omega)).trans ((hb3.block (w.heap.size + 1) (by omega)).trans ((hb2.block (w.heap.size + 1) (by omega)).trans H1.out)))
      have K2 := Lib.hid ((hb4.block S hz3).trans ((hb3.block S hz2).trans ((hb2.block S hz).trans H2.out)))
      clear hb2 hb3 hb4 L L2 L3 H1 H2
      rw [show keyN W (r + 1) (mixN (turnN (blk W b r))) = blk W b (r + 1) from rfl]
      have lr1 := Lib.hid (blk_len W b (r + 1))
      go_wp2_with (first | (refine wpList_store_row rfl 28 _ _ rfl _ _ rfl rfl _ _ K2.out (by rw [info16, ivA_size, lr1.out]) (by rw [ivA_size, ivA_size, lr.out, lr1.out]) (ivA_one _ _) ?_))
      go_roundg (9 - (r + 1))
      case measure => omega
      case rel =>
        have hS' := hS.out
        refine ⟨r + 1, rfl, by omega, by go_num, ?_, Lib.hid (setRow_get _ _ _ _ _ _ K2.out), Below.setRow L4 (by omega) _, by simpa using hz4⟩
        refine Lib.hid (Eq.trans ?_ K1.out)
        simp only [World.setRow, Array.getElem?_modify]
        rw [if_neg (by omega)]
    · obtain rfl : r = 9 := by omega
      go_wp2_with (first | (refine wpList_load_row rfl 28 _ rfl _ rfl _ _ _ _ H2.out Try.underlying28 rfl (by rw [info16, ivA_size, lr.out]) ?_))
      refine (turned_any W _ g lr.out br.out _ (hC.out.below L)).mono ?_
      rintro e w2 ⟨rfl, hb2⟩
      have L2 := L.trans (hb2.mono L.size)
      go_wp2_with fail
      refine (key_any W _ g 10 (turnN_len _) (turnN_byt _) (by omega) _ (hC.out.below L2)).mono ?_
      rintro e w3 ⟨rfl, hb3⟩
      have L3 := L2.trans (hb3.mono L2.size)
      have hS' := hS.out
      have hz2 : S < w2.heap.size := by have := hb2.size; omega
      have K1 := Lib.hid ((hb3.block (w.heap.size + 1) (by omega)).trans ((hb2.block (w.heap.size + 1) (by omega)).trans H1.out))
      clear hb2 hb3 L L2 H1 H2 hS'
      rw [show keyN W 10 (turnN (blk W b 9)) = blockN W b from rfl]
      have lf : Hid ((blockN W b).length = 16) := keyN_len _ _ _
      go_wp2_with (first | (refine wpList_store_row rfl 28 _ _ rfl _ _ rfl rfl _ _ K1.out (by rw [info16, ivA_size, lf.out]) (by rw [ivA_size, ivA_size, zeros_len, lf.out]) (ivA_one _ _) ?_))
      exact bodyPost_ret (results_cell_row (p := 4) rfl _ _ (w.heap.size + 1) _ _ _ _ rfl (setRow_get _ _ _ _ _ _ K1.out) Try.underlying28 rfl (by rw [info16, ivA_size, lf.out])) rfl ⟨rfl, Below.setRow L3 (by omega) _⟩

set_option maxRecDepth 100000 in
/-- No cipher: the block itself. -/
theorem block_nil (b : List Nat) (hb : b.length = 16) (w : World) :
    Calls Try.prog 22 #[.pointer none, .agg (ivA .u8 b)] w fun e w' => e = .returned (.agg (ivA .u8 b)) ∧ Below w.heap.size w w' := by
  have G0 := Lib.hid (heap_alloc2_old w (.cells (ivA .u8 b) 28) (.cells (ivA .u8 (zeros 16)) 28))
  have G1 := Lib.hid (heap_alloc2_new w (.cells (ivA .u8 b) 28) (.cells (ivA .u8 (zeros 16)) 28))
  replace hb := Lib.hid hb
  go_enter Try.func22, Try.ntmps22
  go_wp2_with (first | (refine wpList_alloc_of rfl 28 rfl _ zero16 ?_) | (refine wpList_load_row rfl 28 _ rfl _ rfl _ _ _ _ G0.out Try.underlying28 rfl (by rw [info16, ivA_size, hb.out]) ?_) | (refine wpList_store_row rfl 28 _ _ rfl _ _ rfl rfl _ _ G1.out (by rw [info16, ivA_size, hb.out]) (by rw [ivA_size, ivA_size, zeros_len, hb.out]) (ivA_one _ _) ?_))
  exact bodyPost_ret (results_cell_row (p := 4) rfl _ _ (w.heap.size + 1) _ _ _ _ rfl (setRow_get _ _ _ _ _ _ G1.out) Try.underlying28 rfl (by rw [info16, ivA_size, hb.out])) rfl ⟨rfl, Below.setRow (((Below.refl _ _).alloc (Nat.le_refl _) _).alloc (by simp) _) (by omega) _⟩
end Go.Proofs.Ytjjemkfkpnemoaa
