/-  -/
import Derived.Test.YtjjemkfkpnemoaaAesJ
import Derived.Test.YtjjemkfkpnemoaaGAa
import Derived.Test.YtjjemkfkpnemoaaGBa
namespace Go.Proofs.Ytjjemkfkpnemoaa
open Go.RowKit

/-- The example's key and block. -/
def countTo (n i : Nat) : List Nat := tab 16 fun j => if j < i then j * n else 0
def countN (n : Nat) : List Nat := countTo n 16

set_option maxRecDepth 100000 in
set_option maxHeartbeats 4000000 in
theorem counting_any (n : Nat) (hn : n ≤ 17) (w : World) :
    Calls Try.prog 52 #[.int .u8 (n : Nat)] w fun e w' => e = .returned (.agg (ivA .u8 (countN n))) ∧ Below w.heap.size w w' := by
  have h0 : Hid (zeros 16 = countTo n 0) := by
    show zeros 16 = _
    rw [← tab_of 16 (zeros 16) (zeros_len _)]
    exact tab_congr 16 _ _ fun j _ => by rw [zeros_get]; simp
  go_enter Try.func52, Try.ntmps52
  go_wp2_with (refine wpList_alloc_of rfl 28 rfl _ zero16 ?_)
  go_loopg [4] 16 (fun m i wx => ∃ k, m = 16 - k ∧ k ≤ 16 ∧ i = .int .i64 (k : Nat) ∧ Hid (wx.heap[w.heap.size]? = some (.cells (ivA .u8 (zeros 16)) 28)) ∧ Hid (wx.heap[w.heap.size + 1]? = some (.cells (ivA .u8 (countTo n k)) 28)) ∧ Below w.heap.size w wx ∧ w.heap.size + 1 < wx.heap.size)
  case atStart =>
    refine ⟨0, by omega, by omega, rfl, ?_, ?_, ((Below.refl _ _).alloc (Nat.le_refl _) _).alloc (by simp) _, by simp⟩
    · refine Lib.hid ?_; rw [al_old _ _ _ (by simp), al_new _ _ _ (by simp)]
    · refine Lib.hid ?_; rw [al_new _ _ _ (by simp), h0.out]
  case round =>
    obtain ⟨k, rfl, hk, rfl, H0, H1, L, hz⟩ := hrel
    by_cases hk16 : k < 16
    · have c3 := row_cell H1.out k (by unfold countTo; rw [tab_len]; omega)
      have f3 := row_frozen H1.out k
      have hle : k * n ≤ 15 * 17 := Nat.mul_le_mul (by omega) hn
      have hs := Lib.hid (row_set H1.out k (k * n))
      have e2 : Hid ((countTo n k).set k (k * n) = countTo n (k + 1)) := by
        show _ = _
        unfold countTo
        refine tab_set 16 _ _ k _ hk16 (by simp) fun j hj hne => ?_
        have : (j < k + 1) ↔ (j < k) := by omega
        simp only [this]
      have w1 : IntKind.u8.wrap (k : Int) = (k : Int) := IntWalk.u8_in _ (by omega)
      have w2 : (k : Int) * (n : Int) = ((k * n : Nat) : Int) := by push_cast; rfl
      have w3 : IntKind.u8.wrap ((k * n : Nat) : Int) = ((k * n : Nat) : Int) := IntWalk.u8_in _ (by omega)
      generalize k * n = p at *
      go_wp2_with fail
      go_roundg (16 - (k + 1))
      case measure => omega
      case rel =>
        refine ⟨k + 1, rfl, by omega, by go_num, ?_, ?_, Below.set3 L (by omega) _, by simp; omega⟩
        · exact Lib.hid ((row_other (by omega)).trans H0.out)
        · rw [← e2.out]; exact hs
    · obtain rfl : k = 16 := by omega
      have hl16 : Hid ((countTo n 16).length = 16) := tab_len _ _
      go_wp2_with (first | (refine wpList_load_row rfl 28 _ rfl _ rfl _ _ _ _ H1.out Try.underlying28 rfl (by rw [info16, ivA_size, hl16.out]) ?_) | (refine wpList_store_row rfl 28 _ _ rfl _ _ rfl rfl _ _ H0.out (by rw [info16, ivA_size, hl16.out]) (by rw [ivA_size, ivA_size, zeros_len, hl16.out]) (ivA_one _ _) ?_))
      exact bodyPost_ret (results_cell_row (p := 2) rfl _ _ (w.heap.size) _ _ _ _ rfl (setRow_get _ _ _ _ _ _ H0.out) Try.underlying28 rfl (by rw [info16, ivA_size, hl16.out])) rfl ⟨rfl, Below.setRow L (by omega) _⟩

theorem alive_check : blockN (wordsN (countN 1)) (countN 17) = [0x69, 0xc4, 0xe0, 0xd8, 0x6a, 0x7b, 0x04, 0x30, 0xd8, 0xcd, 0xb7, 0x80, 0x70, 0xb4, 0xc5, 0x5a] := by
  rw [wordsN_eq]; decide +kernel
theorem countN_len (n : Nat) : (countN n).length = 16 := tab_len _ _
theorem countN_byt (n : Nat) (hn : n ≤ 17) : Byt (countN n) := by
  unfold countN countTo
  refine Byt.tab 16 _ fun j hj => ?_
  rw [if_pos hj]
  have : j * n ≤ 15 * 17 := Nat.mul_le_mul (by omega) hn
  omega

set_option maxRecDepth 100000 in
set_option maxHeartbeats 4000000 in
theorem alive_any (w : World) :
    Calls Try.prog 16 #[] w fun e w' => e = .returned (.bool true) ∧ Below w.heap.size w w' := by
  have hck := alive_check
  have h1l := countN_len 1
  have h17l := countN_len 17
  have h1b := Lib.hid (countN_byt 1 (by omega))
  have h17b := Lib.hid (countN_byt 17 (by omega))
  have h1 := Lib.hid (counting_any 1 (by omega))
  have h17 := Lib.hid (counting_any 17 (by omega))
  generalize countN 1 = c1 at *
  generalize countN 17 = c17 at *
  replace hck := Lib.hid hck
  replace h1l := Lib.hid h1l
  replace h17l := Lib.hid h17l
  go_enter Try.func16, Try.ntmps16
  go_wp2_with fail
  refine (h1.out _).mono ?_
  rintro e w1 ⟨rfl, hb1⟩
  go_wp2_with fail
  refine (aesNew_any c1 h1l.out h1b.out _).mono ?_
  rintro e w2 ⟨g, rfl, hg, hC2, hb2⟩
  have q2 := hb1.trans (hb2.mono hb1.size)
  go_wp2_with fail
  refine (h17.out _).mono ?_
  rintro e w3 ⟨rfl, hb3⟩
  have hC3 := hC2.below hb3
  have q3 := q2.trans (hb3.mono q2.size)
  go_wp2_with fail
  refine (block_any (wordsN c1) c17 g h17l.out h17b.out _ hC3).mono ?_
  rintro e w4 ⟨rfl, hb4⟩
  have q4 := q3.trans (hb4.mono q3.size)
  rw [hck.out]
  have heq : ∀ w, (Op.equalIn 10000 28 (.agg (ivA .u8 [0x69, 0xc4, 0xe0, 0xd8, 0x6a, 0x7b, 0x04, 0x30, 0xd8, 0xcd, 0xb7, 0x80, 0x70, 0xb4, 0xc5, 0x5a])) (.agg #[.int .u8 0x69, .int .u8 0xc4, .int .u8 0xe0, .int .u8 0xd8, .int .u8 0x6a, .int .u8 0x7b, .int .u8 0x04, .int .u8 0x30, .int .u8 0xd8, .int .u8 0xcd, .int .u8 0xb7, .int .u8 0x80, .int .u8 0x70, .int .u8 0xb4, .int .u8 0xc5, .int .u8 0x5a])).run Try.prog w = .ok true w := fun w =>
    run_equalIn_ivA 9998 28 5 16 .u8 [0x69, 0xc4, 0xe0, 0xd8, 0x6a, 0x7b, 0x04, 0x30, 0xd8, 0xcd, 0xb7, 0x80, 0x70, 0xb4, 0xc5, 0x5a] [0x69, 0xc4, 0xe0, 0xd8, 0x6a, 0x7b, 0x04, 0x30, 0xd8, 0xcd, 0xb7, 0x80, 0x70, 0xb4, 0xc5, 0x5a] Try.underlying28 Try.underlying5 infou8 rfl rfl w
  go_wp2_with fail
  go_ret
  exact ⟨rfl, q4⟩
end Go.Proofs.Ytjjemkfkpnemoaa
