import Derived.Test.YtjjemkfkpnemoaaAesF
namespace Go.Proofs.Ytjjemkfkpnemoaa
open Go.RowKit

set_option maxHeartbeats 1000000 in
/-- The closure of mixed: a byte of the column, from the row on. -/
theorem at_any (b : List Nat) (hb : b.length = 16) (bb bc br : Nat) (c r m : Int) (hc0 : 0 ≤ c) (hc1 : c ≤ 12) (hr0 : 0 ≤ r) (hr1 : r ≤ 3) (hm0 : 0 ≤ m) (hm1 : m ≤ 3) (w : World) (hB : w.heap[bb]? = some (.cells (ivA .u8 b) 28))
    (hc : w.cell? ⟨bc, 0, none⟩ = some (.int .i64 c)) (hr : w.cell? ⟨br, 0, none⟩ = some (.int .i64 r)) :
    Calls Try.prog 75 #[.int .i64 m, .pointer (some ⟨bb, 0, none⟩), .pointer (some ⟨bc, 0, none⟩), .pointer (some ⟨br, 0, none⟩)] w fun e w' => e = .returned (.int .u8 (b.getD (c + (r + m) % 4).toNat 0 : Nat)) ∧ w' = w := by
  have c1 := row_cell hB (c + (r + m) % 4).toNat (by rw [hb]; omega)
  clear hB
  have a1 : 0 ≤ c + (r + m) % 4 := by omega
  have a2 : c + (r + m) % 4 < 16 := by omega
  generalize b.getD (c + (r + m) % 4).toNat 0 = x at *
  go_enter Try.func75, Try.ntmps75
  go_wp2
  go_ret
  exact ⟨rfl, rfl⟩

/-- mixed columns: byte i. -/
def mixV (b : List Nat) (i : Nat) : Nat := dbl (b.getD (i / 4 * 4 + i % 4) 0) ^^^ dbl (b.getD (i / 4 * 4 + (i % 4 + 1) % 4) 0) ^^^ b.getD (i / 4 * 4 + (i % 4 + 1) % 4) 0 ^^^ b.getD (i / 4 * 4 + (i % 4 + 2) % 4) 0 ^^^ b.getD (i / 4 * 4 + (i % 4 + 3) % 4) 0
def mixTo (b : List Nat) (i : Nat) : List Nat := tab 16 fun j => if j < i then mixV b j else 0
def mixN (b : List Nat) : List Nat := mixTo b 16

set_option maxRecDepth 100000 in
set_option maxHeartbeats 4000000 in
theorem mixed_any (b : List Nat) (hb : b.length = 16) (hB : Byt b) (w : World) :
    Calls Try.prog 58 #[.agg (ivA .u8 b)] w fun e w' => e = .returned (.agg (ivA .u8 (mixN b))) ∧ Below w.heap.size w w' := by
  have h0 : Hid (zeros 16 = mixTo b 0) := by
    show zeros 16 = _
    rw [← tab_of 16 (zeros 16) (zeros_len _)]
    exact tab_congr 16 _ _ fun j _ => by rw [zeros_get]; simp
  replace hb := Lib.hid hb
  replace hB := Lib.hid hB
  go_enter Try.func58, Try.ntmps58
  go_wp2_with (refine wpList_alloc_of rfl 28 rfl _ zero16 ?_)
  go_loopg [8] 16 (fun n i wx => ∃ k, n = 16 - k ∧ k ≤ 16 ∧ i = .int .i64 (k : Nat) ∧ Hid (wx.heap[w.heap.size]? = some (.cells (ivA .u8 b) 28)) ∧ Hid (wx.heap[w.heap.size + 1]? = some (.cells (ivA .u8 (zeros 16)) 28)) ∧ Hid (wx.heap[w.heap.size + 2]? = some (.cells (ivA .u8 (mixTo b k)) 28)) ∧ Below w.heap.size w wx ∧ w.heap.size + 2 < wx.heap.size)
  case atStart =>
    refine ⟨0, by omega, by omega, rfl, ?_, ?_, ?_, (((Below.refl _ _).alloc (Nat.le_refl _) _).alloc (by simp) _).alloc (by simp; omega) _, by simp⟩
    · refine Lib.hid ?_; rw [al_old _ _ _ (by simp; omega), al_old _ _ _ (by simp), al_new _ _ _ (by simp)]
    · refine Lib.hid ?_; rw [al_old _ _ _ (by simp), al_new _ _ _ (by simp)]
    · refine Lib.hid ?_; rw [al_new _ _ _ (by simp), h0.out]
  case round =>
    obtain ⟨k, rfl, hk, rfl, H0, H1, H2, L, hz⟩ := hrel
    by_cases hk16 : k < 16
    · have A := Lib.hid (fun (m : Int) (h0 : 0 ≤ m) (h1 : m ≤ 3) => at_any b hb.out w.heap.size wr.heap.size (wr.heap.size + 1) ((k : Int) / 4 * 4) ((k : Int) % 4) m (by omega) (by omega) (by omega) (by omega) h0 h1 ((wr.alloc (.cells #[.int .i64 ((k : Int) / 4 * 4)] 3)).alloc (.cells #[.int .i64 ((k : Int) % 4)] 3))
        (by rw [al_old _ _ _ (by simp; omega), al_old _ _ _ (by omega)]; exact H0.out) (by simp [go_sem]) (by simp [go_sem]))
      obtain ⟨x0, g0⟩ : ∃ x, Hid (b.getD (k / 4 * 4 + k % 4) 0 = x) := ⟨_, rfl⟩
      have p0 := hB.out (k / 4 * 4 + k % 4)
      rw [g0.out] at p0
      obtain ⟨x1, g1⟩ : ∃ x, Hid (b.getD (k / 4 * 4 + (k % 4 + 1) % 4) 0 = x) := ⟨_, rfl⟩
      have p1 := hB.out (k / 4 * 4 + (k % 4 + 1) % 4)
      rw [g1.out] at p1
      obtain ⟨x2, g2⟩ : ∃ x, Hid (b.getD (k / 4 * 4 + (k % 4 + 2) % 4) 0 = x) := ⟨_, rfl⟩
      have p2 := hB.out (k / 4 * 4 + (k % 4 + 2) % 4)
      rw [g2.out] at p2
      obtain ⟨x3, g3⟩ : ∃ x, Hid (b.getD (k / 4 * 4 + (k % 4 + 3) % 4) 0 = x) := ⟨_, rfl⟩
      have p3 := hB.out (k / 4 * 4 + (k % 4 + 3) % 4)
      rw [g3.out] at p3
      have hmv : Hid (mixV b k = dbl x0 ^^^ dbl x1 ^^^ x1 ^^^ x2 ^^^ x3) := by
        show mixV b k = _
        unfold mixV
        rw [g0.out, g1.out, g2.out, g3.out]
      have q0 := dbl_lt x0
      have q1 := dbl_lt x1
      go_wp2_with fail
      refine (A.out 0 (by omega) (by omega)).mono ?_
      rintro e w' ⟨rfl, rfl⟩
      rw [show ((k : Int) / 4 * 4 + ((k : Int) % 4 + 0) % 4).toNat = k / 4 * 4 + k % 4 by omega, g0.out]
      go_wp2_with fail
      refine (double_any x0 p0 ((wr.alloc (.cells #[.int .i64 ((k : Int) / 4 * 4)] 3)).alloc (.cells #[.int .i64 ((k : Int) % 4)] 3))).mono ?_
      rintro e w' ⟨rfl, rfl⟩
      generalize dbl x0 = y0 at *
      go_wp2_with fail
      refine (A.out 1 (by omega) (by omega)).mono ?_
      rintro e w' ⟨rfl, rfl⟩
      rw [show ((k : Int) / 4 * 4 + ((k : Int) % 4 + 1) % 4).toNat = k / 4 * 4 + (k % 4 + 1) % 4 by omega, g1.out]
      go_wp2_with fail
      refine (double_any x1 p1 ((wr.alloc (.cells #[.int .i64 ((k : Int) / 4 * 4)] 3)).alloc (.cells #[.int .i64 ((k : Int) % 4)] 3))).mono ?_
      rintro e w' ⟨rfl, rfl⟩
      generalize dbl x1 = y1 at *
      go_wp2_with fail
      refine (A.out 1 (by omega) (by omega)).mono ?_
      rintro e w' ⟨rfl, rfl⟩
      rw [show ((k : Int) / 4 * 4 + ((k : Int) % 4 + 1) % 4).toNat = k / 4 * 4 + (k % 4 + 1) % 4 by omega, g1.out]
      go_wp2_with fail
      refine (A.out 2 (by omega) (by omega)).mono ?_
      rintro e w' ⟨rfl, rfl⟩
      rw [show ((k : Int) / 4 * 4 + ((k : Int) % 4 + 2) % 4).toNat = k / 4 * 4 + (k % 4 + 2) % 4 by omega, g2.out]
      go_wp2_with fail
      refine (A.out 3 (by omega) (by omega)).mono ?_
      rintro e w' ⟨rfl, rfl⟩
      rw [show ((k : Int) / 4 * 4 + ((k : Int) % 4 + 3) % 4).toNat = k / 4 * 4 + (k % 4 + 3) % 4 by omega, g3.out]
      have e2 : Hid ((mixTo b k).set k (mixV b k) = mixTo b (k + 1)) := by
        show _ = _
        unfold mixTo
        refine tab_set 16 _ _ k _ hk16 (by simp) fun j hj hne => ?_
        have : (j < k + 1) ↔ (j < k) := by omega
        simp only [this]
      clear A
      have z1 : y0 ^^^ y1 < 256 := Nat.xor_lt_two_pow (n := 8) q0 q1
      have z2 : y0 ^^^ y1 ^^^ x1 < 256 := Nat.xor_lt_two_pow (n := 8) z1 p1
      have z3 : y0 ^^^ y1 ^^^ x1 ^^^ x2 < 256 := Nat.xor_lt_two_pow (n := 8) z2 p2
      have r1 := u8_xor_nat y0 y1 q0 q1
      have r2 := u8_xor_nat _ x1 z1 p1
      have r3 := u8_xor_nat _ x2 z2 p2
      have r4 := u8_xor_nat _ x3 z3 p3
      rw [← hmv.out] at r4
      generalize mixV b k = mv at *
      generalize y0 ^^^ y1 ^^^ x1 ^^^ x2 = u3 at *
      generalize y0 ^^^ y1 ^^^ x1 = u2 at *
      generalize y0 ^^^ y1 = u1 at *
      clear q0 q1 p0 p1 p2 p3 z1 z2 z3 hmv
      have K0 := Lib.hid (Eq.trans (show ((wr.alloc (.cells #[.int .i64 ((k : Int) / 4 * 4)] 3)).alloc (.cells #[.int .i64 ((k : Int) % 4)] 3)).heap[w.heap.size]? = wr.heap[w.heap.size]? from by rw [al_old _ _ _ (by simp; omega), al_old _ _ _ (by omega)]) H0.out)
      have K1 := Lib.hid (Eq.trans (show ((wr.alloc (.cells #[.int .i64 ((k : Int) / 4 * 4)] 3)).alloc (.cells #[.int .i64 ((k : Int) % 4)] 3)).heap[w.heap.size + 1]? = wr.heap[w.heap.size + 1]? from by rw [al_old _ _ _ (by simp; omega), al_old _ _ _ (by omega)]) H1.out)
      have K2 := Lib.hid (Eq.trans (show ((wr.alloc (.cells #[.int .i64 ((k : Int) / 4 * 4)] 3)).alloc (.cells #[.int .i64 ((k : Int) % 4)] 3)).heap[w.heap.size + 2]? = wr.heap[w.heap.size + 2]? from by rw [al_old _ _ _ (by simp; omega), al_old _ _ _ (by omega)]) H2.out)
      have L' := (L.alloc L.size (.cells #[.int .i64 ((k : Int) / 4 * 4)] 3)).alloc (by simp; omega) (.cells #[.int .i64 ((k : Int) % 4)] 3)
      have hz' : w.heap.size + 2 < ((wr.alloc (.cells #[.int .i64 ((k : Int) / 4 * 4)] 3)).alloc (.cells #[.int .i64 ((k : Int) % 4)] 3)).heap.size := by simp; omega
      generalize (wr.alloc (.cells #[.int .i64 ((k : Int) / 4 * 4)] 3)).alloc (.cells #[.int .i64 ((k : Int) % 4)] 3) = wv at *
      have c3 := row_cell K2.out k (by unfold mixTo; rw [tab_len]; omega)
      have f3 := row_frozen K2.out k
      have hs := Lib.hid (row_set K2.out k mv)
      go_wp2_with fail
      go_roundg (16 - (k + 1))
      case measure => omega
      case rel =>
        refine ⟨k + 1, rfl, by omega, by go_num, ?_, ?_, ?_, Below.set3 L' (by omega) _, by simp; omega⟩
        · exact Lib.hid ((row_other (by omega)).trans K0.out)
        · exact Lib.hid ((row_other (by omega)).trans K1.out)
        · rw [← e2.out]; exact hs
    · obtain rfl : k = 16 := by omega
      have hl16 : Hid ((mixTo b 16).length = 16) := tab_len _ _
      go_wp2_with (first | (refine wpList_load_row rfl 28 _ rfl _ rfl _ _ _ _ H2.out Try.underlying28 rfl (by rw [info16, ivA_size, hl16.out]) ?_) | (refine wpList_store_row rfl 28 _ _ rfl _ _ rfl rfl _ _ H1.out (by rw [info16, ivA_size, hl16.out]) (by rw [ivA_size, ivA_size, zeros_len, hl16.out]) (ivA_one _ _) ?_))
      exact bodyPost_ret (results_cell_row (p := 2) rfl _ _ (w.heap.size + 1) _ _ _ _ rfl (setRow_get _ _ _ _ _ _ H1.out) Try.underlying28 rfl (by rw [info16, ivA_size, hl16.out])) rfl ⟨rfl, Below.setRow L (by omega) _⟩
end Go.Proofs.Ytjjemkfkpnemoaa
