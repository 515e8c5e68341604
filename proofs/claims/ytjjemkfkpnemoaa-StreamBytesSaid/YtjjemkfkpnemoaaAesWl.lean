/- The law AesWords. No condition. -/
import Derived.Test.YtjjemkfkpnemoaaAesZ
import Derived.Test.YtjjemkfkpnemoaaAin
namespace Go.Proofs.Ytjjemkfkpnemoaa
open Go.RowKit

theorem RC.word {w : World} {g : Nat} {W : List Nat} (h : RC w g W) : ∃ gW cW, w.cell? ⟨g, 1, none⟩ = some (.slice (some ⟨gW, 0, none⟩) 44 cW) ∧ ∀ i, i < 44 → ∃ f c, w.cell? ⟨gW, i, none⟩ = some (.slice (some ⟨f, 0, none⟩) 4 c) ∧ ∀ k, k < 4 → w.cell? ⟨f, k, none⟩ = some (.int .u8 (W.getD (4 * i + k) 0 : Nat)) := by
  obtain ⟨gB, cB, vW, h1, h2, h3⟩ := h
  obtain ⟨gW, cW, rfl, _, _, hr⟩ := h3.form (rowsW_len W 44) (by omega)
  refine ⟨gW, cW, by rw [heap_cell h1]; rfl, fun i hi => ?_⟩
  obtain ⟨x, hx, O⟩ := hr i hi
  rw [rowsW_get W 44 i hi] at O
  obtain ⟨f, c, rfl, _, _, _, _, hc, _⟩ := O.form (n := 4) (by rw [vb_len]; rfl) (by omega)
  exact ⟨f, c, hx, fun k hk => by rw [hc k hk, vb_get _ _ (by simpa [rowW] using hk), rowW_get W i k hk]⟩
theorem RC.box {w : World} {g : Nat} {W : List Nat} (h : RC w g W) : ∃ gB cB, w.cell? ⟨g, 0, none⟩ = some (.slice (some ⟨gB, 0, none⟩) 256 cB) ∧ ∀ i, i < 256 → w.cell? ⟨gB, i, none⟩ = some (.int .u8 (sbox.getD i 0 : Nat)) := by
  obtain ⟨gB, cB, vW, h1, h2, h3⟩ := h
  exact ⟨gB, cB, by rw [heap_cell h1]; rfl, fun i hi => row_cell h2 i (by rw [sbox_len]; exact hi)⟩

set_option maxRecDepth 100000 in
set_option maxHeartbeats 4000000 in
theorem words_walk (key : List Nat) (hk : key.length = 16) (hB : Byt key) (w : World) :
    Calls Try.prog 5 #[.agg (ivA .u8 key)] w fun e w' => e = .returned (.bool true) ∧ Below w.heap.size w w' := by
  have hwl := Lib.hid (wordsN_len key hk)
  have c1 := Lib.hid (aesWords_any key hk hB)
  have c2 := Lib.hid (rnew_any key hk hB)
  replace hk := Lib.hid hk
  have L0 : Below w.heap.size w (w.alloc (.cells (ivA .u8 key) 28)) := (Below.refl _ _).alloc (Nat.le_refl _) _
  have H0 := Lib.hid (al_new w (.cells (ivA .u8 key) 28) _ rfl)
  go_enter Try.func5, Try.ntmps5
  go_wp2_with fail
  refine (alive_any _).mono ?_
  rintro e w1 ⟨rfl, hb1⟩
  have L1 := L0.trans (hb1.mono L0.size)
  have H1 := Lib.hid (below_heap hb1 H0.out (by simp))
  have hz1 : w.heap.size < w1.heap.size := (Array.getElem?_eq_some_iff.1 H1.out).1
  clear hb1 H0 L0
  go_wp2_with (refine wpList_load_row rfl 28 _ rfl _ rfl _ _ _ _ H1.out Try.underlying28 rfl (by rw [info16, ivA_size, hk.out]) ?_)
  refine (c1.out _).mono ?_
  rintro e w2 ⟨rfl, hb2⟩
  have L2 := L1.trans (hb2.mono L1.size)
  have H2 := Lib.hid (below_heap hb2 H1.out hz1)
  have hz2 : w.heap.size < w2.heap.size := (Array.getElem?_eq_some_iff.1 H2.out).1
  clear hb2 H1 L1
  have hnew := Lib.hid (al_new w2 (.cells (ivA .u8 (zeros 176)) 35) _ rfl)
  have H3 := Lib.hid ((al_old w2 (.cells (ivA .u8 (wordsN key)) 35) _ hz2).trans H2.out)
  have N3 := Lib.hid (al_new w2 (.cells (ivA .u8 (wordsN key)) 35) _ rfl)
  have L3 := L2.alloc (by omega) (.cells (ivA .u8 (wordsN key)) 35)
  have hz3 : w2.heap.size < (w2.alloc (.cells (ivA .u8 (wordsN key)) 35)).heap.size := by simp
  go_wp2_with (first | (refine wpList_alloc_of rfl 35 rfl _ zero176 ?_) | (refine wpList_store_row rfl 35 _ _ rfl _ _ rfl rfl _ _ hnew.out (by rw [info176, ivA_size, hwl.out]) (by rw [ivA_size, ivA_size, zeros_len, hwl.out]) (ivA_one _ _) ?_; rw [World.setRow_alloc_new]; generalize w2.alloc (.cells (ivA .u8 (wordsN key)) 35) = w3 at *) | (refine wpList_load_row rfl 28 _ rfl _ rfl _ _ _ _ H3.out Try.underlying28 rfl (by rw [info16, ivA_size, hk.out]) ?_))
  refine (c2.out _).mono ?_
  rintro e w4 ⟨g, rfl, hg, hR, hb4⟩
  have L4 := Lib.hid (L3.trans (hb4.mono L3.size))
  have N4 := Lib.hid (below_heap hb4 N3.out hz3)
  generalize w2.heap.size = b at *
  clear hb4 L3 N3 H3 L2 H2 hnew hz2
  obtain ⟨gW, cW, q1, hrow⟩ := hR.word
  replace hrow := Lib.hid hrow
  clear hR
  go_wp2_with fail
  go_loopw [5] (fun i wx => ∃ k : Nat, k ≤ 176 ∧ i = .int .i64 (k : Nat) ∧ ∃ x : LaterS [] w4, wx = x.now) (fun i _ => (176 - intOf i).toNat)
  case atStart => exact ⟨0, by omega, rfl, LaterS.first [] w4, rfl⟩
  case round =>
    obtain ⟨k, hk6, rfl, x, rfl⟩ := hrel
    by_cases hk7 : k < 176
    · obtain ⟨f, c, r1, r2⟩ := hrow.out (k / 4) (by omega)
      have r3 := r2 (k % 4) (by omega)
      rw [show 4 * (k / 4) + k % 4 = k by omega] at r3
      have f0 : ∀ y : LaterS [] x.now, y.now.cell? ⟨g, 1, none⟩ = some (.slice (some ⟨gW, 0, none⟩) 44 cW) := fun y => (x.up y).cell q1 (by simp)
      have f1 : ∀ y : LaterS [] x.now, y.now.cell? ⟨gW, k / 4, none⟩ = some (.slice (some ⟨f, 0, none⟩) 4 c) := fun y => (x.up y).cell r1 (by simp)
      have f2 : ∀ y : LaterS [] x.now, y.now.cell? ⟨f, k % 4, none⟩ = some (.int .u8 ((wordsN key).getD k 0 : Nat)) := fun y => (x.up y).cell r3 (by simp)
      have f3 : ∀ y : LaterS [] x.now, y.now.cell? ⟨b, k, none⟩ = some (.int .u8 ((wordsN key).getD k 0 : Nat)) := fun y => (x.up y).cell (row_cell N4.out k (by rw [hwl.out]; exact hk7)) (by simp)
      clear r2 r1 r3
      go_wp2_with fail
      refine wp_region_gg [] [] [] (by kernel_rfl) ?_
      refine hoist [] [] (a1 := ?_) 0 rfl (by kernel_rfl) (.inl ⟨rfl, rfl⟩) rfl rfl rfl (fun x K hK => ?_) ?_
      rotate_left
      · go_big_quiet_op
        exact hK
      refine hoist [] [] (a1 := ?_) 1 rfl (by kernel_rfl) (.inl ⟨rfl, rfl⟩) rfl rfl rfl (fun x K hK => ?_) ?_
      rotate_left
      · go_big_quiet_op
        exact hK
      refine hoist [] [] (a1 := ?_) 2 rfl (by kernel_rfl) (.inl ⟨rfl, rfl⟩) rfl rfl rfl (fun x K hK => ?_) ?_
      rotate_left
      · go_big_quiet_op
        exact hK
      refine hoist [] [] (a1 := ?_) 3 rfl (by kernel_rfl) (.inl ⟨rfl, rfl⟩) rfl rfl rfl (fun x K hK => ?_) ?_
      rotate_left
      · go_big_quiet_op
        exact hK
      refine hoist [] [] (a1 := ?_) 4 rfl (by kernel_rfl) (.inl ⟨rfl, rfl⟩) rfl rfl rfl (fun x K hK => ?_) ?_
      rotate_left
      · go_big_quiet_op
        exact hK
      refine hoist [] [] (a1 := ?_) 5 rfl (by kernel_rfl) (.inl ⟨rfl, rfl⟩) rfl rfl rfl (fun x K hK => ?_) ?_
      rotate_left
      · go_big_quiet_op
        exact hK
      refine hoist [] [] (a1 := ?_) 6 rfl (by kernel_rfl) (.inl ⟨rfl, rfl⟩) rfl rfl rfl (fun x K hK => ?_) ?_
      rotate_left
      · go_big_quiet_op
        exact hK
      refine hoist [] [] (a1 := ?_) 7 rfl (by kernel_rfl) (.inl ⟨rfl, rfl⟩) rfl rfl rfl (fun x K hK => ?_) ?_
      rotate_left
      · go_big_quiet_op
        exact hK
      refine hoist [] [] (a1 := ?_) 8 rfl (by kernel_rfl) (.inl ⟨rfl, rfl⟩) rfl rfl rfl (fun x K hK => ?_) ?_
      rotate_left
      · go_big_quiet_op
        exact hK
      refine hoist [] [] (a1 := ?_) 9 rfl (by kernel_rfl) (.inl ⟨rfl, rfl⟩) rfl rfl rfl (fun x K hK => ?_) ?_
      rotate_left
      · go_big_quiet_op
        exact hK
      refine hoist [] [] (a1 := ?_) 10 rfl (by kernel_rfl) (.inl ⟨rfl, rfl⟩) rfl rfl rfl (fun x K hK => ?_) ?_
      rotate_left
      · go_big_quiet_op
        exact hK
      refine hoist [] [] (a1 := ?_) 11 rfl (by kernel_rfl) (.inl ⟨rfl, rfl⟩) rfl rfl rfl (fun x K hK => ?_) ?_
      rotate_left
      · go_big_quiet_op
        exact hK
      refine hoist [] [] (a1 := ?_) 12 rfl (by kernel_rfl) (.inl ⟨rfl, rfl⟩) rfl rfl rfl (fun x K hK => ?_) ?_
      rotate_left
      · go_big_quiet_op
        exact hK
      refine hoist [] [] (a1 := ?_) 13 rfl (by kernel_rfl) (.inl ⟨rfl, rfl⟩) rfl rfl rfl (fun x K hK => ?_) ?_
      rotate_left
      · go_big_quiet_op
        exact hK
      refine hoist [] [] (a1 := ?_) 14 rfl (by kernel_rfl) (.inl ⟨rfl, rfl⟩) rfl rfl rfl (fun x K hK => ?_) ?_
      rotate_left
      · go_big_quiet_op
        exact hK
      refine hoist [] [] (a1 := ?_) 15 rfl (by kernel_rfl) (.inl ⟨rfl, rfl⟩) rfl rfl rfl (fun x K hK => ?_) ?_
      rotate_left
      · go_big_quiet_op
        exact hK
      refine done (by kernel_rfl) (fun xr => ?_)
      go_wp2_with fail
      go_roundw
      case rel => exact ⟨k + 1, by omega, by go_num, x.up xr, rfl⟩
      case measure => simp [intOf]; omega
    · go_wp2_with fail
      go_ret
      exact ⟨rfl, L4.out.trans (x.ok.below L4.out.size (by simp))⟩

theorem law_words (cs : Array Value) (w : World) (h : Rd w (.block 16 (.label 4)) cs.toList) :
    Calls Try.prog 5 #[.agg cs] w fun e w' => e = .returned (.bool true) ∧ Below w.heap.size w w' := by
  obtain ⟨k, rfl, hk, hB⟩ := ivA_of_Rd h
  exact words_walk k hk hB w
end Go.Proofs.Ytjjemkfkpnemoaa
