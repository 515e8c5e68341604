import Derived.Test.YtjjemkfkpnemoaaAesD
import Derived.StillTailTactics
namespace Go.Proofs.Ytjjemkfkpnemoaa
open Go.RowKit

theorem zero16 : ∀ w, (zeroValue 28).run Try.prog w = .ok (.agg (ivA .u8 (zeros 16))) w := fun w => by kernel_rfl
theorem info16 : (Try.prog.info? 28).map (·.size) = some 16 := by kernel_rfl

/-- The cipher's cells: the box and the words. -/
def Cf (w : World) (g : Nat) (W : List Nat) : Prop := w.heap[g]? = some (.cells (ivA .u8 (sbox ++ W)) 82) ∧ W.length = 176 ∧ Byt W
theorem Cf.lt {w : World} {g : Nat} {W : List Nat} (h : Cf w g W) : g < w.heap.size := by
  rcases Nat.lt_or_ge g w.heap.size with hh | hh
  · exact hh
  · have := h.1; simp [hh] at this
theorem Cf.below {w w' : World} {g : Nat} {W : List Nat} (h : Cf w g W) (hb : Below w.heap.size w w') : Cf w' g W := ⟨by rw [hb.block g h.lt]; exact h.1, h.2⟩
theorem Cf.word {w : World} {g : Nat} {W : List Nat} (h : Cf w g W) (i : Nat) (hi : i < 176) : w.cell? ⟨g, 256 + i, none⟩ = some (.int .u8 (W.getD i 0 : Nat)) := by
  simp only [World.cell?, h.1, Option.isSome_none, Bool.false_eq_true, if_false]
  rw [ivA_get _ _ _ (by rw [List.length_append, sbox_len, h.2.1]; omega)]
  congr 3
  rw [List.getD_eq_getElem?_getD, List.getD_eq_getElem?_getD, List.getElem?_append_right (by rw [sbox_len]; omega), sbox_len, Nat.add_sub_cancel_left]
theorem Cf.box {w : World} {g : Nat} {W : List Nat} (h : Cf w g W) (i : Nat) (hi : i < 256) : w.cell? ⟨g, i, none⟩ = some (.int .u8 (sbox.getD i 0 : Nat)) := by
  simp only [World.cell?, h.1, Option.isSome_none, Bool.false_eq_true, if_false]
  rw [ivA_get _ _ _ (by rw [List.length_append, sbox_len, h.2.1]; omega)]
  congr 3
  rw [List.getD_eq_getElem?_getD, List.getD_eq_getElem?_getD, List.getElem?_append_left (by rw [sbox_len]; omega)]

/-- A round's words xored to a block. -/
def keyTo (W : List Nat) (r : Nat) (b : List Nat) (i : Nat) : List Nat := tab 16 fun j => if j < i then b.getD j 0 ^^^ W.getD (16 * r + j) 0 else b.getD j 0
def keyN (W : List Nat) (r : Nat) (b : List Nat) : List Nat := keyTo W r b 16

set_option maxRecDepth 100000 in
set_option maxHeartbeats 4000000 in
theorem key_any (W b : List Nat) (g r : Nat) (hb : b.length = 16) (hB : Byt b) (hr : r ≤ 10) (w : World) (hC : Cf w g W) :
    Calls Try.prog 57 #[.pointer (some ⟨g, 0, none⟩), .agg (ivA .u8 b), .int .i64 (r : Nat)] w fun e w' => e = .returned (.agg (ivA .u8 (keyN W r b))) ∧ Below w.heap.size w w' := by
  replace hC := Lib.hid hC
  have hg := hC.out.lt
  have hg1 : g < w.heap.size + 1 := by omega
  have h0 : Hid (b = keyTo W r b 0) := by
    show b = _
    unfold keyTo
    rw [tab_congr 16 _ (fun j => b.getD j 0) (fun j _ => by simp), tab_of 16 b hb]
  replace hb := Lib.hid hb
  replace hB := Lib.hid hB
  go_enter Try.func57, Try.ntmps57
  go_wp2_with (refine wpList_alloc_of rfl 28 rfl _ zero16 ?_)
  go_loopg [8] 16 (fun n i wx => ∃ k d, n = 16 - k ∧ k ≤ 16 ∧ i = .int .i64 (k : Nat) ∧ wx = World.drewN ((w.alloc (.cells (ivA .u8 (keyTo W r b k)) 28)).alloc (.cells (ivA .u8 (zeros 16)) 28)) d)
  case atStart => exact ⟨0, 0, by omega, by omega, rfl, by rw [← h0.out]; rfl⟩
  case round =>
    obtain ⟨k, d, rfl, hk, rfl, rfl⟩ := hrel
    by_cases hk16 : k < 16
    · have c1 := ivA_get .u8 (keyTo W r b k) k (by unfold keyTo; rw [tab_len]; omega)
      have e1 : Hid ((keyTo W r b k).getD k 0 = b.getD k 0) := by show _ = _; unfold keyTo; rw [tab_get _ _ _ hk16]; simp
      rw [e1.out] at c1
      have c2 := hC.out.word (16 * r + k) (by omega)
      have hx := u8_xor_nat (b.getD k 0) (W.getD (16 * r + k) 0) (hB.out k) (hC.out.2.2 _)
      have hs := ivA_set .u8 (keyTo W r b k) k (b.getD k 0 ^^^ W.getD (16 * r + k) 0)
      have e2 : Hid ((keyTo W r b k).set k (b.getD k 0 ^^^ W.getD (16 * r + k) 0) = keyTo W r b (k + 1)) := by
        show _ = _
        unfold keyTo
        refine tab_set 16 _ _ k _ hk16 (by simp) fun j hj hne => ?_
        have : (j < k + 1) ↔ (j < k) := by omega
        simp only [this]
      rw [e2.out] at hs
      generalize hwv : World.drewN ((w.alloc (.cells (ivA .u8 (keyTo W r b k)) 28)).alloc (.cells (ivA .u8 (zeros 16)) 28)) d = wv at *
      have c1' : wv.cell? ⟨w.heap.size, k, none⟩ = some (.int .u8 (b.getD k 0 : Nat)) := by rw [← hwv]; simp [go_sem, c1]
      have f1' : wv.frozen? ⟨w.heap.size, k, none⟩ = false := by rw [← hwv]; simp [go_sem]
      have c2' : wv.cell? ⟨g, 256 + (16 * r + k), none⟩ = some (.int .u8 (W.getD (16 * r + k) 0 : Nat)) := by rw [← hwv, ← c2]; simp [go_sem, hg, hg1]
      generalize W.getD (16 * r + k) 0 = y at *
      generalize b.getD k 0 = x at *
      replace hwv := Lib.hid hwv
      replace hs := Lib.hid hs
      clear c2 c1
      have a1 : IntKind.i64.wrap (16 * (r : Int)) = 16 * (r : Int) := IntWalk.i64_in _ (by omega)
      have a2 : IntKind.i64.wrap (16 * (r : Int) + k) = 16 * (r : Int) + k := IntWalk.i64_in _ (by omega)
      have a3 : 0 ≤ 16 * (r : Int) + k := by omega
      have a4 : 16 * (r : Int) + k < 176 := by omega
      have a5 : (16 * (r : Int) + k).toNat = 16 * r + k := by omega
      go_wp2_with fail
      go_still_tail 14, (by kernel_rfl)
      change wpList _ _ _ _ _ wv.drew
      clear a1 a2 a3 a4 a5 c2'
      go_wp2_with fail
      go_roundg (16 - (k + 1))
      case measure => omega
      case rel => exact ⟨k + 1, d + 1, rfl, by omega, by go_num, by rw [← hwv.out]; simp [go_sem, hs.out]⟩
    · obtain rfl : k = 16 := by omega
      have hg1 := heap_alloc2_new w (.cells (ivA .u8 (keyTo W r b 16)) 28) (.cells (ivA .u8 (zeros 16)) 28)
      have hg0 := heap_alloc2_old w (.cells (ivA .u8 (keyTo W r b 16)) 28) (.cells (ivA .u8 (zeros 16)) 28)
      generalize hwv : World.drewN ((w.alloc (.cells (ivA .u8 (keyTo W r b 16)) 28)).alloc (.cells (ivA .u8 (zeros 16)) 28)) d = wv at *
      have L : Below w.heap.size w wv := by rw [← hwv]; exact Below.drewN (((Below.refl _ _).alloc (Nat.le_refl _) _).alloc (by simp) _) d
      have hh : wv.heap = ((w.alloc (.cells (ivA .u8 (keyTo W r b 16)) 28)).alloc (.cells (ivA .u8 (zeros 16)) 28)).heap := by rw [← hwv]; rfl
      rw [← hh] at hg0 hg1
      replace hg0 := Lib.hid hg0
      replace hg1 := Lib.hid hg1
      have hl16 : Hid ((keyTo W r b 16).length = 16) := tab_len _ _
      clear hh hwv
      go_wp2_with (first | (refine wpList_load_row rfl 28 _ rfl _ rfl _ _ _ _ hg0.out Try.underlying28 rfl (by rw [info16, ivA_size, hl16.out]) ?_) | (refine wpList_store_row rfl 28 _ _ rfl _ _ rfl rfl _ _ hg1.out (by rw [info16, ivA_size, hl16.out]) (by rw [ivA_size, ivA_size, zeros_len, hl16.out]) (ivA_one _ _) ?_))
      exact bodyPost_ret (results_cell_row (p := 6) rfl _ _ (w.heap.size + 1) _ _ _ _ rfl (setRow_get _ _ _ _ _ _ hg1.out) Try.underlying28 rfl (by rw [info16, ivA_size, hl16.out])) rfl ⟨rfl, Below.setRow L (by omega) _⟩
end Go.Proofs.Ytjjemkfkpnemoaa
