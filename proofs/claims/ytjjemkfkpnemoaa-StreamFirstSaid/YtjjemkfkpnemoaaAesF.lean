import Derived.Test.YtjjemkfkpnemoaaAesE
namespace Go.Proofs.Ytjjemkfkpnemoaa
open Go.RowKit

theorem row_cell {w : World} {g : Nat} {k : IntKind} {l : List Nat} {t : TypeId} {f : Nat × Nat} (h : w.heap[g]? = some (.cells (ivA k l) t f)) (i : Nat) (hi : i < l.length) : w.cell? ⟨g, i, none⟩ = some (.int k (l.getD i 0 : Nat)) := by
  simp only [World.cell?, h, Option.isSome_none, Bool.false_eq_true, if_false]
  exact ivA_get k l i hi
theorem row_frozen {w : World} {g : Nat} {cs : Array Value} {t : TypeId} (h : w.heap[g]? = some (.cells cs t (0, 0))) (i : Nat) : w.frozen? ⟨g, i, none⟩ = false := by
  simp [World.frozen?, h]
theorem row_set {w : World} {g : Nat} {k : IntKind} {l : List Nat} {t : TypeId} {f : Nat × Nat} (h : w.heap[g]? = some (.cells (ivA k l) t f)) (i x : Nat) : (w.setCell ⟨g, i, none⟩ (.int k (x : Nat))).heap[g]? = some (.cells (ivA k (l.set i x)) t f) := by
  simp [World.setCell, Array.getElem?_modify, h, ivA_set]
theorem row_other {w : World} {g g' i : Nat} {v : Value} (h : g' ≠ g) : (w.setCell ⟨g, i, none⟩ v).heap[g']? = w.heap[g']? := Below.heap_setCell _ _ _ _ h

theorem al_new (w : World) (o : Obj) (n : Nat) (h : n = w.heap.size) : (w.alloc o).heap[n]? = some o := by subst h; exact heap_alloc_new w o
theorem al_old (w : World) (o : Obj) (n : Nat) (h : n < w.heap.size) : (w.alloc o).heap[n]? = w.heap[n]? := Below.heap_alloc w o n h

/-- turned: each byte through the box, and rows turned. -/
def turnTo (b : List Nat) (i : Nat) : List Nat := tab 16 fun j => if j < i then sbox.getD (b.getD ((j + 4 * (j % 4)) % 16) 0) 0 else 0
def turnN (b : List Nat) : List Nat := turnTo b 16

set_option maxRecDepth 100000 in
set_option maxHeartbeats 4000000 in
theorem turned_any (W b : List Nat) (g : Nat) (hb : b.length = 16) (hB : Byt b) (w : World) (hC : Cf w g W) :
    Calls Try.prog 59 #[.pointer (some ⟨g, 0, none⟩), .agg (ivA .u8 b)] w fun e w' => e = .returned (.agg (ivA .u8 (turnN b))) ∧ Below w.heap.size w w' := by
  replace hC := Lib.hid hC
  have hg := hC.out.lt
  have h0 : Hid (zeros 16 = turnTo b 0) := by
    show zeros 16 = _
    rw [← tab_of 16 (zeros 16) (zeros_len _)]
    exact tab_congr 16 _ _ fun j _ => by rw [zeros_get]; simp
  replace hb := Lib.hid hb
  replace hB := Lib.hid hB
  go_enter Try.func59, Try.ntmps59
  go_wp2_with (refine wpList_alloc_of rfl 28 rfl _ zero16 ?_)
  go_loopg [7] 16 (fun n i wx => ∃ k, n = 16 - k ∧ k ≤ 16 ∧ i = .int .i64 (k : Nat) ∧ Hid (wx.heap[w.heap.size]? = some (.cells (ivA .u8 b) 28)) ∧ Hid (wx.heap[w.heap.size + 1]? = some (.cells (ivA .u8 (zeros 16)) 28)) ∧ Hid (wx.heap[w.heap.size + 2]? = some (.cells (ivA .u8 (turnTo b k)) 28)) ∧ Below w.heap.size w wx ∧ w.heap.size + 2 < wx.heap.size)
  case atStart =>
    refine ⟨0, by omega, by omega, rfl, ?_, ?_, ?_, (((Below.refl _ _).alloc (Nat.le_refl _) _).alloc (by simp) _).alloc (by simp; omega) _, by simp⟩
    · refine Lib.hid ?_; rw [al_old _ _ _ (by simp; omega), al_old _ _ _ (by simp), al_new _ _ _ (by simp)]
    · refine Lib.hid ?_; rw [al_old _ _ _ (by simp), al_new _ _ _ (by simp)]
    · refine Lib.hid ?_; rw [al_new _ _ _ (by simp), h0.out]
  case round =>
    obtain ⟨k, rfl, hk, rfl, H0, H1, H2, L, hz⟩ := hrel
    by_cases hk16 : k < 16
    · have hC' := Lib.hid (hC.out.below L)
      have c1 := row_cell H0.out ((k + 4 * (k % 4)) % 16) (by rw [hb.out]; omega)
      have hx := hB.out ((k + 4 * (k % 4)) % 16)
      have c2 := hC'.out.box (b.getD ((k + 4 * (k % 4)) % 16) 0) hx
      have c3 := row_cell H2.out k (by unfold turnTo; rw [tab_len]; omega)
      have f3 := row_frozen H2.out k
      have hs := Lib.hid (row_set H2.out k (sbox.getD (b.getD ((k + 4 * (k % 4)) % 16) 0) 0))
      have e2 : Hid ((turnTo b k).set k (sbox.getD (b.getD ((k + 4 * (k % 4)) % 16) 0) 0) = turnTo b (k + 1)) := by
        show _ = _
        unfold turnTo
        refine tab_set 16 _ _ k _ hk16 (by simp) fun j hj hne => ?_
        have : (j < k + 1) ↔ (j < k) := by omega
        simp only [this]
      generalize hy : sbox.getD (b.getD ((k + 4 * (k % 4)) % 16) 0) 0 = y at *
      generalize b.getD ((k + 4 * (k % 4)) % 16) 0 = x at *
      replace hy := Lib.hid hy
      have a1 : IntKind.i64.wrap (4 * ((k : Int) % 4)) = 4 * ((k : Int) % 4) := IntWalk.i64_in _ (by omega)
      have a2 : IntKind.i64.wrap ((k : Int) + 4 * ((k : Int) % 4)) = (k : Int) + 4 * ((k : Int) % 4) := IntWalk.i64_in _ (by omega)
      have a0 : (k : Int).tmod 4 = (k : Int) % 4 := Int.tmod_eq_emod_of_nonneg (by omega)
      have a6 : ((k : Int) + 4 * ((k : Int) % 4)).tmod 16 = ((k : Int) + 4 * ((k : Int) % 4)) % 16 := Int.tmod_eq_emod_of_nonneg (by omega)
      have a3 : 0 ≤ ((k : Int) + 4 * ((k : Int) % 4)) % 16 := by omega
      have a4 : ((k : Int) + 4 * ((k : Int) % 4)) % 16 < 16 := by omega
      have a5 : (((k : Int) + 4 * ((k : Int) % 4)) % 16).toNat = (k + 4 * (k % 4)) % 16 := by omega
      have hx1 : (x : Int) < 256 := by omega
      go_wp2_with fail
      go_still_tail 15, (by kernel_rfl)
      change wpList _ _ _ _ _ wr.drew
      clear a1 a2 a3 a4 a5 a0 a6 c1 c2
      go_wp2_with fail
      go_roundg (16 - (k + 1))
      case measure => omega
      case rel =>
        refine ⟨k + 1, rfl, by omega, by go_num, ?_, ?_, ?_, (Below.set3 L (by omega) _).drew, by simp; omega⟩
        · exact Lib.hid ((row_other (by omega)).trans H0.out)
        · exact Lib.hid ((row_other (by omega)).trans H1.out)
        · rw [← e2.out]; exact hs
    · obtain rfl : k = 16 := by omega
      have hl16 : Hid ((turnTo b 16).length = 16) := tab_len _ _
      go_wp2_with (first | (refine wpList_load_row rfl 28 _ rfl _ rfl _ _ _ _ H2.out Try.underlying28 rfl (by rw [info16, ivA_size, hl16.out]) ?_) | (refine wpList_store_row rfl 28 _ _ rfl _ _ rfl rfl _ _ H1.out (by rw [info16, ivA_size, hl16.out]) (by rw [ivA_size, ivA_size, zeros_len, hl16.out]) (ivA_one _ _) ?_))
      exact bodyPost_ret (results_cell_row (p := 4) rfl _ _ (w.heap.size + 1) _ _ _ _ rfl (setRow_get _ _ _ _ _ _ H1.out) Try.underlying28 rfl (by rw [info16, ivA_size, hl16.out])) rfl ⟨rfl, Below.setRow L (by omega) _⟩
end Go.Proofs.Ytjjemkfkpnemoaa
