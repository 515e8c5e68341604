/- The law AesBlocks. No condition. -/
import Derived.Test.YtjjemkfkpnemoaaAesI2
import Derived.Test.YtjjemkfkpnemoaaGBa
import Derived.Test.YtjjemkfkpnemoaaAin
namespace Go.Proofs.Ytjjemkfkpnemoaa
open Go.RowKit

theorem eq16 (a b : List Nat) (ha : a.length = 16) (hb : b.length = 16) (w : World) : (Op.equalIn 10000 28 (.agg (ivA .u8 a)) (.agg (ivA .u8 b))).run Try.prog w = .ok (a == b) w :=
  run_equalIn_ivA 9998 28 5 16 .u8 a b Try.underlying28 Try.underlying5 infou8 ha hb w

theorem ql16 {C : World → Prop} {a a1 : Act} {o : Oper} {K : Act → Prop} (l : List Nat) (hl : l.length = 16) (x : Operand) (ho : o.op = .load 28 x) (g : Nat) (hx : a.eval x = .pointer (some ⟨g, 0, none⟩))
    (h : ∀ w, C w → w.heap[g]? = some (.cells (ivA .u8 l) 28 (0, 0))) (ha : a.put o.dst (.agg (ivA .u8 l)) = a1) (hK : K a1) : o.quiet Try.prog a C K :=
  quiet_load_row 28 x ho g hx 28 (ivA .u8 l) (0, 0) _ Try.underlying28 rfl (by rw [info16, ivA_size, hl]) h ha hK

set_option maxRecDepth 100000 in
set_option maxHeartbeats 4000000 in
theorem blocks_walk (key a b : List Nat) (hk : key.length = 16) (hB : Byt key) (ha : a.length = 16) (hA : Byt a) (hb : b.length = 16) (hBb : Byt b) (w : World) :
    Calls Try.prog 4 #[.agg (ivA .u8 key), .agg (ivA .u8 a), .agg (ivA .u8 b)] w fun e w' => e = .returned (.bool true) ∧ Below w.heap.size w w' := by
  have hWb := wordsN_byt key hB
  have c1 := Lib.hid (aesNew_any key hk hB)
  have c2 := Lib.hid (rnew_any key hk hB)
  have c3 := Lib.hid (block_any (wordsN key) a)
  have c4 := Lib.hid (block_any (wordsN key) b)
  have c5 := Lib.hid (rblock_any (wordsN key) a)
  have c6 := Lib.hid (block_nil a ha)
  have hX : Hid ((blockN (wordsN key) a).length = 16) := keyN_len _ _ _
  have hY : Hid ((blockN (wordsN key) b).length = 16) := keyN_len _ _ _
  have hinj : Hid (a ≠ b → blockN (wordsN key) a ≠ blockN (wordsN key) b) := fun hne h => hne (block_inj (wordsN key) hWb a b ha hb hA hBb h)
  have hcong : Hid (a = b → blockN (wordsN key) a = blockN (wordsN key) b) := fun h => by rw [h]
  have L0 : Below w.heap.size w (((w.alloc (.cells (ivA .u8 key) 28)).alloc (.cells (ivA .u8 a) 28)).alloc (.cells (ivA .u8 b) 28)) := (((Below.refl _ _).alloc (Nat.le_refl _) _).alloc (by simp) _).alloc (by simp; omega) _
  have k0 : Hid ((((w.alloc (.cells (ivA .u8 key) 28)).alloc (.cells (ivA .u8 a) 28)).alloc (.cells (ivA .u8 b) 28)).heap[w.heap.size]? = some (.cells (ivA .u8 key) 28 (0, 0))) := by rw [Hid, al_old _ _ _ (by simp; omega), al_old _ _ _ (by simp), al_new _ _ _ rfl]
  have a0 : Hid ((((w.alloc (.cells (ivA .u8 key) 28)).alloc (.cells (ivA .u8 a) 28)).alloc (.cells (ivA .u8 b) 28)).heap[w.heap.size + 1]? = some (.cells (ivA .u8 a) 28 (0, 0))) := by rw [Hid, al_old _ _ _ (by simp), al_new _ _ _ (by simp)]
  have b0 : Hid ((((w.alloc (.cells (ivA .u8 key) 28)).alloc (.cells (ivA .u8 a) 28)).alloc (.cells (ivA .u8 b) 28)).heap[w.heap.size + 2]? = some (.cells (ivA .u8 b) 28 (0, 0))) := by rw [Hid, al_new _ _ _ (by simp)]
  have s0 : w.heap.size + 2 < (((w.alloc (.cells (ivA .u8 key) 28)).alloc (.cells (ivA .u8 a) 28)).alloc (.cells (ivA .u8 b) 28)).heap.size := by simp
  replace hk := Lib.hid hk
  replace hB := Lib.hid hB
  replace ha := Lib.hid ha
  replace hA := Lib.hid hA
  replace hb := Lib.hid hb
  replace hBb := Lib.hid hBb
  replace hWb := Lib.hid hWb
  go_enter Try.func4, Try.ntmps4
  go_wp2_with fail
  generalize ((w.alloc (.cells (ivA .u8 key) 28)).alloc (.cells (ivA .u8 a) 28)).alloc (.cells (ivA .u8 b) 28) = w0 at *
  refine (alive_any _).mono ?_
  rintro e w1 ⟨rfl, hb1⟩
  have L1 := L0.trans (hb1.mono L0.size)
  have k1 := Lib.hid (below_heap hb1 k0.out (by omega))
  have a1 := Lib.hid (below_heap hb1 a0.out (by omega))
  have b1 := Lib.hid (below_heap hb1 b0.out (by omega))
  have s1 : w.heap.size + 2 < w1.heap.size := by have := hb1.size; omega
  clear hb1 k0 a0 b0 s0 L0
  go_wp2_with (refine wpList_load_row rfl 28 _ rfl _ rfl _ _ _ _ k1.out Try.underlying28 rfl (by rw [info16, ivA_size, hk.out]) ?_)
  refine (c1.out _).mono ?_
  rintro e w2 ⟨g, rfl, hg, hC, hb2⟩
  have L2 := L1.trans (hb2.mono L1.size)
  have k2 := Lib.hid (below_heap hb2 k1.out (by omega))
  have a2 := Lib.hid (below_heap hb2 a1.out (by omega))
  have b2 := Lib.hid (below_heap hb2 b1.out (by omega))
  have s2 : w.heap.size + 2 < w2.heap.size := by have := hb2.size; omega
  clear hb2 k1 a1 b1 s1 L1
  replace hC := Lib.hid hC
  go_wp2_with (refine wpList_load_row rfl 28 _ rfl _ rfl _ _ _ _ a2.out Try.underlying28 rfl (by rw [info16, ivA_size, ha.out]) ?_)
  refine (c3.out g ha.out hA.out _ hC.out).mono ?_
  rintro e w3 ⟨rfl, hb3⟩
  have L3 := L2.trans (hb3.mono L2.size)
  have hC3 := Lib.hid (hC.out.below hb3)
  have k3 := Lib.hid (below_heap hb3 k2.out (by omega))
  have a3 := Lib.hid (below_heap hb3 a2.out (by omega))
  have b3 := Lib.hid (below_heap hb3 b2.out (by omega))
  have s3 : w.heap.size + 2 < w3.heap.size := by have := hb3.size; omega
  clear hb3 k2 a2 b2 s2 L2 hC
  generalize blockN (wordsN key) a = X at *
  generalize blockN (wordsN key) b = Y at *
  have hnew := Lib.hid (al_new w3 (.cells (ivA .u8 (zeros 16)) 28) _ rfl)
  have x4 := Lib.hid (al_new w3 (.cells (ivA .u8 X) 28) _ rfl)
  have k4 := Lib.hid ((al_old w3 (.cells (ivA .u8 X) 28) _ (by omega)).trans k3.out)
  have a4 := Lib.hid ((al_old w3 (.cells (ivA .u8 X) 28) _ (by omega)).trans a3.out)
  have b4 := Lib.hid ((al_old w3 (.cells (ivA .u8 X) 28) _ (by omega)).trans b3.out)
  have L4 := Lib.hid (L3.alloc (by omega) (.cells (ivA .u8 X) 28))
  have hC4 := Lib.hid (hC3.out.below ((Below.refl w3.heap.size w3).alloc (Nat.le_refl _) (.cells (ivA .u8 X) 28)))
  go_wp2_with (first | (refine wpList_alloc_of rfl 28 rfl _ zero16 ?_) | (refine wpList_store_row rfl 28 _ _ rfl _ _ rfl rfl _ _ hnew.out (by rw [info16, ivA_size, hX.out]) (by rw [ivA_size, ivA_size, zeros_len, hX.out]) (ivA_one _ _) ?_; rw [World.setRow_alloc_new]; simp only [Act.put, List.setIfInBounds_toArray, List.set_cons_succ, List.set_cons_zero]))
  generalize w3.alloc (.cells (ivA .u8 X) 28) = w4 at *
  generalize w3.heap.size = bx at *
  clear hnew k3 a3 b3 L3 hC3
  have hxs : bx < w4.heap.size := (Array.getElem?_eq_some_iff.1 x4.out).1
  have eXX : ∀ w, (Op.equalIn 10000 28 (.agg (ivA .u8 X)) (.agg (ivA .u8 X))).run Try.prog w = .ok true w := fun w => by rw [eq16 X X hX.out hX.out]; simp
  have eaa : ∀ w, (Op.equalIn 10000 28 (.agg (ivA .u8 a)) (.agg (ivA .u8 a))).run Try.prog w = .ok true w := fun w => by rw [eq16 a a ha.out ha.out]; simp
  have hq : ∃ q : Bool, (∀ w, (Op.equalIn 10000 28 (.agg (ivA .u8 X)) (.agg (ivA .u8 Y))).run Try.prog w = .ok q w) ∧ ∀ w, (Op.equalIn 10000 28 (.agg (ivA .u8 a)) (.agg (ivA .u8 b))).run Try.prog w = .ok q w := by
    refine ⟨a == b, fun w => ?_, fun w => eq16 a b ha.out hb.out w⟩
    rw [eq16 X Y hX.out hY.out]
    by_cases h : a = b
    · rw [hcong.out h, h]; simp
    · have h1 : (a == b) = false := by simpa using h
      have h2 : (X == Y) = false := by simpa using hinj.out h
      rw [h1, h2]
  obtain ⟨q, eXY, eab⟩ := hq
  clear hinj hcong
  refine wp_region_gg [] [] [] (by kernel_rfl) ?_
  refine hoist [] [] (a1 := ?_) 0 rfl (by kernel_rfl) (.inl ⟨rfl, rfl⟩) rfl rfl rfl (fun x K hK => ?_) ?_
  rotate_left
  · refine ql16 X hX.out _ rfl _ rfl (fun w' hw => by subst hw; exact x.heap x4.out (by simp)) (by simp only [Act.put, List.setIfInBounds_toArray, List.set_cons_succ, List.set_cons_zero]; rfl) ?_
    exact hK
  refine hoist [] [] (a1 := ?_) 1 rfl (by kernel_rfl) (.inl ⟨rfl, rfl⟩) rfl rfl rfl (fun x K hK => ?_) ?_
  rotate_left
  · refine ql16 key hk.out _ rfl _ rfl (fun w' hw => by subst hw; exact x.heap k4.out (by simp)) (by simp only [Act.put, List.setIfInBounds_toArray, List.set_cons_succ, List.set_cons_zero]; rfl) ?_
    exact hK
  refine hoist [] [] (a1 := ?_) 3 rfl (by kernel_rfl) (.inl ⟨rfl, rfl⟩) rfl rfl rfl (fun x K hK => ?_) ?_
  rotate_left
  · refine ql16 a ha.out _ rfl _ rfl (fun w' hw => by subst hw; exact x.heap a4.out (by simp)) (by simp only [Act.put, List.setIfInBounds_toArray, List.set_cons_succ, List.set_cons_zero]; rfl) ?_
    exact hK
  refine effect 2 rfl (by kernel_rfl) (by kernel_rfl) rfl (fun x2 K hK => ?_)
  go_simp
  refine (c2.out _).mono ?_
  rintro e w5 ⟨gr, rfl, hgr, hR, hb5⟩
  refine hK _ _ (Still.of_below hb5) ?_
  clear hK K
  have S5 : Still [] w4 w5 := x2.ok.trans (Still.of_below hb5)
  have x5 := Lib.hid (S5.heap x4.out (by simp))
  have a5 := Lib.hid (S5.heap a4.out (by simp))
  have b5 := Lib.hid (S5.heap b4.out (by simp))
  have hC5 := Lib.hid (hC4.out.below (S5.below (Nat.le_refl _) (by simp)))
  have L5 := Lib.hid (L4.out.trans (S5.below L4.out.size (by simp)))
  replace hR := Lib.hid hR
  clear S5 hb5 x4 k4 a4 b4 hC4 L4
  refine hoist_call [] [] (a1 := ?_) 4 rfl (by kernel_rfl) (.inl ⟨rfl, rfl⟩) rfl rfl rfl (fun x K hK => ?_) ?_
  rotate_left
  · go_big_quiet_op
    apply Exists.intro
    refine ⟨fun y => ?_, ?_⟩
    · exact Calls.laterS_of (c5.out gr ha.out hA.out hWb.out _ (hR.out.below ((x.ok.trans y.ok).below (Nat.le_refl _) (by simp))))
    · exact hK
  refine hoist [] [] (a1 := ?_) 5 rfl (by kernel_rfl) (.inl ⟨rfl, rfl⟩) rfl rfl rfl (fun x K hK => ?_) ?_
  rotate_left
  · go_big_quiet_op
    exact hK
  refine hoist [] [] (a1 := ?_) 6 rfl (by kernel_rfl) (.inl ⟨rfl, rfl⟩) rfl rfl rfl (fun x K hK => ?_) ?_
  rotate_left
  · go_big_quiet_op
    exact hK
  refine hoist [] [] (a1 := ?_) 7 rfl (by kernel_rfl) (.inl ⟨rfl, rfl⟩) rfl rfl rfl (fun x K hK => ?_) ?_
  rotate_left
  · refine ql16 X hX.out _ rfl _ rfl (fun w' hw => by subst hw; exact x.heap x5.out (by simp)) (by simp only [Act.put, List.setIfInBounds_toArray, List.set_cons_succ, List.set_cons_zero]; rfl) ?_
    exact hK
  refine hoist [] [] (a1 := ?_) 8 rfl (by kernel_rfl) (.inl ⟨rfl, rfl⟩) rfl rfl rfl (fun x K hK => ?_) ?_
  rotate_left
  · go_big_quiet_op
    exact hK
  refine hoist [] [] (a1 := ?_) 9 rfl (by kernel_rfl) (.inl ⟨rfl, rfl⟩) rfl rfl rfl (fun x K hK => ?_) ?_
  rotate_left
  · refine ql16 b hb.out _ rfl _ rfl (fun w' hw => by subst hw; exact x.heap b5.out (by simp)) (by simp only [Act.put, List.setIfInBounds_toArray, List.set_cons_succ, List.set_cons_zero]; rfl) ?_
    exact hK
  refine hoist_call [] [] (a1 := ?_) 10 rfl (by kernel_rfl) (.inl ⟨rfl, rfl⟩) rfl rfl rfl (fun x K hK => ?_) ?_
  rotate_left
  · go_big_quiet_op
    apply Exists.intro
    refine ⟨fun y => ?_, ?_⟩
    · exact Calls.laterS_of (c4.out g hb.out hBb.out _ (hC5.out.below ((x.ok.trans y.ok).below (Nat.le_refl _) (by simp))))
    · exact hK
  refine hoist [] [] (a1 := ?_) 11 rfl (by kernel_rfl) (.inl ⟨rfl, rfl⟩) rfl rfl rfl (fun x K hK => ?_) ?_
  rotate_left
  · go_big_quiet_op
    exact hK
  refine hoist [] [] (a1 := ?_) 12 rfl (by kernel_rfl) (.inl ⟨rfl, rfl⟩) rfl rfl rfl (fun x K hK => ?_) ?_
  rotate_left
  · refine ql16 a ha.out _ rfl _ rfl (fun w' hw => by subst hw; exact x.heap a5.out (by simp)) (by simp only [Act.put, List.setIfInBounds_toArray, List.set_cons_succ, List.set_cons_zero]; rfl) ?_
    exact hK
  refine hoist [] [] (a1 := ?_) 13 rfl (by kernel_rfl) (.inl ⟨rfl, rfl⟩) rfl rfl rfl (fun x K hK => ?_) ?_
  rotate_left
  · refine ql16 b hb.out _ rfl _ rfl (fun w' hw => by subst hw; exact x.heap b5.out (by simp)) (by simp only [Act.put, List.setIfInBounds_toArray, List.set_cons_succ, List.set_cons_zero]; rfl) ?_
    exact hK
  refine hoist [] [] (a1 := ?_) 14 rfl (by kernel_rfl) (.inl ⟨rfl, rfl⟩) rfl rfl rfl (fun x K hK => ?_) ?_
  rotate_left
  · go_big_quiet_op
    exact hK
  refine hoist [] [] (a1 := ?_) 15 rfl (by kernel_rfl) (.inl ⟨rfl, rfl⟩) rfl rfl rfl (fun x K hK => ?_) ?_
  rotate_left
  · go_big_quiet_op
    exact hK
  refine hoist [] [] (a1 := ?_) 16 rfl (by kernel_rfl) (.inl ⟨rfl, rfl⟩) rfl rfl rfl (fun x K hK => ?_) ?_
  rotate_left
  · go_big_quiet_op
    exact hK
  refine hoist [] [] (a1 := ?_) 17 rfl (by kernel_rfl) (.inl ⟨rfl, rfl⟩) rfl rfl rfl (fun x K hK => ?_) ?_
  rotate_left
  · go_big_quiet_op
    exact hK
  refine hoist [] [] (a1 := ?_) 18 rfl (by kernel_rfl) (.inl ⟨rfl, rfl⟩) rfl rfl rfl (fun x K hK => ?_) ?_
  rotate_left
  · go_big_quiet_op
    exact hK
  refine hoist [] [] (a1 := ?_) 19 rfl (by kernel_rfl) (.inl ⟨rfl, rfl⟩) rfl rfl rfl (fun x K hK => ?_) ?_
  rotate_left
  · refine ql16 a ha.out _ rfl _ rfl (fun w' hw => by subst hw; exact x.heap a5.out (by simp)) (by simp only [Act.put, List.setIfInBounds_toArray, List.set_cons_succ, List.set_cons_zero]; rfl) ?_
    exact hK
  refine hoist_call [] [] (a1 := ?_) 20 rfl (by kernel_rfl) (.inl ⟨rfl, rfl⟩) rfl rfl rfl (fun x K hK => ?_) ?_
  rotate_left
  · go_big_quiet_op
    apply Exists.intro
    refine ⟨fun y => ?_, ?_⟩
    · exact Calls.laterS_of (c6.out _)
    · exact hK
  refine hoist [] [] (a1 := ?_) 21 rfl (by kernel_rfl) (.inl ⟨rfl, rfl⟩) rfl rfl rfl (fun x K hK => ?_) ?_
  rotate_left
  · refine ql16 a ha.out _ rfl _ rfl (fun w' hw => by subst hw; exact x.heap a5.out (by simp)) (by simp only [Act.put, List.setIfInBounds_toArray, List.set_cons_succ, List.set_cons_zero]; rfl) ?_
    exact hK
  refine hoist [] [] (a1 := ?_) 22 rfl (by kernel_rfl) (.inl ⟨rfl, rfl⟩) rfl rfl rfl (fun x K hK => ?_) ?_
  rotate_left
  · go_big_quiet_op
    exact hK
  refine hoist [] [] (a1 := ?_) 23 rfl (by kernel_rfl) (.inl ⟨rfl, rfl⟩) rfl rfl rfl (fun x K hK => ?_) ?_
  rotate_left
  · go_big_quiet_op
    exact hK
  refine hoist [] [] (a1 := ?_) 24 rfl (by kernel_rfl) (.inl ⟨rfl, rfl⟩) rfl rfl rfl (fun x K hK => ?_) ?_
  rotate_left
  · go_big_quiet_op
    exact hK
  refine done (by kernel_rfl) (fun xr => ?_)
  go_wp2_with fail
  go_ret
  exact ⟨rfl, L5.out.trans (xr.ok.below L5.out.size (by simp))⟩

theorem law_blocks (cs ca cb : Array Value) (w : World) (h : Rd w (.block 16 (.label 4)) cs.toList) (ha : Rd w (.block 16 (.label 4)) ca.toList) (hb : Rd w (.block 16 (.label 4)) cb.toList) :
    Calls Try.prog 4 #[.agg cs, .agg ca, .agg cb] w fun e w' => e = .returned (.bool true) ∧ Below w.heap.size w w' := by
  obtain ⟨k, rfl, hk, hB⟩ := ivA_of_Rd h
  obtain ⟨a, rfl, ha1, ha2⟩ := ivA_of_Rd ha
  obtain ⟨b, rfl, hb1, hb2⟩ := ivA_of_Rd hb
  exact blocks_walk k a b hk hB ha1 ha2 hb1 hb2 w
end Go.Proofs.Ytjjemkfkpnemoaa
