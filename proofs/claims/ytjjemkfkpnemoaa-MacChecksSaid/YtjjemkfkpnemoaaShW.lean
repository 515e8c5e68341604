/- sha's words of a block, and its mix. No condition. -/
import Derived.Test.YtjjemkfkpnemoaaRot
import Derived.Test.YtjjemkfkpnemoaaNum
namespace Go.Proofs.Ytjjemkfkpnemoaa
open Go.RowKit

theorem zero80 : ∀ w, (zeroValue 102).run Try.prog w = .ok (.agg (ivA .u32 (zeros 80))) w := fun w => by kernel_rfl
theorem info80 : (Try.prog.info? 102).map (·.size) = some 80 := by kernel_rfl
/-- The words under way. -/
def wz (bl : List Nat) (t : Nat) : List Nat := wl bl t ++ zeros (80 - t)
theorem wz_len (bl : List Nat) (t : Nat) (h : t ≤ 80) : (wz bl t).length = 80 := by simp [wz, wl_len, zeros_len]; omega
theorem wz_get (bl : List Nat) (t i : Nat) (h : i < t) : (wz bl t).getD i 0 = (wl bl t).getD i 0 := by
  simp only [wz, List.getD_eq_getElem?_getD]
  rw [List.getElem?_append_left (by rw [wl_len]; exact h)]
theorem wz_set (bl : List Nat) (t : Nat) (h : t < 80) : (wz bl t).set t (wnext bl (wl bl t) t) = wz bl (t + 1) := by
  unfold wz
  have hz : zeros (80 - t) = 0 :: zeros (80 - (t + 1)) := by
    unfold zeros
    rw [show 80 - t = (80 - (t + 1)) + 1 by omega, List.replicate_succ]
  rw [List.set_append_right _ _ (by rw [wl_len]; exact Nat.le_refl _), wl_len, Nat.sub_self, hz]
  simp [wl]
theorem wnext_lt (bl W : List Nat) (t : Nat) (hb : ByL bl) (hW : ∀ i, W.getD i 0 < 4294967296) : wnext bl W t < 4294967296 := by
  unfold wnext
  split
  · have h1 := numB_lt ((bl.drop (4 * t)).take 4) (fun x hx => hb x (List.mem_of_mem_drop (List.mem_of_mem_take hx)))
    have h2 : ((bl.drop (4 * t)).take 4).length ≤ 4 := by rw [List.length_take]; omega
    have h3 : 256 ^ ((bl.drop (4 * t)).take 4).length ≤ 256 ^ 4 := Nat.pow_le_pow_right (by omega) h2
    omega
  · refine rol_lt _ _ ?_
    refine Nat.xor_lt_two_pow (n := 32) (Nat.xor_lt_two_pow (n := 32) (Nat.xor_lt_two_pow (n := 32) (hW _) (hW _)) (hW _)) (hW _)
theorem wl_lt (bl : List Nat) (hb : ByL bl) : ∀ t i, (wl bl t).getD i 0 < 4294967296
  | 0, i => by simp [wl]
  | t + 1, i => by
    rcases Nat.lt_or_ge i t with h | h
    · have := wl_get bl t 1 i h
      rw [this]; exact wl_lt bl hb t i
    · rcases Nat.lt_or_ge i (t + 1) with h2 | h2
      · obtain rfl : i = t := by omega
        rw [wl_at]; exact wnext_lt bl _ _ hb (wl_lt bl hb i)
      · rw [List.getD_eq_getElem?_getD, List.getElem?_eq_none (by rw [wl_len]; exact h2)]; decide

set_option maxRecDepth 100000 in
set_option maxHeartbeats 4000000 in
theorem shawords_any (v : Value) (len : Nat) (bl : List Nat) (h64 : 64 ≤ len) (w : World) (hv : SB w v len bl) :
    Calls Try.prog 76 #[v] w fun e w' => e = .returned (.agg (ivA .u32 (wl bl 80))) ∧ Below w.heap.size w w' := by
  have hwl := Lib.hid (wl_lt bl hv.2.1)
  have hby := Lib.hid hv.2.1
  replace hv := Lib.hid hv
  have z80 : Hid ((zeros 80).length = 80) := zeros_len 80
  have R0 : Hid (((w.alloc (.cells (ivA .u32 (zeros 80)) 102)).alloc (.cells (ivA .u32 (zeros 80)) 102)).heap[w.heap.size]? = some (.cells (ivA .u32 (zeros 80)) 102 (0, 0))) := by rw [Hid, hp_old _ _ _ (by simp), hp_new _ _ _ rfl]
  have W0 : Hid (((w.alloc (.cells (ivA .u32 (zeros 80)) 102)).alloc (.cells (ivA .u32 (zeros 80)) 102)).heap[w.heap.size + 1]? = some (.cells (ivA .u32 (wz bl 0)) 102 (0, 0))) := by rw [Hid, hp_new _ _ _ (by simp)]; simp [wz, wl]
  have L0 : Hid (Below w.heap.size w ((w.alloc (.cells (ivA .u32 (zeros 80)) 102)).alloc (.cells (ivA .u32 (zeros 80)) 102))) := ((Below.refl _ _).alloc (Nat.le_refl _) _).alloc (by simp) _
  go_enter Try.func76, Try.ntmps76
  go_wp2_with (refine wpList_alloc_of rfl 102 rfl _ zero80 ?_)
  generalize (w.alloc (.cells (ivA .u32 (zeros 80)) 102)).alloc (.cells (ivA .u32 (zeros 80)) 102) = w2 at *
  go_loopg [7] 80 (fun m i wx => ∃ t, m = 80 - t ∧ t ≤ 80 ∧ i = .int .i64 (t : Nat) ∧ Hid (wx.heap[w.heap.size]? = some (.cells (ivA .u32 (zeros 80)) 102 (0, 0))) ∧ Hid (wx.heap[w.heap.size + 1]? = some (.cells (ivA .u32 (wz bl t)) 102 (0, 0))) ∧ Hid (Below w.heap.size w wx))
  case atStart => exact ⟨0, by omega, by omega, rfl, R0, W0, L0⟩
  case round =>
    clear R0 W0 L0
    obtain ⟨t, rfl, ht, rfl, R, W, L⟩ := hrel
    have hlen := Lib.hid (wz_len bl t ht)
    by_cases ht80 : t < 80
    · have hset := Lib.hid (wz_set bl t ht80)
      have c1 : ∀ wy : World, wy.heap[w.heap.size + 1]? = some (.cells (ivA .u32 (wz bl t)) 102 (0, 0)) → wy.cell? ⟨w.heap.size + 1, t, none⟩ = some (.int .u32 ((wz bl t).getD t 0 : Nat)) ∧ wy.frozen? ⟨w.heap.size + 1, t, none⟩ = false := fun wy h => ⟨iv_cell h t (by rw [hlen.out]; exact ht80), hp_frz h t⟩
      have hlt := wnext_lt bl (wl bl t) t hby.out (hwl.out t)
      by_cases ht16 : t < 16
      · have hnx : Hid (numB ((bl.drop (4 * t)).take 4) = wnext bl (wl bl t) t) := by rw [Hid, wnext, if_pos ht16]
        generalize wnext bl (wl bl t) t = x at *
        obtain ⟨c2, f2⟩ := c1 wr W.out
        clear c1
        have W2 := Lib.hid (iv_set W.out t x)
        rw [hset.out] at W2
        have R2 : Hid ((wr.setCell ⟨w.heap.size + 1, t, none⟩ (.int .u32 (x : Nat))).heap[w.heap.size]? = some (.cells (ivA .u32 (zeros 80)) 102 (0, 0))) := (hp_oth (by omega)).trans R.out
        have L2 := Lib.hid (Below.set3 L.out (b := w.heap.size + 1) (o := t) (by omega) (.int .u32 (x : Nat)))
        replace hlt := Lib.hid hlt
        go_wp2_with fail
        refine (num_ok v len bl (4 * t) 4 _ _ (by omega) (by omega) (by omega) (by push_cast; rfl) rfl _ (hv.out.below L.out (Nat.le_refl _))).mono ?_
        rw [hnx.out]
        rintro e w' ⟨rfl, rfl⟩
        have hx2 : (x : Int) < 4294967296 := by have := hlt.out; omega
        go_wp2_with fail
        go_roundg (80 - (t + 1))
        case measure => omega
        case rel => exact ⟨t + 1, rfl, by omega, by go_num, R2, W2, L2⟩
      · have g : ∀ d, 3 ≤ d → d ≤ 16 → ∀ x : LaterS [] wr, x.now.cell? ⟨w.heap.size + 1, t - d, none⟩ = some (.int .u32 ((wl bl t).getD (t - d) 0 : Nat)) := fun d h1 h2 x => by
          rw [x.cell (iv_cell W.out (t - d) (by rw [hlen.out]; omega)) (by simp), wz_get bl t (t - d) (by omega)]
        have g3 := g 3 (by omega) (by omega)
        have g8 := g 8 (by omega) (by omega)
        have g14 := g 14 (by omega) (by omega)
        have g16 := g 16 (by omega) (by omega)
        have l3 := hwl.out t (t - 3)
        have l8 := hwl.out t (t - 8)
        have l14 := hwl.out t (t - 14)
        have l16 := hwl.out t (t - 16)
        have hnx : Hid (rol ((wl bl t).getD (t - 3) 0 ^^^ (wl bl t).getD (t - 8) 0 ^^^ (wl bl t).getD (t - 14) 0 ^^^ (wl bl t).getD (t - 16) 0) 1 = wnext bl (wl bl t) t) := by rw [Hid, wnext, if_neg ht16]
        clear g
        generalize wnext bl (wl bl t) t = x at *
        generalize (wl bl t).getD (t - 3) 0 = p3 at *
        generalize (wl bl t).getD (t - 8) 0 = p8 at *
        generalize (wl bl t).getD (t - 14) 0 = p14 at *
        generalize (wl bl t).getD (t - 16) 0 = p16 at *
        have m1 : p3 ^^^ p8 < 4294967296 := Nat.xor_lt_two_pow (n := 32) l3 l8
        have m2 : p3 ^^^ p8 ^^^ p14 < 4294967296 := Nat.xor_lt_two_pow (n := 32) m1 l14
        have m3 : p3 ^^^ p8 ^^^ p14 ^^^ p16 < 4294967296 := Nat.xor_lt_two_pow (n := 32) m2 l16
        have x1 := u32_xor_nat p3 p8 l3 l8
        have x2 := u32_xor_nat (p3 ^^^ p8) p14 m1 l14
        have x3 := u32_xor_nat (p3 ^^^ p8 ^^^ p14) p16 m2 l16
        have hr : Hid (∀ w, Calls Try.prog 78 #[.int .u32 (p3 ^^^ p8 ^^^ p14 ^^^ p16 : Nat), .int .i64 1] w fun e w' => e = .returned (.int .u32 (x : Nat)) ∧ w' = w) := fun w => by
          have := rol_any (p3 ^^^ p8 ^^^ p14 ^^^ p16) 1 m3 (.inl rfl) w
          rw [hnx.out] at this
          exact this.mono fun e w' ⟨h, h'⟩ => ⟨h, h'.symm⟩
        have s80 : (t : Int) < 80 := by omega
        have s16 : (16 : Int) ≤ t := by omega
        go_wp2_with fail
        refine wp_region_gg [] [] [21] (by kernel_rfl) ?_
        refine hoist [] [] (a1 := ?_) 0 rfl (by kernel_rfl) (.inl ⟨rfl, rfl⟩) rfl rfl rfl (fun x K hK => ?_) ?_
        rotate_left
        · go_big_quiet_op
          exact hK
        refine hoist [] [] (a1 := ?_) 1 rfl (by kernel_rfl) (.inl ⟨rfl, rfl⟩) rfl rfl rfl (fun x K hK => ?_) ?_
        rotate_left
        · go_big_quiet_op
          exact hK
        refine hoist [] [] (a1 := ?_) 2 rfl (by kernel_rfl) (.inl ⟨rfl, rfl⟩) rfl rfl rfl (fun x K hK => ?_) ?_
        rotate_left
        · go_big_quiet_op
          exact hK
        refine hoist [] [] (a1 := ?_) 3 rfl (by kernel_rfl) (.inl ⟨rfl, rfl⟩) rfl rfl rfl (fun x K hK => ?_) ?_
        rotate_left
        · go_big_quiet_op
          exact hK
        refine hoist [] [] (a1 := ?_) 4 rfl (by kernel_rfl) (.inl ⟨rfl, rfl⟩) rfl rfl rfl (fun x K hK => ?_) ?_
        rotate_left
        · go_big_quiet_op
          exact hK
        refine hoist [] [] (a1 := ?_) 5 rfl (by kernel_rfl) (.inl ⟨rfl, rfl⟩) rfl rfl rfl (fun x K hK => ?_) ?_
        rotate_left
        · go_big_quiet_op
          exact hK
        refine hoist [] [] (a1 := ?_) 6 rfl (by kernel_rfl) (.inl ⟨rfl, rfl⟩) rfl rfl rfl (fun x K hK => ?_) ?_
        rotate_left
        · go_big_quiet_op
          exact hK
        refine hoist [] [] (a1 := ?_) 7 rfl (by kernel_rfl) (.inl ⟨rfl, rfl⟩) rfl rfl rfl (fun x K hK => ?_) ?_
        rotate_left
        · go_big_quiet_op
          exact hK
        refine hoist [] [] (a1 := ?_) 8 rfl (by kernel_rfl) (.inl ⟨rfl, rfl⟩) rfl rfl rfl (fun x K hK => ?_) ?_
        rotate_left
        · go_big_quiet_op
          exact hK
        refine hoist [] [] (a1 := ?_) 9 rfl (by kernel_rfl) (.inl ⟨rfl, rfl⟩) rfl rfl rfl (fun x K hK => ?_) ?_
        rotate_left
        · go_big_quiet_op
          exact hK
        refine hoist [] [] (a1 := ?_) 10 rfl (by kernel_rfl) (.inl ⟨rfl, rfl⟩) rfl rfl rfl (fun x K hK => ?_) ?_
        rotate_left
        · go_big_quiet_op
          exact hK
        refine hoist [] [] (a1 := ?_) 11 rfl (by kernel_rfl) (.inl ⟨rfl, rfl⟩) rfl rfl rfl (fun x K hK => ?_) ?_
        rotate_left
        · go_big_quiet_op
          exact hK
        refine hoist [] [] (a1 := ?_) 12 rfl (by kernel_rfl) (.inl ⟨rfl, rfl⟩) rfl rfl rfl (fun x K hK => ?_) ?_
        rotate_left
        · go_big_quiet_op
          exact hK
        refine hoist [] [] (a1 := ?_) 13 rfl (by kernel_rfl) (.inl ⟨rfl, rfl⟩) rfl rfl rfl (fun x K hK => ?_) ?_
        rotate_left
        · go_big_quiet_op
          exact hK
        refine hoist [] [] (a1 := ?_) 14 rfl (by kernel_rfl) (.inl ⟨rfl, rfl⟩) rfl rfl rfl (fun x K hK => ?_) ?_
        rotate_left
        · go_big_quiet_op
          exact hK
        refine hoist [] [] (a1 := ?_) 15 rfl (by kernel_rfl) (.inl ⟨rfl, rfl⟩) rfl rfl rfl (fun x K hK => ?_) ?_
        rotate_left
        · go_big_quiet_op
          exact hK
        refine hoist [] [] (a1 := ?_) 16 rfl (by kernel_rfl) (.inl ⟨rfl, rfl⟩) rfl rfl rfl (fun x K hK => ?_) ?_
        rotate_left
        · go_big_quiet_op
          exact hK
        refine hoist [] [] (a1 := ?_) 17 rfl (by kernel_rfl) (.inl ⟨rfl, rfl⟩) rfl rfl rfl (fun x K hK => ?_) ?_
        rotate_left
        · go_big_quiet_op
          exact hK
        refine hoist [] [] (a1 := ?_) 18 rfl (by kernel_rfl) (.inl ⟨rfl, rfl⟩) rfl rfl rfl (fun x K hK => ?_) ?_
        rotate_left
        · go_big_quiet_op
          exact hK
        refine hoist [] [] (a1 := ?_) 19 rfl (by kernel_rfl) (.inl ⟨rfl, rfl⟩) rfl rfl rfl (fun x K hK => ?_) ?_
        rotate_left
        · go_big_quiet_op
          exact hK
        refine hoist_call [] [] (a1 := ?_) 20 rfl (by kernel_rfl) (.inl ⟨rfl, rfl⟩) rfl rfl rfl (fun x K hK => ?_) ?_
        rotate_left
        · go_big_quiet_op
          apply Exists.intro
          refine ⟨fun y => ?_, ?_⟩
          · exact Calls.laterS_same (hr.out _)
          · exact hK
        refine tail 21 rfl (by kernel_rfl) rfl (fun xr => ?_)
        simp only [List.drop_succ_cons, List.drop_zero]
        have W1 := hp_st xr.ok W.out (by simp)
        have R1 := hp_st xr.ok R.out (by simp)
        obtain ⟨c2, f2⟩ := c1 xr.now W1
        have W2 := Lib.hid (iv_set W1 t x)
        rw [hset.out] at W2
        have R2 : Hid ((xr.now.setCell ⟨w.heap.size + 1, t, none⟩ (.int .u32 (x : Nat))).heap[w.heap.size]? = some (.cells (ivA .u32 (zeros 80)) 102 (0, 0))) := (hp_oth (by omega)).trans R1
        have L2 := Lib.hid (Below.set3 (L.out.trans (xr.ok.below L.out.size (by simp))) (b := w.heap.size + 1) (o := t) (by omega) (.int .u32 (x : Nat)))
        clear c1 g3 g8 g14 g16 W1 R1
        go_wp2_with fail
        go_roundg (80 - (t + 1))
        case measure => omega
        case rel => exact ⟨t + 1, rfl, by omega, by go_num, R2, W2, L2⟩
    · obtain rfl : t = 80 := by omega
      have e80 : Hid (wz bl 80 = wl bl 80) := by simp [Hid, wz, zeros]
      rw [e80.out] at W hlen
      go_wp2_with (first | (refine wpList_load_row rfl 102 _ rfl _ rfl _ _ _ _ W.out Try.underlying102 rfl (by rw [info80, ivA_size, hlen.out]) ?_) | (refine wpList_store_row rfl 102 _ _ rfl _ _ rfl rfl _ _ R.out (by rw [info80, ivA_size, hlen.out]) (by rw [ivA_size, ivA_size, z80.out, hlen.out]) (ivA_one _ _) ?_))
      exact bodyPost_ret (results_cell_row (p := 2) rfl _ _ (w.heap.size) _ _ _ _ rfl (hp_row R.out _) Try.underlying102 rfl (by rw [info80, ivA_size, hlen.out])) rfl ⟨rfl, Below.setRow L.out (by omega) _⟩
end Go.Proofs.Ytjjemkfkpnemoaa
