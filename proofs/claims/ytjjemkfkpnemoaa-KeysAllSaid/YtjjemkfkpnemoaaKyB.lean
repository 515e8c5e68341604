/- The reference's Derive. No condition. -/
import Derived.Test.YtjjemkfkpnemoaaKyA
namespace Go.Proofs.Ytjjemkfkpnemoaa
open Go.RowKit

theorem xor_salt (salt : List Nat) (hs : salt.length = 14) : xorAt 16 (zeros 16) 0 salt = salt ++ [0, 0] := by
  rw [← tab_of 16 (salt ++ [0, 0]) (by simp [hs])]
  unfold xorAt
  refine tab_congr _ _ _ fun j hj => ?_
  rw [zeros_get, Nat.zero_xor, if_pos (Nat.zero_le _), Nat.sub_zero]
  simp only [List.getD_eq_getElem?_getD]
  rcases Nat.lt_or_ge j 14 with h | h
  · rw [List.getElem?_append_left (by omega)]
  · rw [List.getElem?_eq_none (by omega), List.getElem?_append_right (by omega), hs]
    rcases (show j = 14 ∨ j = 15 by omega) with rfl | rfl <;> rfl

set_option maxRecDepth 100000 in
set_option maxHeartbeats 8000000 in
theorem rderive_ok (key salt : List Nat) (lb : Nat) (n : Int) (n1 : -9223372036854775808 ≤ n) (n2 : n ≤ 1000000) (hl : lb < 256) (hk : key.length = 16) (hkb : ByL key) (hs : salt.length = 14) (hsb : ByL salt) (w : World) :
    Calls Try.prog 39 #[.agg (ivA .u8 (key ++ salt)), .int .u8 (lb : Nat), .int .i64 n] w fun e w' => ∃ v, e = .returned v ∧ OB w' w.heap.size 5 v n.toNat (drv key salt lb n.toNat) ∧ Below w.heap.size w w' := by
  have hd : Hid (drv key salt lb n.toNat = strm (wordsN key) (numB (ctrL salt lb)) n.toNat) := rfl
  have hz : Hid (cipN (wordsN key) (numB (ctrL salt lb)) (zeros n.toNat) = strm (wordsN key) (numB (ctrL salt lb)) n.toNat) := cipN_zeros _ _ _
  have cy := fun sx cx wz hv => Lib.hid (rcipher_ok key (ctrL salt lb) (zeros n.toNat) sx n.toNat cx hk (byt_of hkb) (ctrL_len _ _) (ctrL_byl salt lb hsb hl) (by omega) wz hv)
  rw [hz.out, ← hd.out] at cy
  have hcs := Lib.hid (ctrL_set salt lb hs)
  have hcl := Lib.hid (ctrL_len salt lb)
  have hy := salt2_byl hsb
  have hml := Lib.hid (mid_left key salt)
  rw [hk] at hml
  have hKl : Hid ((key ++ salt).length = 30) := by simp [Hid, hk, hs]
  have hKr : ∀ i, Hid (i < 14 → (key ++ salt).getD (16 + i) 0 = salt.getD i 0) := fun i hi => by
    simp only [List.getD_eq_getElem?_getD]
    rw [List.getElem?_append_right (by omega), hk, Nat.add_sub_cancel_left]
  have hxs := Lib.hid (xor_salt salt hs)
  have hs2l : Hid ((salt ++ [0, 0]).length = 16) := by simp [Hid, hs]
  have hs2b := hy.get 7
  have h0 : n < 1 → Hid (drv key salt lb n.toNat = []) := fun h => by
    rw [Hid, hd.out, show n.toNat = 0 by omega]; rfl
  generalize drv key salt lb n.toNat = D at *
  generalize ctrL salt lb = C at *
  generalize key ++ salt = K at *
  replace hk := Lib.hid hk
  replace hkb := Lib.hid hkb
  replace hs := Lib.hid hs
  replace hsb := Lib.hid hsb
  replace hy := Lib.hid hy
  replace h0 := Lib.hid h0
  have B := Lib.hid (BW.refl w)
  go_enter Try.func39, Try.ntmps39
  go_upto_region 2 with (refine alA ar16 rfl rfl ?_)
  have K1 := Lib.hid ((AvB.new w 58 K).bw (show BW (w.alloc (.cells (ivA .u8 K) 58)) ((w.alloc (.cells (ivA .u8 K) 58)).alloc (.cells (ivA .u8 (zeros 16)) 28)) from (by repeat (first | exact BW.refl _ | apply BW.alloc | apply BW.drewN | apply BW.drew))))
  have C1 := Lib.hid ((AvB.new (w.alloc (.cells (ivA .u8 K) 58)) 28 (zeros 16)).bw (show BW ((w.alloc (.cells (ivA .u8 K) 58)).alloc (.cells (ivA .u8 (zeros 16)) 28)) ((w.alloc (.cells (ivA .u8 K) 58)).alloc (.cells (ivA .u8 (zeros 16)) 28)) from (by repeat (first | exact BW.refl _ | apply BW.alloc | apply BW.drewN | apply BW.drew))))
  simp only [World.size_alloc] at C1
  generalize hnm : ((w.alloc (.cells (ivA .u8 K) 58)).alloc (.cells (ivA .u8 (zeros 16)) 28)) = w1 at *
  have hb : BW w w1 := (by subst hnm; exact (by repeat (first | exact BW.refl _ | apply BW.alloc | apply BW.drewN | apply BW.drew)))
  replace B := Lib.hid (B.out.trans hb)
  clear hb
  clear hnm
  try simp only [World.size_alloc]
  go_wp2_with fail
  go_loopg [8] 14 (fun m' i wx => ∃ k : Nat, m' = 14 - k ∧ k ≤ 14 ∧ i = .int .i64 (k : Nat) ∧ Hid (AvB wx (w.heap.size + 1) 28 (xorAt 16 (zeros 16) 0 (salt.take k))) ∧ Hid (AvB wx w.heap.size 58 K) ∧ Hid (BW w wx))
  case atStart => exact ⟨0, by omega, by omega, rfl, by rw [List.take_zero, xorAt_nil 16 _ 0 (zeros_len 16)]; exact C1, K1, B⟩
  case round =>
    clear C1 K1 B
    obtain ⟨k, rfl, hk2, rfl, A, K1, B⟩ := hrel
    by_cases hkn : k < 14
    · have c1 := K1.out.cell (16 + k) (by rw [hKl.out]; omega)
      rw [(hKr k).out hkn] at c1
      have e1 := Lib.hid (xorAt_step 16 (zeros 16) 0 salt k (by omega) (by rw [hs.out]; exact hkn))
      rw [Nat.zero_add, zeros_get, Nat.zero_xor] at e1
      have c2 := A.out.cell k (by rw [xorAt_len]; omega)
      have f2 := A.out.frz k
      have A3 := Lib.hid (A.out.set k (salt.getD k 0))
      rw [e1.out] at A3
      have K3 := Lib.hid (K1.out.setO (b := w.heap.size + 1) (o := k) (by omega) (.int .u8 (salt.getD k 0 : Nat)))
      have B3 := Lib.hid (B.out.set (g := w.heap.size + 1) (o := k) (by omega) (v := .int .u8 (salt.getD k 0 : Nat)))
      generalize salt.getD k 0 = y at *
      clear A K1 B
      go_wp2_with fail
      go_roundg (14 - (k + 1))
      case measure => omega
      case rel => exact ⟨k + 1, rfl, by omega, by go_num, A3, K3, B3⟩
    · obtain rfl : k = 14 := by omega
      rw [List.take_of_length_le (by rw [hs.out]; exact Nat.le_refl _), hxs.out] at A
      have c7 := A.out.cell 7 (by rw [hs2l.out]; decide)
      have f7 := A.out.frz 7
      have A4 := Lib.hid (A.out.set 7 ((salt ++ [0, 0]).getD 7 0 ^^^ lb))
      rw [hcs.out] at A4
      have K5 := Lib.hid (K1.out.setO (b := w.heap.size + 1) (o := 7) (by omega) (.int .u8 ((salt ++ [0, 0]).getD 7 0 ^^^ lb : Nat)))
      have B5 := Lib.hid (B.out.set (g := w.heap.size + 1) (o := 7) (by omega) (v := .int .u8 ((salt ++ [0, 0]).getD 7 0 ^^^ lb : Nat)))
      generalize (salt ++ [0, 0]).getD 7 0 = y at *
      have hX := u8_xor_nat y lb hs2b hl
      clear A K1 B hk2 hkn
      go_upto_region 7 with (fail)
      generalize wr.setCell ⟨w.heap.size + 1, 7, none⟩ (.int .u8 (y ^^^ lb : Nat)) = w4 at *
      replace hX := Lib.hid hX
      clear c7 f7
      by_cases hn : n < 1
      · have e0 := (h0.out hn).out
        have en : n.toNat = 0 := by omega
        replace e0 := Lib.hid e0
        replace en := Lib.hid en
        go_wp2_with fail
        go_ret
        refine ⟨_, rfl, ?_, B5.out⟩
        rw [en.out, e0.out]
        exact OB.nil _ _ _
      · obtain ⟨N, rfl⟩ := Int.eq_ofNat_of_zero_le (show 0 ≤ n by omega)
        rw [Int.toNat_natCast] at cy
        have mk := make_u8 N (by omega)
        go_upto_region 9 with (fail)
        refine wp_region_gg [] [] [] (by kernel_rfl) ?_
        refine hoist [] [] (a1 := ?_) 0 rfl (by kernel_rfl) (.inl ⟨rfl, rfl⟩) rfl rfl rfl (fun x K hK => ?_) ?_
        rotate_left
        · go_big_quiet_op
          exact hK
        refine hoist [] [] (a1 := ?_) 1 rfl (by kernel_rfl) (.inl ⟨rfl, rfl⟩) rfl rfl rfl (fun x K hK => ?_) ?_
        rotate_left
        · refine qlM ar16 rfl (by rfl) (by rw [hKl.out]; decide) (fun w' hw => by subst hw; exact K5.out.bw x.bw) (by simp only [hml.out, Act.put, List.setIfInBounds_toArray, List.set_cons_succ, List.set_cons_zero]; rfl) ?_
          exact hK
        refine hoist [] [] (a1 := ?_) 2 rfl (by kernel_rfl) (.inl ⟨rfl, rfl⟩) rfl rfl rfl (fun x K hK => ?_) ?_
        rotate_left
        · refine qlA ar16 rfl (by rfl) hcl.out (fun w' hw => by subst hw; exact A4.out.bw x.bw) (by simp only [Act.put, List.setIfInBounds_toArray, List.set_cons_succ, List.set_cons_zero]; rfl) ?_
          exact hK
        refine hoist [] [] (a1 := ?_) 3 rfl (by kernel_rfl) (.inl ⟨rfl, rfl⟩) rfl rfl rfl (fun x K hK => ?_) ?_
        rotate_left
        · go_big_quiet_op
          exact hK
        refine effect 4 rfl (by kernel_rfl) (by kernel_rfl) rfl (fun x4 K hK => ?_)
        go_simp
        refine hK _ _ (Still.of_below ((Below.refl _ _).alloc (Nat.le_refl _) _)) ?_
        clear hK K
        have hb : BW w4 x4.now := x4.bw
        replace B5 := Lib.hid (B5.out.trans hb)
        clear hb
        try simp only [Act.put, List.setIfInBounds_toArray, List.set_cons_succ, List.set_cons_zero]
        refine effect 5 rfl (by kernel_rfl) (by kernel_rfl) rfl (fun x5 K hK => ?_)
        go_simp
        refine Calls.mono (cy (some ⟨x4.now.heap.size, 0, none⟩) N x5.now ((SB_zeros N (by omega) x4.now).bw x5.bw)).out ?_
        rintro e w6 ⟨v6, rfl, O6, hb⟩
        obtain ⟨s6, p6, rfl, _, _⟩ := O6.len
        refine hK _ _ (Still.of_below hb) ?_
        clear hK K cy
        replace O6 := Lib.hid (O6.up (base' := w.heap.size) (by have h1 := B5.out.size; have h2 := x4.bw.size; have h3 := x5.bw.size; simp at h3; omega))
        have hb : BW x4.now w6 := ((BW.refl _).alloc.trans (x5.bw.call hb))
        replace B5 := Lib.hid (B5.out.trans hb)
        clear hb
        try simp only [Act.put, List.setIfInBounds_toArray, List.set_cons_succ, List.set_cons_zero]
        refine hoist [] [] (a1 := ?_) 6 rfl (by kernel_rfl) (.inl ⟨rfl, rfl⟩) rfl rfl rfl (fun x K hK => ?_) ?_
        rotate_left
        · go_big_quiet_op
          exact hK
        refine done (by kernel_rfl) (fun xr => ?_)
        go_wp2_with fail
        go_ret
        exact ⟨_, rfl, O6.out.bw xr.bw, B5.out.trans xr.bw⟩
end Go.Proofs.Ytjjemkfkpnemoaa
