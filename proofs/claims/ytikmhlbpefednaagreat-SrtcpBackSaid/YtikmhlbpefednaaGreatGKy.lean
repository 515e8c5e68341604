/- keys.Derive, the reference's Derive. No condition. The reference's Derive. No condition. keys' fill, all, Rtp, Rtcp. No condition. keys.Rtp, keys.Rtcp; the reference's Keys. No condition. -/
import Derived.Test.YtikmhlbpefednaaGreatGTb
import Derived.Test.YtikmhlbpefednaaGreatGAr
namespace Go.Proofs.YtikmhlbpefednaaGreat
open Go.RowKit
def ctrL (salt : List Nat) (lb : Nat) : List Nat := xorAt 16 (salt ++ [0, 0]) 7 [lb]
theorem ctrL_len (salt : List Nat) (lb : Nat) : (ctrL salt lb).length = 16 := xorAt_len _ _ _ _
theorem salt2_byl {salt : List Nat} (h : ByL salt) : ByL (salt ++ [0, 0]) := h.append (by unfold ByL; decide)
theorem ctrL_byl (salt : List Nat) (lb : Nat) (h : ByL salt) (hl : lb < 256) : ByL (ctrL salt lb) := byl_of (xorAt_byt 16 _ 7 [lb] (byt_of (salt2_byl h)) (byt_of (fun x hx => by simp at hx; omega)))
theorem ctrL_set (salt : List Nat) (lb : Nat) (hs : salt.length = 14) : (salt ++ [0, 0]).set 7 ((salt ++ [0, 0]).getD 7 0 ^^^ lb) = ctrL salt lb := by
 have := xorAt_step 16 (salt ++ [0, 0]) 7 [lb] 0 (by omega) (by simp)
 rw [List.take_zero, xorAt_nil 16 _ 7 (by simp [hs])] at this
 exact this
theorem spl_salt (salt : List Nat) (hs : salt.length = 14) : splB (zeros 16) 0 salt = salt ++ [0, 0] := by
 unfold splB
 rw [hs]; rfl
theorem mid_left (a b : List Nat) : mid (a ++ b) 0 a.length = a := by simp [mid]
theorem mid_right (a b : List Nat) : mid (a ++ b) a.length b.length = b := by simp [mid]
def drv (key salt : List Nat) (lb n : Nat) : List Nat := strm (wordsN key) (numB (ctrL salt lb)) n
set_option maxRecDepth 100000 in
set_option maxHeartbeats 8000000 in
theorem derive_ok (key salt : List Nat) (lb : Nat) (n : Int) (n1 : -9223372036854775808 ≤ n) (n2 : n ≤ 9223372036854775807) (hl : lb < 256) (hk : key.length = 16) (hkb : ByL key) (hs : salt.length = 14) (hsb : ByL salt) (w : World) :
  Calls Tryz.prog 90 #[.agg (ivA .u8 (key ++ salt)), .int .u8 (lb : Nat), .int .i64 n] w fun e w' => ∃ v, e = .returned v ∧ OB w' w.heap.size 5 v (min n.toNat 4096) (drv key salt lb (min n.toNat 4096)) ∧ Below w.heap.size w w' := by
 have hd : Hid (drv key salt lb (min n.toNat 4096) = strm (wordsN key) (numB (ctrL salt lb)) (min n.toNat 4096)) := rfl
 have cy := fun wz => Lib.hid (bytes_ok key (ctrL salt lb) n n1 n2 hk (byt_of hkb) (ctrL_len _ _) (ctrL_byl salt lb hsb hl) wz)
 rw [← hd.out] at cy
 have hcs := Lib.hid (ctrL_set salt lb hs)
 have hcl := Lib.hid (ctrL_len salt lb)
 have hy := salt2_byl hsb
 have hml := Lib.hid (mid_left key salt)
 have hmr := Lib.hid (mid_right key salt)
 rw [hk] at hml hmr
 rw [hs] at hmr
 have hKl : Hid ((key ++ salt).length = 30) := by simp [Hid, hk, hs]
 have hKb := Lib.hid (hkb.append hsb)
 have hsp := Lib.hid (spl_salt salt hs)
 have hs2l : Hid ((salt ++ [0, 0]).length = 16) := by simp [Hid, hs]
 have hs2b := hy.get 7
 generalize drv key salt lb (min n.toNat 4096) = D at *
 generalize ctrL salt lb = C at *
 generalize key ++ salt = K at *
 replace hk := Lib.hid hk
 replace hkb := Lib.hid hkb
 replace hs := Lib.hid hs
 replace hsb := Lib.hid hsb
 replace hy := Lib.hid hy
 have B := Lib.hid (BW.refl w)
 go_enter Tryz.func90, Tryz.ntmps90
 go_upto_region 2 with (refine alA ar16 rfl rfl ?_)
 have K1 := Lib.hid ((AvB.new w 25 K).bw (show BW (w.alloc (.cells (ivA .u8 K) 25)) ((w.alloc (.cells (ivA .u8 K) 25)).alloc (.cells (ivA .u8 (zeros 16)) 22)) from (by repeat (first | exact BW.refl _ | apply BW.alloc | apply BW.drewN | apply BW.drew))))
 have C1 := Lib.hid ((AvB.new (w.alloc (.cells (ivA .u8 K) 25)) 22 (zeros 16)).bw (show BW ((w.alloc (.cells (ivA .u8 K) 25)).alloc (.cells (ivA .u8 (zeros 16)) 22)) ((w.alloc (.cells (ivA .u8 K) 25)).alloc (.cells (ivA .u8 (zeros 16)) 22)) from (by repeat (first | exact BW.refl _ | apply BW.alloc | apply BW.drewN | apply BW.drew))))
 simp only [World.size_alloc] at C1
 generalize hnm : ((w.alloc (.cells (ivA .u8 K) 25)).alloc (.cells (ivA .u8 (zeros 16)) 22)) = w1 at *
 have hb : BW w w1 := (by subst hnm; exact (by repeat (first | exact BW.refl _ | apply BW.alloc | apply BW.drewN | apply BW.drew)))
 replace B := Lib.hid (B.out.trans hb)
 clear hb
 clear hnm
 try simp only [World.size_alloc]
 try simp only [Act.put, List.setIfInBounds_toArray, List.set_cons_succ, List.set_cons_zero]
 have hlt := C1.out.lt
 refine wp_region_gg [] [] [3] (by kernel_rfl) ?_
 refine hoist [] [] (a1 := ?_) 0 rfl (by kernel_rfl) (.inl ⟨rfl, rfl⟩) rfl rfl rfl (fun x K hK => ?_) ?_
 rotate_left
 ·go_big_quiet_op
  exact hK
 refine hoist [] [] (a1 := ?_) 1 rfl (by kernel_rfl) (.inl ⟨rfl, rfl⟩) rfl rfl rfl (fun x K hK => ?_) ?_
 rotate_left
 ·go_big_quiet_op
  exact hK
 refine hoist [] [] (a1 := ?_) 2 rfl (by kernel_rfl) (.inl ⟨rfl, rfl⟩) rfl rfl rfl (fun x K hK => ?_) ?_
 rotate_left
 ·go_big_quiet_op
  exact hK
 refine tail 3 rfl (by kernel_rfl) rfl (fun xr => ?_)
 simp only [List.drop_succ_cons, List.drop_zero]
 have C2 := Lib.hid (C1.out.bw xr.bw)
 have V2 := (K1.out.bw xr.bw).sbM hKb.out 16 14 14 (by rw [hKl.out]; decide) (Nat.le_refl _) (by decide)
 rw [hmr.out] at V2
 go_upto_region 3 with (refine wp_copyB rfl (.tmp 8) (.tmp 10) rfl (by rfl) C2.out (by rfl) V2 (by rw [zeros_len]; decide) ?_; intro w3 A3 T3 z3; replace z3 := Lib.hid z3)
 rw [show min 14 16 = 14 from rfl, List.take_of_length_le (by rw [hs.out]; exact Nat.le_refl _), hsp.out] at A3
 have T4 : Hid (Still [w.heap.size + 1] w1 w3) := xr.ok.weaken (by simp) |>.trans T3
 have K3 := Lib.hid (K1.out.still T4.out (by simp))
 have c7 := A3.cell 7 (by rw [hs2l.out]; decide)
 have f7 := A3.frz 7
 have A4 := Lib.hid (A3.set 7 ((salt ++ [0, 0]).getD 7 0 ^^^ lb))
 rw [hcs.out] at A4
 have T5 := Lib.hid (T4.out.trans (still_setC w3 (w.heap.size + 1) 7 (.int .u8 ((salt ++ [0, 0]).getD 7 0 ^^^ lb : Nat))))
 have K5 := Lib.hid (K3.out.setO (b := w.heap.size + 1) (o := 7) (by omega) (.int .u8 ((salt ++ [0, 0]).getD 7 0 ^^^ lb : Nat)))
 replace A3 := Lib.hid A3
 replace T3 := Lib.hid T3
 generalize (salt ++ [0, 0]).getD 7 0 = y at *
 have hX := u8_xor_nat y lb hs2b hl
 clear A3 K3 C2
 try simp only [Act.put, List.setIfInBounds_toArray, List.set_cons_succ, List.set_cons_zero]
 go_upto_region 4 with (fail)
 have B5 := Lib.hid (B.out.step (T5.out.below (B := w.heap.size) B.out.size (by simp)) (Nat.le_refl _))
 generalize w3.setCell ⟨w.heap.size + 1, 7, none⟩ (.int .u8 (y ^^^ lb : Nat)) = w4 at *
 replace hX := Lib.hid hX
 go_wp2_with (first | (refine ldM ar16 rfl rfl (by rfl) K5.out (by rw [hKl.out]; decide) ?_; rw [hml.out]) | (refine ldA ar16 rfl rfl (by rfl) A4.out hcl.out ?_))
 refine Calls.mono (cy w4).out ?_
 rintro e w5 ⟨v, rfl, O, hb⟩
 obtain ⟨s5, c5, rfl, _, _⟩ := O.len
 have B6 := Lib.hid (B5.out.trans hb)
 replace O := Lib.hid (O.up (base' := w.heap.size) B5.out.size)
 clear hb cy
 dsimp only
 go_wp2_with fail
 go_ret
 exact ⟨_, rfl, O.out, B6.out⟩
end Go.Proofs.YtikmhlbpefednaaGreat

namespace Go.Proofs.YtikmhlbpefednaaGreat
open Go.RowKit
theorem xor_salt (salt : List Nat) (hs : salt.length = 14) : xorAt 16 (zeros 16) 0 salt = salt ++ [0, 0] := by
 rw [← tab_of 16 (salt ++ [0, 0]) (by simp [hs])]
 unfold xorAt
 refine tab_congr _ _ _ fun j hj => ?_
 rw [zeros_get, Nat.zero_xor, if_pos (Nat.zero_le _), Nat.sub_zero]
 simp only [List.getD_eq_getElem?_getD]
 rcases Nat.lt_or_ge j 14 with h | h
 ·rw [List.getElem?_append_left (by omega)]
 ·rw [List.getElem?_eq_none (by omega), List.getElem?_append_right (by omega), hs]
  rcases (show j = 14 ∨ j = 15 by omega) with rfl | rfl <;> rfl
set_option maxRecDepth 100000 in
set_option maxHeartbeats 8000000 in
theorem rderive_ok (key salt : List Nat) (lb : Nat) (n : Int) (n1 : -9223372036854775808 ≤ n) (n2 : n ≤ 1000000) (hl : lb < 256) (hk : key.length = 16) (hkb : ByL key) (hs : salt.length = 14) (hsb : ByL salt) (w : World) :
  Calls Tryz.prog 66 #[.agg (ivA .u8 (key ++ salt)), .int .u8 (lb : Nat), .int .i64 n] w fun e w' => ∃ v, e = .returned v ∧ OB w' w.heap.size 5 v n.toNat (drv key salt lb n.toNat) ∧ Below w.heap.size w w' := by
 have hd : Hid (drv key salt lb n.toNat = strm (wordsN key) (numB (ctrL salt lb)) n.toNat) := rfl
 have hz : Hid (cipN (wordsN key) (numB (ctrL salt lb)) (zeros n.toNat) = strm (wordsN key) (numB (ctrL salt lb)) n.toNat) := cipN_zeros _ _ _
 have cy := fun sx cx wz hv => Lib.hid (rcipher_ok key (ctrL salt lb) (zeros n.toNat) sx n.toNat cx hk (byt_of hkb) (ctrL_len _ _) (ctrL_byl salt lb hsb hl) (by omega) wz hv)
 rw [hz.out, ← hd.out] at cy
 have hcs := Lib.hid (ctrL_set salt lb hs)
 have hcl := Lib.hid (ctrL_len salt lb)
 have hy := salt2_byl hsb
 have hml := Lib.hid (mid_left key salt)
 rw [hk] at hml
 have hKl : Hid ((key ++ salt).length = 30) := by simp [Hid, hk, hs]
 have hKr : ∀ i, Hid (i < 14 → (key ++ salt).getD (16 + i) 0 = salt.getD i 0) := fun i hi => by
  simp only [List.getD_eq_getElem?_getD]
  rw [List.getElem?_append_right (by omega), hk, Nat.add_sub_cancel_left]
 have hxs := Lib.hid (xor_salt salt hs)
 have hs2l : Hid ((salt ++ [0, 0]).length = 16) := by simp [Hid, hs]
 have hs2b := hy.get 7
 have h0 : n < 1 → Hid (drv key salt lb n.toNat = []) := fun h => by
  rw [Hid, hd.out, show n.toNat = 0 by omega]; rfl
 generalize drv key salt lb n.toNat = D at *
 generalize ctrL salt lb = C at *
 generalize key ++ salt = K at *
 replace hk := Lib.hid hk
 replace hkb := Lib.hid hkb
 replace hs := Lib.hid hs
 replace hsb := Lib.hid hsb
 replace hy := Lib.hid hy
 replace h0 := Lib.hid h0
 have B := Lib.hid (BW.refl w)
 go_enter Tryz.func66, Tryz.ntmps66
 go_upto_region 2 with (refine alA ar16 rfl rfl ?_)
 have K1 := Lib.hid ((AvB.new w 25 K).bw (show BW (w.alloc (.cells (ivA .u8 K) 25)) ((w.alloc (.cells (ivA .u8 K) 25)).alloc (.cells (ivA .u8 (zeros 16)) 22)) from (by repeat (first | exact BW.refl _ | apply BW.alloc | apply BW.drewN | apply BW.drew))))
 have C1 := Lib.hid ((AvB.new (w.alloc (.cells (ivA .u8 K) 25)) 22 (zeros 16)).bw (show BW ((w.alloc (.cells (ivA .u8 K) 25)).alloc (.cells (ivA .u8 (zeros 16)) 22)) ((w.alloc (.cells (ivA .u8 K) 25)).alloc (.cells (ivA .u8 (zeros 16)) 22)) from (by repeat (first | exact BW.refl _ | apply BW.alloc | apply BW.drewN | apply BW.drew))))
 simp only [World.size_alloc] at C1
 generalize hnm : ((w.alloc (.cells (ivA .u8 K) 25)).alloc (.cells (ivA .u8 (zeros 16)) 22)) = w1 at *
 have hb : BW w w1 := (by subst hnm; exact (by repeat (first | exact BW.refl _ | apply BW.alloc | apply BW.drewN | apply BW.drew)))
 replace B := Lib.hid (B.out.trans hb)
 clear hb
 clear hnm
 try simp only [World.size_alloc]
 go_wp2_with fail
 go_loopg [8] 14 (fun m' i wx => ∃ k : Nat, m' = 14 - k ∧ k ≤ 14 ∧ i = .int .i64 (k : Nat) ∧ Hid (AvB wx (w.heap.size + 1) 22 (xorAt 16 (zeros 16) 0 (salt.take k))) ∧ Hid (AvB wx w.heap.size 25 K) ∧ Hid (BW w wx))
 case atStart => exact ⟨0, by omega, by omega, rfl, by rw [List.take_zero, xorAt_nil 16 _ 0 (zeros_len 16)]; exact C1, K1, B⟩
 case round =>
  clear C1 K1 B
  obtain ⟨k, rfl, hk2, rfl, A, K1, B⟩ := hrel
  by_cases hkn : k < 14
  ·have c1 := K1.out.cell (16 + k) (by rw [hKl.out]; omega)
   rw [(hKr k).out hkn] at c1
   have e1 := Lib.hid (xorAt_step 16 (zeros 16) 0 salt k (by omega) (by rw [hs.out]; exact hkn))
   rw [Nat.zero_add, zeros_get, Nat.zero_xor] at e1
   have c2 := A.out.cell k (by rw [xorAt_len]; omega)
   have f2 := A.out.frz k
   have A3 := Lib.hid (A.out.set k (salt.getD k 0))
   rw [e1.out] at A3
   have K3 := Lib.hid (K1.out.setO (b := w.heap.size + 1) (o := k) (by omega) (.int .u8 (salt.getD k 0 : Nat)))
   have B3 := Lib.hid (B.out.set (g := w.heap.size + 1) (o := k) (by omega) (v := .int .u8 (salt.getD k 0 : Nat)))
   generalize salt.getD k 0 = y at *
   clear A K1 B
   go_wp2_with fail
   go_roundg (14 - (k + 1))
   case measure => omega
   case rel => exact ⟨k + 1, rfl, by omega, by go_num, A3, K3, B3⟩
  ·obtain rfl : k = 14 := by omega
   rw [List.take_of_length_le (by rw [hs.out]; exact Nat.le_refl _), hxs.out] at A
   have c7 := A.out.cell 7 (by rw [hs2l.out]; decide)
   have f7 := A.out.frz 7
   have A4 := Lib.hid (A.out.set 7 ((salt ++ [0, 0]).getD 7 0 ^^^ lb))
   rw [hcs.out] at A4
   have K5 := Lib.hid (K1.out.setO (b := w.heap.size + 1) (o := 7) (by omega) (.int .u8 ((salt ++ [0, 0]).getD 7 0 ^^^ lb : Nat)))
   have B5 := Lib.hid (B.out.set (g := w.heap.size + 1) (o := 7) (by omega) (v := .int .u8 ((salt ++ [0, 0]).getD 7 0 ^^^ lb : Nat)))
   generalize (salt ++ [0, 0]).getD 7 0 = y at *
   have hX := u8_xor_nat y lb hs2b hl
   clear A K1 B hk2 hkn
   go_upto_region 7 with (fail)
   generalize wr.setCell ⟨w.heap.size + 1, 7, none⟩ (.int .u8 (y ^^^ lb : Nat)) = w4 at *
   replace hX := Lib.hid hX
   clear c7 f7
   by_cases hn : n < 1
   ·have e0 := (h0.out hn).out
    have en : n.toNat = 0 := by omega
    replace e0 := Lib.hid e0
    replace en := Lib.hid en
    go_wp2_with fail
    go_ret
    refine ⟨_, rfl, ?_, B5.out⟩
    rw [en.out, e0.out]
    exact OB.nil _ _ _
   ·obtain ⟨N, rfl⟩ := Int.eq_ofNat_of_zero_le (show 0 ≤ n by omega)
    rw [Int.toNat_natCast] at cy
    have mk := make_u8 N (by omega)
    go_upto_region 9 with (fail)
    refine wp_region_gg [] [] [] (by kernel_rfl) ?_
    refine hoist [] [] (a1 := ?_) 0 rfl (by kernel_rfl) (.inl ⟨rfl, rfl⟩) rfl rfl rfl (fun x K hK => ?_) ?_
    rotate_left
    ·go_big_quiet_op
     exact hK
    refine hoist [] [] (a1 := ?_) 1 rfl (by kernel_rfl) (.inl ⟨rfl, rfl⟩) rfl rfl rfl (fun x K hK => ?_) ?_
    rotate_left
    ·refine qlM ar16 rfl (by rfl) (by rw [hKl.out]; decide) (fun w' hw => by subst hw; exact K5.out.bw x.bw) (by simp only [hml.out, Act.put, List.setIfInBounds_toArray, List.set_cons_succ, List.set_cons_zero]; rfl) ?_
     exact hK
    refine hoist [] [] (a1 := ?_) 2 rfl (by kernel_rfl) (.inl ⟨rfl, rfl⟩) rfl rfl rfl (fun x K hK => ?_) ?_
    rotate_left
    ·refine qlA ar16 rfl (by rfl) hcl.out (fun w' hw => by subst hw; exact A4.out.bw x.bw) (by simp only [Act.put, List.setIfInBounds_toArray, List.set_cons_succ, List.set_cons_zero]; rfl) ?_
     exact hK
    refine hoist [] [] (a1 := ?_) 3 rfl (by kernel_rfl) (.inl ⟨rfl, rfl⟩) rfl rfl rfl (fun x K hK => ?_) ?_
    rotate_left
    ·go_big_quiet_op
     exact hK
    refine effect 4 rfl (by kernel_rfl) (by kernel_rfl) rfl (fun x4 K hK => ?_)
    go_simp
    refine hK _ _ (Still.of_below ((Below.refl _ _).alloc (Nat.le_refl _) _)) ?_
    clear hK K
    have hb : BW w4 x4.now := x4.bw
    replace B5 := Lib.hid (B5.out.trans hb)
    clear hb
    try simp only [Act.put, List.setIfInBounds_toArray, List.set_cons_succ, List.set_cons_zero]
    refine effect 5 rfl (by kernel_rfl) (by kernel_rfl) rfl (fun x5 K hK => ?_)
    go_simp
    refine Calls.mono (cy (some ⟨x4.now.heap.size, 0, none⟩) N x5.now ((SB_zeros N (by omega) x4.now).bw x5.bw)).out ?_
    rintro e w6 ⟨v6, rfl, O6, hb⟩
    obtain ⟨s6, p6, rfl, _, _⟩ := O6.len
    refine hK _ _ (Still.of_below hb) ?_
    clear hK K cy
    replace O6 := Lib.hid (O6.up (base' := w.heap.size) (by have h1 := B5.out.size; have h2 := x4.bw.size; have h3 := x5.bw.size; simp at h3; omega))
    have hb : BW x4.now w6 := ((BW.refl _).alloc.trans (x5.bw.call hb))
    replace B5 := Lib.hid (B5.out.trans hb)
    clear hb
    try simp only [Act.put, List.setIfInBounds_toArray, List.set_cons_succ, List.set_cons_zero]
    refine hoist [] [] (a1 := ?_) 6 rfl (by kernel_rfl) (.inl ⟨rfl, rfl⟩) rfl rfl rfl (fun x K hK => ?_) ?_
    rotate_left
    ·go_big_quiet_op
     exact hK
    refine done (by kernel_rfl) (fun xr => ?_)
    go_wp2_with fail
    go_ret
    exact ⟨_, rfl, O6.out.bw xr.bw, B5.out.trans xr.bw⟩
end Go.Proofs.YtikmhlbpefednaaGreat

namespace Go.Proofs.YtikmhlbpefednaaGreat
open Go.RowKit
theorem ar30 : ArT 25 30 := ⟨⟨_, Tryz.underlying25, rfl, rfl⟩, by kernel_rfl, fun w => by kernel_rfl⟩
theorem ar50 : ArT 49 50 := ⟨⟨_, Tryz.underlying49, rfl, rfl⟩, by kernel_rfl, fun w => by kernel_rfl⟩
theorem drv_len (key salt : List Nat) (lb n : Nat) : (drv key salt lb n).length = n := strm_len _ _ _
def keysN (key salt : List Nat) (f : Nat) : List Nat := drv key salt f 16 ++ (drv key salt (f + 1) 20 ++ drv key salt (f + 2) 14)
theorem keysN_len (key salt : List Nat) (f : Nat) : (keysN key salt f).length = 50 := by simp [keysN, drv_len]
theorem spl3 (a b c : List Nat) (ha : a.length = 16) (hb : b.length = 20) (hc : c.length = 14) : splB (splB (splB (zeros 50) 0 a) 16 b) 36 c = a ++ (b ++ c) := by
 have e1 : splB (zeros 50) 0 a = a ++ zeros 34 := by unfold splB; rw [ha]; rfl
 have e2 : splB (a ++ zeros 34) 16 b = a ++ (b ++ zeros 14) := by
  unfold splB
  rw [hb, ← ha, List.take_left', List.drop_append]
  ·simp [ha, zeros]
  ·rfl
 have e3 : splB (a ++ (b ++ zeros 14)) 36 c = a ++ (b ++ c) := by
  unfold splB
  rw [hc, show a ++ (b ++ zeros 14) = (a ++ b) ++ zeros 14 from (List.append_assoc _ _ _).symm, List.take_left' (by simp [ha, hb]), List.drop_of_length_le (by simp [ha, hb, zeros]), List.append_nil, List.append_assoc]
 rw [e1, e2, e3]
set_option maxRecDepth 100000 in
set_option maxHeartbeats 8000000 in
theorem fill_ok (key salt cur : List Nat) (lb f N pm pf g off : Nat) (hN : N ≤ 4096) (hlf : f + lb < 256) (hk : key.length = 16) (hkb : ByL key) (hs : salt.length = 14) (hsb : ByL salt) (hfit : off + N ≤ cur.length) (w : World) (H : AvB w g 49 cur) (M : AvB w pm 25 (key ++ salt)) (F : HpB w pf (.cells #[.int .u8 (f : Nat)] 5)) :
  Calls Tryz.prog 89 #[.int .u8 (lb : Nat), .slice (some ⟨g, off, none⟩) N N, .pointer (some ⟨pm, 0, none⟩), .pointer (some ⟨pf, 0, none⟩)] w fun e w' => e = .returned (.tuple #[]) ∧ AvB w' g 49 (splB cur off (drv key salt (f + lb) N)) ∧ Still [g] w w' := by
 have cd := fun wz => Lib.hid (derive_ok key salt (f + lb) (N : Int) (by omega) (by omega) hlf hk hkb hs hsb wz)
 rw [Int.toNat_natCast, Nat.min_eq_left hN] at cd
 have hKl : Hid ((key ++ salt).length = 30) := by simp [Hid, hk, hs]
 have hDl := Lib.hid (drv_len key salt (f + lb) N)
 generalize drv key salt (f + lb) N = D at *
 generalize key ++ salt = K at *
 have cf := hp_cell F 0
 have q1 : (f : Int) + (lb : Int) ≤ 255 := by omega
 have q2 : ((f + lb : Nat) : Int) = (f : Int) + (lb : Int) := by omega
 rw [q2] at cd
 replace hk := Lib.hid hk
 replace hkb := Lib.hid hkb
 replace hs := Lib.hid hs
 replace hsb := Lib.hid hsb
 replace H := Lib.hid H
 replace M := Lib.hid M
 replace F := Lib.hid F
 replace q2 := Lib.hid q2
 have B := Lib.hid (BW.refl w)
 go_enter Tryz.func89, Tryz.ntmps89
 go_wp2_with (refine ldA ar30 rfl rfl (by rfl) M.out hKl.out ?_)
 refine Calls.mono (cd w).out ?_
 rintro e w1 ⟨v, rfl, O, hb⟩
 obtain ⟨s1, c1, rfl, _, _⟩ := O.len
 have hb : BW w w1 := hb
 replace B := Lib.hid (B.out.trans hb)
 replace H := Lib.hid (H.out.bw hb)
 clear hb
 dsimp only
 go_wp2_with (refine wp_copyB rfl (.tmp 6) (.tmp 13) rfl (by rfl) H.out (by rfl) O.sb (by rw [Nat.min_self]; exact hfit) ?_; intro w3 A3 T3 z3; replace z3 := Lib.hid z3; rw [Nat.min_self, List.take_of_length_le (by rw [hDl.out]; exact Nat.le_refl _)] at A3; replace A3 := Lib.hid A3)
 go_end0
 exact ⟨rfl, A3.out, (B.out.still _).trans T3⟩
set_option maxRecDepth 100000 in
set_option maxHeartbeats 8000000 in
theorem kall_ok (key salt : List Nat) (f : Nat) (hf : f ≤ 200) (hk : key.length = 16) (hkb : ByL key) (hs : salt.length = 14) (hsb : ByL salt) (w : World) :
  Calls Tryz.prog 65 #[.agg (ivA .u8 (key ++ salt)), .int .u8 (f : Nat)] w fun e w' => e = .returned (.agg (ivA .u8 (keysN key salt f))) ∧ Below w.heap.size w w' := by
 have hmf : ∀ (fn : Fn) (first cap : Array Value) (w : World), (Instr.makeFunc fn first cap).run Tryz.prog w = .ok (.func fn first cap) w := fun _ _ _ _ => rfl
 have hR : Hid (splB (splB (splB (zeros 50) 0 (drv key salt (f + 0) 16)) 16 (drv key salt (f + 1) 20)) 36 (drv key salt (f + 2) 14) = keysN key salt f) := spl3 _ _ _ (drv_len _ _ _ _) (drv_len _ _ _ _) (drv_len _ _ _ _)
 have hl := Lib.hid (keysN_len key salt f)
 have d1 := Lib.hid (drv_len key salt (f + 0) 16)
 have d2 := Lib.hid (drv_len key salt (f + 1) 20)
 have cf := fun cur lb N pm pf g off hN hlf hfit wz H M F => Lib.hid (fill_ok key salt cur lb f N pm pf g off hN hlf hk hkb hs hsb hfit wz H M F)
 have hKl : Hid ((key ++ salt).length = 30) := by simp [Hid, hk, hs]
 generalize keysN key salt f = R at *
 generalize key ++ salt = K at *
 replace hk := Lib.hid hk
 replace hkb := Lib.hid hkb
 replace hs := Lib.hid hs
 replace hsb := Lib.hid hsb
 replace cf := Lib.hid cf
 have B := Lib.hid (BW.refl w)
 go_enter Tryz.func65, Tryz.ntmps65
 go_upto_region 2 with (refine alA ar50 rfl rfl ?_)
 have M0 := Lib.hid ((AvB.new w 25 K).bw (show BW _ (((w.alloc (.cells (ivA .u8 K) 25)).alloc (.cells #[.int .u8 (f : Nat)] 5)).alloc (.cells (ivA .u8 (zeros 50)) 49)) from (by repeat (first | exact BW.refl _ | apply BW.alloc | apply BW.drewN | apply BW.drew))))
 have F0 := Lib.hid ((HpB.new (w.alloc (.cells (ivA .u8 K) 25)) (.cells #[.int .u8 (f : Nat)] 5)).bw ((BW.refl _).alloc (o := .cells (ivA .u8 (zeros 50)) 49)))
 have R0 := Lib.hid (AvB.new ((w.alloc (.cells (ivA .u8 K) 25)).alloc (.cells #[.int .u8 (f : Nat)] 5)) 49 (zeros 50))
 simp only [World.size_alloc] at F0 R0
 generalize hnm : ((w.alloc (.cells (ivA .u8 K) 25)).alloc (.cells #[.int .u8 (f : Nat)] 5)).alloc (.cells (ivA .u8 (zeros 50)) 49) = w1 at *
 have hb : BW w w1 := (by subst hnm; exact (by repeat (first | exact BW.refl _ | apply BW.alloc | apply BW.drewN | apply BW.drew)))
 replace B := Lib.hid (B.out.trans hb)
 clear hb
 clear hnm
 have hp := R0.out.lt
 have C0 := Lib.hid ((AvB.new w1 49 (zeros 50)).bw (show BW (w1.alloc (.cells (ivA .u8 (zeros 50)) 49)) (w1.alloc (.cells (ivA .u8 (zeros 50)) 49)) from (by repeat (first | exact BW.refl _ | apply BW.alloc | apply BW.drewN | apply BW.drew))))
 generalize hnm : (w1.alloc (.cells (ivA .u8 (zeros 50)) 49)) = w2 at *
 have hb : BW w1 w2 := (by subst hnm; exact (by repeat (first | exact BW.refl _ | apply BW.alloc | apply BW.drewN | apply BW.drew)))
 replace B := Lib.hid (B.out.trans hb)
 replace M0 := Lib.hid (M0.out.bw hb)
 replace F0 := Lib.hid (F0.out.bw hb)
 replace R0 := Lib.hid (R0.out.bw hb)
 clear hb
 clear hnm
 try simp only [World.size_alloc]
 try simp only [Act.put, List.setIfInBounds_toArray, List.set_cons_succ, List.set_cons_zero]
 have lR := R0.out.lt
 have lM := M0.out.lt
 have lF := F0.out.lt
 have hz := B.out.size
 generalize w1.heap.size = p at *
 go_wp2_with fail
 refine Calls.mono (cf.out (zeros 50) 0 16 _ _ p 0 (by decide) (by omega) (by rw [zeros_len]; decide) w2 C0.out M0.out F0.out).out ?_
 rintro e w3 ⟨rfl, C3, T3⟩
 have M3 := Lib.hid (M0.out.still T3 (by simp; omega))
 have F3 : Hid (HpB w3 _ _) := hp_st T3 F0.out (by simp; omega)
 dsimp only
 go_wp2_with fail
 refine Calls.mono (cf.out _ 1 20 _ _ p 16 (by decide) (by omega) (by rw [splB_len _ _ _ (by rw [d1.out, zeros_len]; decide), zeros_len]; decide) w3 C3 M3.out F3.out).out ?_
 rintro e w4 ⟨rfl, C4, T4⟩
 have M4 := Lib.hid (M3.out.still T4 (by simp; omega))
 have F4 : Hid (HpB w4 _ _) := hp_st T4 F3.out (by simp; omega)
 dsimp only
 go_wp2_with fail
 refine Calls.mono (cf.out _ 2 14 _ _ p 36 (by decide) (by omega) (by rw [splB_len _ _ _ (by rw [d2.out, splB_len _ _ _ (by rw [d1.out, zeros_len]; decide), zeros_len]; decide), splB_len _ _ _ (by rw [d1.out, zeros_len]; decide), zeros_len]; decide) w4 C4 M4.out F4.out).out ?_
 rintro e w5 ⟨rfl, C5, T5⟩
 rw [hR.out] at C5
 have T := Lib.hid ((T3.trans T4).trans T5)
 have R5 := Lib.hid (R0.out.still T.out (by simp; omega))
 have B5 := Lib.hid (B.out.step (T.out.below (B := w.heap.size) B.out.size (by simp; omega)) (Nat.le_refl _))
 have H6 := Lib.hid (R5.out.row R)
 replace C5 := Lib.hid C5
 clear T3 T4 T5 T C3 C4
 dsimp only
 go_wp2_with (first | (refine ldA ar50 rfl rfl rfl C5.out hl.out ?_) | (refine stR ar50 rfl rfl rfl rfl R5.out (zeros_len _) hl.out ?_))
 exact bodyPost_ret (results_cell_row (p := 4) rfl _ _ _ _ _ _ _ rfl H6.out Tryz.underlying49 rfl (by rw [ar50.hi, ivA_size, hl.out])) rfl ⟨rfl, B5.out.row (by omega) _⟩
end Go.Proofs.YtikmhlbpefednaaGreat

namespace Go.Proofs.YtikmhlbpefednaaGreat
open Go.RowKit
set_option maxRecDepth 100000 in
set_option maxHeartbeats 8000000 in
theorem krtcp_ok (key salt : List Nat) (hk : key.length = 16) (hkb : ByL key) (hs : salt.length = 14) (hsb : ByL salt) (w : World) :
  Calls Tryz.prog 52 #[.agg (ivA .u8 (key ++ salt))] w fun e w' => e = .returned (.agg (ivA .u8 (keysN key salt 3))) ∧ Below w.heap.size w w' := by
 have ck := fun wz => Lib.hid (kall_ok key salt 3 (by decide) hk hkb hs hsb wz)
 have hl := Lib.hid (keysN_len key salt 3)
 have hKl : Hid ((key ++ salt).length = 30) := by simp [Hid, hk, hs]
 generalize keysN key salt 3 = R at *
 generalize key ++ salt = K at *
 have B := Lib.hid (BW.refl w)
 go_enter Tryz.func52, Tryz.ntmps52
 go_upto_region 1 with (refine alA ar50 rfl rfl ?_)
 have M0 := Lib.hid ((AvB.new w 25 K).bw (show BW (w.alloc (.cells (ivA .u8 K) 25)) ((w.alloc (.cells (ivA .u8 K) 25)).alloc (.cells (ivA .u8 (zeros 50)) 49)) from (by repeat (first | exact BW.refl _ | apply BW.alloc | apply BW.drewN | apply BW.drew))))
 have R0 := Lib.hid ((AvB.new (w.alloc (.cells (ivA .u8 K) 25)) 49 (zeros 50)).bw (show BW ((w.alloc (.cells (ivA .u8 K) 25)).alloc (.cells (ivA .u8 (zeros 50)) 49)) ((w.alloc (.cells (ivA .u8 K) 25)).alloc (.cells (ivA .u8 (zeros 50)) 49)) from (by repeat (first | exact BW.refl _ | apply BW.alloc | apply BW.drewN | apply BW.drew))))
 simp only [World.size_alloc] at R0
 generalize hnm : ((w.alloc (.cells (ivA .u8 K) 25)).alloc (.cells (ivA .u8 (zeros 50)) 49)) = w1 at *
 have hb : BW w w1 := (by subst hnm; exact (by repeat (first | exact BW.refl _ | apply BW.alloc | apply BW.drewN | apply BW.drew)))
 replace B := Lib.hid (B.out.trans hb)
 clear hb
 clear hnm
 try simp only [World.size_alloc]
 go_wp2_with (refine ldA ar30 rfl rfl rfl M0.out hKl.out ?_)
 refine Calls.mono (ck w1).out ?_
 rintro e w2 ⟨rfl, hb⟩
 have hb : BW w1 w2 := hb
 replace B := Lib.hid (B.out.trans hb)
 replace R0 := Lib.hid (R0.out.bw hb)
 clear hb
 have H6 := Lib.hid (R0.out.row R)
 dsimp only
 go_wp2_with (refine stR ar50 rfl rfl rfl rfl R0.out (zeros_len _) hl.out ?_)
 exact bodyPost_ret (results_cell_row (p := 2) rfl _ _ _ _ _ _ _ rfl H6.out Tryz.underlying49 rfl (by rw [ar50.hi, ivA_size, hl.out])) rfl ⟨rfl, B.out.row (by omega) _⟩
def k3 (a b c : List Nat) (i j k : Nat) : List Nat := tab 50 fun x => if x < 16 then (if x < i then a.getD x 0 else 0) else if x < 36 then (if x - 16 < j then b.getD (x - 16) 0 else 0) else (if x - 36 < k then c.getD (x - 36) 0 else 0)
theorem k3_len (a b c : List Nat) (i j k : Nat) : (k3 a b c i j k).length = 50 := tab_len _ _
theorem k3_zero (a b c : List Nat) : k3 a b c 0 0 0 = zeros 50 := by
 rw [← tab_of 50 (zeros 50) (zeros_len 50)]
 exact tab_congr _ _ _ fun x _ => by rw [zeros_get]; simp
theorem k3_a (a b c : List Nat) (i j k : Nat) (h : i < 16) : (k3 a b c i j k).set i (a.getD i 0) = k3 a b c (i + 1) j k := by
 refine tab_set 50 _ _ i _ (by omega) (by simp [h]) fun x hx hne => ?_
 by_cases h1 : x < 16
 ·rw [if_pos h1, if_pos h1]
  by_cases h2 : x < i
  ·rw [if_pos h2, if_pos (by omega)]
  ·rw [if_neg h2, if_neg (by omega)]
 ·rw [if_neg h1, if_neg h1]
theorem k3_b (a b c : List Nat) (i j k : Nat) (h : j < 20) : (k3 a b c i j k).set (16 + j) (b.getD j 0) = k3 a b c i (j + 1) k := by
 refine tab_set 50 _ _ (16 + j) _ (by omega) ?_ fun x hx hne => ?_
 ·rw [if_neg (by omega), if_pos (by omega), if_pos (by omega), Nat.add_sub_cancel_left]
 ·by_cases h1 : x < 16
  ·rw [if_pos h1, if_pos h1]
  ·rw [if_neg h1, if_neg h1]
   by_cases h2 : x < 36
   ·rw [if_pos h2, if_pos h2]
    by_cases h3 : x - 16 < j
    ·rw [if_pos h3, if_pos (by omega)]
    ·rw [if_neg h3, if_neg (by omega)]
   ·rw [if_neg h2, if_neg h2]
theorem k3_c (a b c : List Nat) (i j k : Nat) (h : k < 14) : (k3 a b c i j k).set (36 + k) (c.getD k 0) = k3 a b c i j (k + 1) := by
 refine tab_set 50 _ _ (36 + k) _ (by omega) ?_ fun x hx hne => ?_
 ·rw [if_neg (by omega), if_neg (by omega), if_pos (by omega), Nat.add_sub_cancel_left]
 ·by_cases h1 : x < 16
  ·rw [if_pos h1, if_pos h1]
  ·rw [if_neg h1, if_neg h1]
   by_cases h2 : x < 36
   ·rw [if_pos h2, if_pos h2]
   ·rw [if_neg h2, if_neg h2]
    by_cases h3 : x - 36 < k
    ·rw [if_pos h3, if_pos (by omega)]
    ·rw [if_neg h3, if_neg (by omega)]
theorem k3_more (a b c : List Nat) (i j k i' k' : Nat) (hi : 16 ≤ i) (hi' : 16 ≤ i') (hk : 14 ≤ k) (hk' : 14 ≤ k') : k3 a b c i j k = k3 a b c i' j k' :=
 tab_congr _ _ _ fun x hx => by
  by_cases h1 : x < 16
  ·rw [if_pos h1, if_pos h1, if_pos (by omega), if_pos (by omega)]
  ·rw [if_neg h1, if_neg h1]
   by_cases h2 : x < 36
   ·rw [if_pos h2, if_pos h2]
   ·rw [if_neg h2, if_neg h2, if_pos (by omega), if_pos (by omega)]
theorem k3_moreC (a b c : List Nat) (i j k k' : Nat) (hk : 14 ≤ k) (hk' : 14 ≤ k') : k3 a b c i j k = k3 a b c i j k' :=
 tab_congr _ _ _ fun x hx => by
  by_cases h1 : x < 16
  ·rw [if_pos h1, if_pos h1]
  ·rw [if_neg h1, if_neg h1]
   by_cases h2 : x < 36
   ·rw [if_pos h2, if_pos h2]
   ·rw [if_neg h2, if_neg h2, if_pos (by omega), if_pos (by omega)]
theorem k3_all (a b c : List Nat) (ha : a.length = 16) (hb : b.length = 20) (hc : c.length = 14) : k3 a b c 20 20 20 = a ++ (b ++ c) := by
 rw [← tab_of 50 (a ++ (b ++ c)) (by simp [ha, hb, hc])]
 refine tab_congr _ _ _ fun x hx => ?_
 simp only [List.getD_eq_getElem?_getD]
 by_cases h1 : x < 16
 ·rw [if_pos h1, if_pos (by omega), List.getElem?_append_left (by omega)]
 ·rw [if_neg h1, List.getElem?_append_right (by omega), ha]
  by_cases h2 : x < 36
  ·rw [if_pos h2, if_pos (by omega), List.getElem?_append_left (by omega)]
  ·rw [if_neg h2, if_pos (by omega), List.getElem?_append_right (by omega), hb]
   congr 2
end Go.Proofs.YtikmhlbpefednaaGreat
