/- keys.Derive, the reference's Derive. No condition. -/
import Derived.Test.YtjjemkfkpnemoaaStN
import Derived.Test.YtjjemkfkpnemoaaArM
namespace Go.Proofs.Ytjjemkfkpnemoaa
open Go.RowKit

/-- The counter of a label. -/
def ctrL (salt : List Nat) (lb : Nat) : List Nat := xorAt 16 (salt ++ [0, 0]) 7 [lb]
theorem ctrL_len (salt : List Nat) (lb : Nat) : (ctrL salt lb).length = 16 := xorAt_len _ _ _ _
theorem salt2_byl {salt : List Nat} (h : ByL salt) : ByL (salt ++ [0, 0]) := h.append (by unfold ByL; decide)
theorem ctrL_byl (salt : List Nat) (lb : Nat) (h : ByL salt) (hl : lb < 256) : ByL (ctrL salt lb) := byl_of (xorAt_byt 16 _ 7 [lb] (byt_of (salt2_byl h)) (byt_of (fun x hx => by simp at hx; omega)))
theorem ctrL_set (salt : List Nat) (lb : Nat) (hs : salt.length = 14) : (salt ++ [0, 0]).set 7 ((salt ++ [0, 0]).getD 7 0 ^^^ lb) = ctrL salt lb := by
  have := xorAt_step 16 (salt ++ [0, 0]) 7 [lb] 0 (by omega) (by simp)
  rw [List.take_zero, xorAt_nil 16 _ 7 (by simp [hs])] at this
  exact this
theorem spl_salt (salt : List Nat) (hs : salt.length = 14) : splB (zeros 16) 0 salt = salt ++ [0, 0] := by
  unfold splB
  rw [hs]; rfl
theorem mid_left (a b : List Nat) : mid (a ++ b) 0 a.length = a := by simp [mid]
theorem mid_right (a b : List Nat) : mid (a ++ b) a.length b.length = b := by simp [mid]
/-- What is derived: so many bytes. -/
def drv (key salt : List Nat) (lb n : Nat) : List Nat := strm (wordsN key) (numB (ctrL salt lb)) n

set_option maxRecDepth 100000 in
set_option maxHeartbeats 8000000 in
theorem derive_ok (key salt : List Nat) (lb : Nat) (n : Int) (n1 : -9223372036854775808 ≤ n) (n2 : n ≤ 9223372036854775807) (hl : lb < 256) (hk : key.length = 16) (hkb : ByL key) (hs : salt.length = 14) (hsb : ByL salt) (w : World) :
    Calls Try.prog 38 #[.agg (ivA .u8 (key ++ salt)), .int .u8 (lb : Nat), .int .i64 n] w fun e w' => ∃ v, e = .returned v ∧ OB w' w.heap.size 5 v (min n.toNat 4096) (drv key salt lb (min n.toNat 4096)) ∧ Below w.heap.size w w' := by
  have hd : Hid (drv key salt lb (min n.toNat 4096) = strm (wordsN key) (numB (ctrL salt lb)) (min n.toNat 4096)) := rfl
  have cy := fun wz => Lib.hid (bytes_ok key (ctrL salt lb) n n1 n2 hk (byt_of hkb) (ctrL_len _ _) (ctrL_byl salt lb hsb hl) wz)
  rw [← hd.out] at cy
  have hcs := Lib.hid (ctrL_set salt lb hs)
  have hcl := Lib.hid (ctrL_len salt lb)
  have hy := salt2_byl hsb
  have hml := Lib.hid (mid_left key salt)
  have hmr := Lib.hid (mid_right key salt)
  rw [hk] at hml hmr
  rw [hs] at hmr
  have hKl : Hid ((key ++ salt).length = 30) := by simp [Hid, hk, hs]
  have hKb := Lib.hid (hkb.append hsb)
  have hsp := Lib.hid (spl_salt salt hs)
  have hs2l : Hid ((salt ++ [0, 0]).length = 16) := by simp [Hid, hs]
  have hs2b := hy.get 7
  generalize drv key salt lb (min n.toNat 4096) = D at *
  generalize ctrL salt lb = C at *
  generalize key ++ salt = K at *
  replace hk := Lib.hid hk
  replace hkb := Lib.hid hkb
  replace hs := Lib.hid hs
  replace hsb := Lib.hid hsb
  replace hy := Lib.hid hy
  have B := Lib.hid (BW.refl w)
  go_enter Try.func38, Try.ntmps38
  go_upto_region 2 with (refine alA ar16 rfl rfl ?_)
  have K1 := Lib.hid ((AvB.new w 58 K).bw (show BW (w.alloc (.cells (ivA .u8 K) 58)) ((w.alloc (.cells (ivA .u8 K) 58)).alloc (.cells (ivA .u8 (zeros 16)) 28)) from (by repeat (first | exact BW.refl _ | apply BW.alloc | apply BW.drewN | apply BW.drew))))
  have C1 := Lib.hid ((AvB.new (w.alloc (.cells (ivA .u8 K) 58)) 28 (zeros 16)).bw (show BW ((w.alloc (.cells (ivA .u8 K) 58)).alloc (.cells (ivA .u8 (zeros 16)) 28)) ((w.alloc (.cells (ivA .u8 K) 58)).alloc (.cells (ivA .u8 (zeros 16)) 28)) from (by repeat (first | exact BW.refl _ | apply BW.alloc | apply BW.drewN | apply BW.drew))))
  simp only [World.size_alloc] at C1
  generalize hnm : ((w.alloc (.cells (ivA .u8 K) 58)).alloc (.cells (ivA .u8 (zeros 16)) 28)) = w1 at *
  have hb : BW w w1 := (by subst hnm; exact (by repeat (first | exact BW.refl _ | apply BW.alloc | apply BW.drewN | apply BW.drew)))
  replace B := Lib.hid (B.out.trans hb)
  clear hb
  clear hnm
  try simp only [World.size_alloc]
  try simp only [Act.put, List.setIfInBounds_toArray, List.set_cons_succ, List.set_cons_zero]
  have hlt := C1.out.lt
  refine wp_region_gg [] [] [3] (by kernel_rfl) ?_
  refine hoist [] [] (a1 := ?_) 0 rfl (by kernel_rfl) (.inl ⟨rfl, rfl⟩) rfl rfl rfl (fun x K hK => ?_) ?_
  rotate_left
  · go_big_quiet_op
    exact hK
  refine hoist [] [] (a1 := ?_) 1 rfl (by kernel_rfl) (.inl ⟨rfl, rfl⟩) rfl rfl rfl (fun x K hK => ?_) ?_
  rotate_left
  · go_big_quiet_op
    exact hK
  refine hoist [] [] (a1 := ?_) 2 rfl (by kernel_rfl) (.inl ⟨rfl, rfl⟩) rfl rfl rfl (fun x K hK => ?_) ?_
  rotate_left
  · go_big_quiet_op
    exact hK
  refine tail 3 rfl (by kernel_rfl) rfl (fun xr => ?_)
  simp only [List.drop_succ_cons, List.drop_zero]
  have C2 := Lib.hid (C1.out.bw xr.bw)
  have V2 := (K1.out.bw xr.bw).sbM hKb.out 16 14 14 (by rw [hKl.out]; decide) (Nat.le_refl _) (by decide)
  rw [hmr.out] at V2
  go_upto_region 3 with (refine wp_copyB rfl (.tmp 8) (.tmp 10) rfl (by rfl) C2.out (by rfl) V2 (by rw [zeros_len]; decide) ?_; intro w3 A3 T3 z3; replace z3 := Lib.hid z3)
  rw [show min 14 16 = 14 from rfl, List.take_of_length_le (by rw [hs.out]; exact Nat.le_refl _), hsp.out] at A3
  have T4 : Hid (Still [w.heap.size + 1] w1 w3) := xr.ok.weaken (by simp) |>.trans T3
  have K3 := Lib.hid (K1.out.still T4.out (by simp))
  have c7 := A3.cell 7 (by rw [hs2l.out]; decide)
  have f7 := A3.frz 7
  have A4 := Lib.hid (A3.set 7 ((salt ++ [0, 0]).getD 7 0 ^^^ lb))
  rw [hcs.out] at A4
  have T5 := Lib.hid (T4.out.trans (still_setC w3 (w.heap.size + 1) 7 (.int .u8 ((salt ++ [0, 0]).getD 7 0 ^^^ lb : Nat))))
  have K5 := Lib.hid (K3.out.setO (b := w.heap.size + 1) (o := 7) (by omega) (.int .u8 ((salt ++ [0, 0]).getD 7 0 ^^^ lb : Nat)))
  replace A3 := Lib.hid A3
  replace T3 := Lib.hid T3
  generalize (salt ++ [0, 0]).getD 7 0 = y at *
  have hX := u8_xor_nat y lb hs2b hl
  clear A3 K3 C2
  try simp only [Act.put, List.setIfInBounds_toArray, List.set_cons_succ, List.set_cons_zero]
  go_upto_region 4 with (fail)
  have B5 := Lib.hid (B.out.step (T5.out.below (B := w.heap.size) B.out.size (by simp)) (Nat.le_refl _))
  generalize w3.setCell ⟨w.heap.size + 1, 7, none⟩ (.int .u8 (y ^^^ lb : Nat)) = w4 at *
  replace hX := Lib.hid hX
  go_wp2_with (first | (refine ldM ar16 rfl rfl (by rfl) K5.out (by rw [hKl.out]; decide) ?_; rw [hml.out]) | (refine ldA ar16 rfl rfl (by rfl) A4.out hcl.out ?_))
  refine Calls.mono (cy w4).out ?_
  rintro e w5 ⟨v, rfl, O, hb⟩
  obtain ⟨s5, c5, rfl, _, _⟩ := O.len
  have B6 := Lib.hid (B5.out.trans hb)
  replace O := Lib.hid (O.up (base' := w.heap.size) B5.out.size)
  clear hb cy
  dsimp only
  go_wp2_with fail
  go_ret
  exact ⟨_, rfl, O.out, B6.out⟩
end Go.Proofs.Ytjjemkfkpnemoaa
