/- The laws StreamFirst, StreamCiphers. No condition. -/
import Derived.Test.YtjjemkfkpnemoaaStH
import Derived.Test.YtjjemkfkpnemoaaAesBl
import Derived.Test.YtjjemkfkpnemoaaSam
import Derived.Lib.SlBytesConst
namespace Go.Proofs.Ytjjemkfkpnemoaa
open Go.RowKit

def kE : List Nat := [0x2b, 0x7e, 0x15, 0x16, 0x28, 0xae, 0xd2, 0xa6, 0xab, 0xf7, 0x15, 0x88, 0x09, 0xcf, 0x4f, 0x3c]
def cE : List Nat := [0xf0, 0xf1, 0xf2, 0xf3, 0xf4, 0xf5, 0xf6, 0xf7, 0xf8, 0xf9, 0xfa, 0xfb, 0xfc, 0xfd, 0, 0]
theorem strm_E : strm (wordsN kE) (numB cE) 16 = [224, 62, 173, 9, 53, 201, 94, 128, 225, 102, 177, 109, 217, 43, 78, 180] := by decide +kernel

set_option maxRecDepth 100000 in
set_option maxHeartbeats 8000000 in
theorem stalive_any (w : World) : Calls Try.prog 33 #[] w fun e w' => e = .returned (.bool true) ∧ Below w.heap.size w w' := by
  have cy := fun wz => Lib.hid (bytes_ok kE cE 16 (by decide) (by decide) rfl (byt_of (by unfold ByL; decide)) rfl (by unfold ByL; decide) wz)
  rw [show min (16 : Int).toNat 4096 = 16 from rfl, strm_E] at cy
  have B := Lib.hid (BW.refl w)
  go_enter Try.func33, Try.ntmps33
  go_upto_region 2 with (first | (refine alA ar16 rfl rfl ?_) | (refine stN ar16 rfl rfl rfl (show _ = Value.agg (ivA .u8 kE) from rfl) rfl ?_))
  have K1 := Lib.hid ((AvB.new w 28 kE).bw (show BW (w.alloc (.cells (ivA .u8 kE) 28)) (w.alloc (.cells (ivA .u8 kE) 28)) from (by repeat (first | exact BW.refl _ | apply BW.alloc | apply BW.drewN | apply BW.drew))))
  generalize hnm : (w.alloc (.cells (ivA .u8 kE) 28)) = w1 at *
  have hb : BW w w1 := (by subst hnm; exact (by repeat (first | exact BW.refl _ | apply BW.alloc | apply BW.drewN | apply BW.drew)))
  replace B := Lib.hid (B.out.trans hb)
  clear hb
  clear hnm
  try simp only [World.size_alloc]
  try simp only [Act.put, List.setIfInBounds_toArray, List.set_cons_succ, List.set_cons_zero]
  go_upto_region 3 with (first | (refine alA ar16 rfl rfl ?_) | (refine stN ar16 rfl rfl rfl (show _ = Value.agg (ivA .u8 cE) from rfl) rfl ?_))
  have C1 := Lib.hid ((AvB.new w1 28 cE).bw (show BW (w1.alloc (.cells (ivA .u8 cE) 28)) (w1.alloc (.cells (ivA .u8 cE) 28)) from (by repeat (first | exact BW.refl _ | apply BW.alloc | apply BW.drewN | apply BW.drew))))
  generalize hnm : (w1.alloc (.cells (ivA .u8 cE) 28)) = w2 at *
  have hb : BW w1 w2 := (by subst hnm; exact (by repeat (first | exact BW.refl _ | apply BW.alloc | apply BW.drewN | apply BW.drew)))
  replace B := Lib.hid (B.out.trans hb)
  replace K1 := Lib.hid (K1.out.bw hb)
  clear hb
  clear hnm
  try simp only [World.size_alloc]
  try simp only [Act.put, List.setIfInBounds_toArray, List.set_cons_succ, List.set_cons_zero]
  go_wp2_with (first | (refine ldA ar16 rfl rfl rfl K1.out rfl ?_) | (refine ldA ar16 rfl rfl rfl C1.out rfl ?_))
  refine Calls.mono (cy w2).out ?_
  rintro e w3 ⟨v, rfl, O, hb⟩
  have hC := conv_sb O.sb
  obtain ⟨s, cp, rfl, _, _⟩ := O.len
  have hS : bstr [224, 62, 173, 9, 53, 201, 94, 128, 225, 102, 177, 109, 217, 43, 78, 180] = ⟨#[224, 62, 173, 9, 53, 201, 94, 128, 225, 102, 177, 109, 217, 43, 78, 180]⟩ := rfl
  rw [hS] at hC
  have hb : BW w2 w3 := hb
  replace B := Lib.hid (B.out.trans hb)
  replace K1 := Lib.hid (K1.out.bw hb)
  clear hb
  clear cy O hS K1 C1
  dsimp only
  go_wp2_with fail
  go_ret
  exact ⟨rfl, B.out⟩

set_option maxRecDepth 100000 in
set_option maxHeartbeats 8000000 in
theorem first_walk (salt c : List Nat) (s x : Nat) (hs : salt.length = 14) (hsb : Byt salt) (h4 : s < 4294967296) (h6 : x < 18446744073709551616) (hc : c.length = 16) (hcb : Byt c) (w : World) :
    Calls Try.prog 13 #[.agg (ivA .u8 salt), .int .u32 (s : Nat), .int .u64 (x : Nat), .agg (ivA .u8 c)] w fun e w' => e = .returned (.bool true) ∧ Below w.heap.size w w' := by
  have c1 := fun wz => Lib.hid (first_ok salt s x hs (byl_of hsb) h4 h6 wz)
  have c2 := fun wz => Lib.hid (rfirst_ok salt s x hs (byl_of hsb) h4 h6 wz)
  have c3 := fun wz => Lib.hid (next_ok c hc (byl_of hcb) wz)
  have c4 := fun wz => Lib.hid (rplus_ok c 1 1 rfl (by decide) hc (byl_of hcb) wz)
  have hF : (firstN salt s x).length = 16 := xorAt_len _ _ _ _
  have hP := putB_len 16 (numB c + 1)
  have e1 : ∀ w, (Op.equalIn 10000 28 (.agg (ivA .u8 (firstN salt s x))) (.agg (ivA .u8 (firstN salt s x)))).run Try.prog w = .ok true w := fun w => by rw [eq16 _ _ hF hF]; simp
  have e2 : ∀ w, (Op.equalIn 10000 28 (.agg (ivA .u8 (putB 16 (numB c + 1)))) (.agg (ivA .u8 (putB 16 (numB c + 1))))).run Try.prog w = .ok true w := fun w => by rw [eq16 _ _ hP hP]; simp
  clear hF hP
  generalize firstN salt s x = F at *
  generalize putB 16 (numB c + 1) = P at *
  replace hs := Lib.hid hs
  replace hsb := Lib.hid hsb
  replace hc := Lib.hid hc
  replace hcb := Lib.hid hcb
  have B := Lib.hid (BW.refl w)
  go_enter Try.func13, Try.ntmps13
  go_upto_region 1 with (fail)
  have S1 := Lib.hid ((AvB.new w 56 salt).bw ((BW.refl _).alloc (o := .cells (ivA .u8 c) 28)))
  have C1 := Lib.hid (AvB.new (w.alloc (.cells (ivA .u8 salt) 56)) 28 c)
  simp only [World.size_alloc] at C1
  generalize hnm : (w.alloc (.cells (ivA .u8 salt) 56)).alloc (.cells (ivA .u8 c) 28) = w1 at *
  have hb : BW w w1 := (by subst hnm; exact (by repeat (first | exact BW.refl _ | apply BW.alloc | apply BW.drewN | apply BW.drew)))
  replace B := Lib.hid (B.out.trans hb)
  clear hb
  clear hnm
  try simp only [Act.put, List.setIfInBounds_toArray, List.set_cons_succ, List.set_cons_zero]
  refine wp_region_gg [] [] [] (by kernel_rfl) ?_
  refine effect 0 rfl (by kernel_rfl) (by kernel_rfl) rfl (fun x0 K hK => ?_)
  go_simp
  refine Calls.mono (stalive_any x0.now) ?_
  rintro e w2 ⟨rfl, hb⟩
  refine hK _ _ (Still.of_below hb) ?_
  clear hK K
  have hb : BW w1 w2 := (x0.bw.call hb)
  replace B := Lib.hid (B.out.trans hb)
  replace S1 := Lib.hid (S1.out.bw hb)
  replace C1 := Lib.hid (C1.out.bw hb)
  clear hb
  try simp only [Act.put, List.setIfInBounds_toArray, List.set_cons_succ, List.set_cons_zero]
  refine hoist [] [] (a1 := ?_) 1 rfl (by kernel_rfl) (.inl ⟨rfl, rfl⟩) rfl rfl rfl (fun x K hK => ?_) ?_
  rotate_left
  · go_big_quiet_op
    exact hK
  refine hoist [] [] (a1 := ?_) 2 rfl (by kernel_rfl) (.inl ⟨rfl, rfl⟩) rfl rfl rfl (fun x K hK => ?_) ?_
  rotate_left
  · refine qlA ar14 rfl rfl hs.out (fun w' hw => by subst hw; exact S1.out.bw x.bw) (by simp only [Act.put, List.setIfInBounds_toArray, List.set_cons_succ, List.set_cons_zero]; rfl) ?_
    exact hK
  refine hoist [] [] (a1 := ?_) 3 rfl (by kernel_rfl) (.inl ⟨rfl, rfl⟩) rfl rfl rfl (fun x K hK => ?_) ?_
  rotate_left
  · go_big_quiet_op
    exact hK
  refine hoist [] [] (a1 := ?_) 4 rfl (by kernel_rfl) (.inl ⟨rfl, rfl⟩) rfl rfl rfl (fun x K hK => ?_) ?_
  rotate_left
  · go_big_quiet_op
    exact hK
  refine hoist [] [] (a1 := ?_) 6 rfl (by kernel_rfl) (.inl ⟨rfl, rfl⟩) rfl rfl rfl (fun x K hK => ?_) ?_
  rotate_left
  · refine qlA ar14 rfl rfl hs.out (fun w' hw => by subst hw; exact S1.out.bw x.bw) (by simp only [Act.put, List.setIfInBounds_toArray, List.set_cons_succ, List.set_cons_zero]; rfl) ?_
    exact hK
  refine hoist [] [] (a1 := ?_) 7 rfl (by kernel_rfl) (.inl ⟨rfl, rfl⟩) rfl rfl rfl (fun x K hK => ?_) ?_
  rotate_left
  · go_big_quiet_op
    exact hK
  refine hoist [] [] (a1 := ?_) 8 rfl (by kernel_rfl) (.inl ⟨rfl, rfl⟩) rfl rfl rfl (fun x K hK => ?_) ?_
  rotate_left
  · go_big_quiet_op
    exact hK
  refine effect 5 rfl (by kernel_rfl) (by kernel_rfl) rfl (fun x5 K hK => ?_)
  go_simp
  refine Calls.mono (c1 x5.now).out ?_
  rintro e w3 ⟨rfl, hb⟩
  refine hK _ _ (Still.of_below hb) ?_
  clear hK K
  have hb : BW w2 w3 := (x5.bw.call hb)
  replace B := Lib.hid (B.out.trans hb)
  replace S1 := Lib.hid (S1.out.bw hb)
  replace C1 := Lib.hid (C1.out.bw hb)
  clear hb
  try simp only [Act.put, List.setIfInBounds_toArray, List.set_cons_succ, List.set_cons_zero]
  refine effect 9 rfl (by kernel_rfl) (by kernel_rfl) rfl (fun x9 K hK => ?_)
  go_simp
  refine Calls.mono (c2 x9.now).out ?_
  rintro e w4 ⟨rfl, hb⟩
  refine hK _ _ (Still.of_below hb) ?_
  clear hK K
  have hb : BW w3 w4 := (x9.bw.call hb)
  replace B := Lib.hid (B.out.trans hb)
  replace S1 := Lib.hid (S1.out.bw hb)
  replace C1 := Lib.hid (C1.out.bw hb)
  clear hb
  try simp only [Act.put, List.setIfInBounds_toArray, List.set_cons_succ, List.set_cons_zero]
  refine hoist [] [] (a1 := ?_) 10 rfl (by kernel_rfl) (.inl ⟨rfl, rfl⟩) rfl rfl rfl (fun x K hK => ?_) ?_
  rotate_left
  · go_big_quiet_op
    exact hK
  refine hoist [] [] (a1 := ?_) 11 rfl (by kernel_rfl) (.inl ⟨rfl, rfl⟩) rfl rfl rfl (fun x K hK => ?_) ?_
  rotate_left
  · go_big_quiet_op
    exact hK
  refine hoist [] [] (a1 := ?_) 12 rfl (by kernel_rfl) (.inl ⟨rfl, rfl⟩) rfl rfl rfl (fun x K hK => ?_) ?_
  rotate_left
  · go_big_quiet_op
    exact hK
  refine hoist [] [] (a1 := ?_) 13 rfl (by kernel_rfl) (.inl ⟨rfl, rfl⟩) rfl rfl rfl (fun x K hK => ?_) ?_
  rotate_left
  · refine qlA ar16 rfl rfl hc.out (fun w' hw => by subst hw; exact C1.out.bw x.bw) (by simp only [Act.put, List.setIfInBounds_toArray, List.set_cons_succ, List.set_cons_zero]; rfl) ?_
    exact hK
  refine hoist [] [] (a1 := ?_) 15 rfl (by kernel_rfl) (.inl ⟨rfl, rfl⟩) rfl rfl rfl (fun x K hK => ?_) ?_
  rotate_left
  · refine qlA ar16 rfl rfl hc.out (fun w' hw => by subst hw; exact C1.out.bw x.bw) (by simp only [Act.put, List.setIfInBounds_toArray, List.set_cons_succ, List.set_cons_zero]; rfl) ?_
    exact hK
  refine effect 14 rfl (by kernel_rfl) (by kernel_rfl) rfl (fun x14 K hK => ?_)
  go_simp
  refine Calls.mono (c3 x14.now).out ?_
  rintro e w5 ⟨rfl, hb⟩
  refine hK _ _ (Still.of_below hb) ?_
  clear hK K
  have hb : BW w4 w5 := (x14.bw.call hb)
  replace B := Lib.hid (B.out.trans hb)
  replace S1 := Lib.hid (S1.out.bw hb)
  replace C1 := Lib.hid (C1.out.bw hb)
  clear hb
  try simp only [Act.put, List.setIfInBounds_toArray, List.set_cons_succ, List.set_cons_zero]
  refine effect 16 rfl (by kernel_rfl) (by kernel_rfl) rfl (fun x16 K hK => ?_)
  go_simp
  refine Calls.mono (c4 x16.now).out ?_
  rintro e w6 ⟨rfl, hb⟩
  refine hK _ _ (Still.of_below hb) ?_
  clear hK K
  have hb : BW w5 w6 := (x16.bw.call hb)
  replace B := Lib.hid (B.out.trans hb)
  replace S1 := Lib.hid (S1.out.bw hb)
  replace C1 := Lib.hid (C1.out.bw hb)
  clear hb
  try simp only [Act.put, List.setIfInBounds_toArray, List.set_cons_succ, List.set_cons_zero]
  refine hoist [] [] (a1 := ?_) 17 rfl (by kernel_rfl) (.inl ⟨rfl, rfl⟩) rfl rfl rfl (fun x K hK => ?_) ?_
  rotate_left
  · go_big_quiet_op
    exact hK
  refine hoist [] [] (a1 := ?_) 18 rfl (by kernel_rfl) (.inl ⟨rfl, rfl⟩) rfl rfl rfl (fun x K hK => ?_) ?_
  rotate_left
  · go_big_quiet_op
    exact hK
  refine hoist [] [] (a1 := ?_) 19 rfl (by kernel_rfl) (.inl ⟨rfl, rfl⟩) rfl rfl rfl (fun x K hK => ?_) ?_
  rotate_left
  · go_big_quiet_op
    exact hK
  refine done (by kernel_rfl) (fun xr => ?_)
  go_wp2_with fail
  go_ret
  exact ⟨rfl, B.out.trans xr.bw⟩

theorem law_first (cs0 : Array Value) (a1 a2 : Int) (cs3 : Array Value) (w : World) (w0 : Rd w (.block 14 (.label 4)) cs0.toList) (w1 : (Lit.int .u32 a1).wf = true) (w2 : (Lit.int .u64 a2).wf = true) (w3 : Rd w (.block 16 (.label 4)) cs3.toList) :
    Calls Try.prog 13 #[.agg cs0, .int .u32 a1, .int .u64 a2, .agg cs3] w fun e w' => e = .returned (.bool true) ∧ Below w.heap.size w w' := by
  obtain ⟨k, rfl, hk, hB⟩ := ivA_of_Rd w0
  obtain ⟨c, rfl, hc, hC⟩ := ivA_of_Rd w3
  have b1 := bounds_u32 w1
  have b2 := bounds_u64 w2
  obtain ⟨s, rfl⟩ := Int.eq_ofNat_of_zero_le b1.1
  obtain ⟨x, rfl⟩ := Int.eq_ofNat_of_zero_le b2.1
  exact first_walk k c s x hk hB (by omega) (by omega) hc hC w
end Go.Proofs.Ytjjemkfkpnemoaa
