/- The laws KeysDerive, KeysAll. No condition. -/
import Derived.Test.YtjjemkfkpnemoaaKyX
import Derived.Test.YtjjemkfkpnemoaaEqS
namespace Go.Proofs.Ytjjemkfkpnemoaa
open Go.RowKit

theorem eq14 (a b : List Nat) (ha : a.length = 14) (hb : b.length = 14) (w : World) : (Op.equalIn 10000 56 (.agg (ivA .u8 a)) (.agg (ivA .u8 b))).run Try.prog w = .ok (a == b) w :=
  run_equalIn_ivA 9998 56 5 14 .u8 a b Try.underlying56 Try.underlying5 infou8 ha hb w

set_option maxRecDepth 100000 in
set_option maxHeartbeats 8000000 in
theorem kyalive_any (w : World) : Calls Try.prog 37 #[] w fun e w' => e = .returned (.bool true) ∧ Below w.heap.size w w' := by
  have ck := fun wz => Lib.hid (krtp_ok kM sM rfl (by unfold ByL; decide) rfl (by unfold ByL; decide) wz)
  have hl := Lib.hid (keysN_len kM sM 0)
  have e1 := Lib.hid keys_E.1
  have e2 := Lib.hid keys_E.2
  generalize keysN kM sM 0 = R at *
  have q1 : ∀ w, (Op.equalIn 10000 28 (.agg (ivA .u8 kX)) (.agg #[.int .u8 198, .int .u8 30, .int .u8 122, .int .u8 147, .int .u8 116, .int .u8 79, .int .u8 57, .int .u8 238, .int .u8 16, .int .u8 115, .int .u8 74, .int .u8 254, .int .u8 63, .int .u8 247, .int .u8 160, .int .u8 135])).run Try.prog w = .ok true w := fun w => by
    have h := eq16 kX kX rfl rfl w
    rw [show (kX == kX) = true by simp] at h
    exact h
  have q2 : ∀ w, (Op.equalIn 10000 56 (.agg (ivA .u8 sX)) (.agg #[.int .u8 48, .int .u8 203, .int .u8 188, .int .u8 8, .int .u8 134, .int .u8 61, .int .u8 140, .int .u8 133, .int .u8 212, .int .u8 157, .int .u8 179, .int .u8 74, .int .u8 154, .int .u8 225])).run Try.prog w = .ok true w := fun w => by
    have h := eq14 sX sX rfl rfl w
    rw [show (sX == sX) = true by simp] at h
    exact h
  have B := Lib.hid (BW.refl w)
  go_enter Try.func37, Try.ntmps37
  go_upto_region 2 with (first | (refine alA ar30 rfl rfl ?_) | (refine stN ar30 rfl rfl rfl (show _ = Value.agg (ivA .u8 (kM ++ sM)) from rfl) rfl ?_))
  have M0 := Lib.hid ((AvB.new w 58 (kM ++ sM)).bw (show BW (w.alloc (.cells (ivA .u8 (kM ++ sM)) 58)) (w.alloc (.cells (ivA .u8 (kM ++ sM)) 58)) from (by repeat (first | exact BW.refl _ | apply BW.alloc | apply BW.drewN | apply BW.drew))))
  generalize hnm : (w.alloc (.cells (ivA .u8 (kM ++ sM)) 58)) = w1 at *
  have hb : BW w w1 := (by subst hnm; exact (by repeat (first | exact BW.refl _ | apply BW.alloc | apply BW.drewN | apply BW.drew)))
  replace B := Lib.hid (B.out.trans hb)
  clear hb
  clear hnm
  try simp only [World.size_alloc]
  go_wp2_with (refine ldA ar30 rfl rfl rfl M0.out rfl ?_)
  refine Calls.mono (ck w1).out ?_
  rintro e w2 ⟨rfl, hb⟩
  have hb : BW w1 w2 := hb
  replace B := Lib.hid (B.out.trans hb)
  replace M0 := Lib.hid (M0.out.bw hb)
  clear hb
  dsimp only
  go_upto_region 3 with (first | (refine alA ar50 rfl rfl ?_) | (refine stN ar50 rfl rfl rfl rfl hl.out ?_))
  have R0 := Lib.hid ((AvB.new w2 62 R).bw (show BW (w2.alloc (.cells (ivA .u8 R) 62)) (w2.alloc (.cells (ivA .u8 R) 62)) from (by repeat (first | exact BW.refl _ | apply BW.alloc | apply BW.drewN | apply BW.drew))))
  generalize hnm : (w2.alloc (.cells (ivA .u8 R) 62)) = w3 at *
  have hb : BW w2 w3 := (by subst hnm; exact (by repeat (first | exact BW.refl _ | apply BW.alloc | apply BW.drewN | apply BW.drew)))
  replace B := Lib.hid (B.out.trans hb)
  replace M0 := Lib.hid (M0.out.bw hb)
  clear hb
  clear hnm
  try simp only [World.size_alloc]
  try simp only [Act.put, List.setIfInBounds_toArray, List.set_cons_succ, List.set_cons_zero]
  go_wp2_with (first | (refine ldM ar16 rfl rfl (by rfl) R0.out (by rw [hl.out]; decide) ?_; rw [e1.out]) | (refine ldMg ar14 (by rfl) rfl (by rfl) R0.out (by rw [hl.out]; decide) ?_; rw [e2.out]))
  go_ret
  exact ⟨rfl, B.out⟩

theorem eq50 (a : List Nat) (ha : a.length = 50) (w : World) : (Op.equalIn 10000 62 (.agg (ivA .u8 a)) (.agg (ivA .u8 a))).run Try.prog w = .ok true w :=
  equal_self 62 a (by kernel_rfl) (by kernel_rfl) (by rw [ha]; kernel_rfl) w

set_option maxRecDepth 100000 in
set_option maxHeartbeats 8000000 in
theorem keysall_walk (key salt : List Nat) (hk : key.length = 16) (hkb : ByL key) (hs : salt.length = 14) (hsb : ByL salt) (w : World) :
    Calls Try.prog 12 #[.agg (ivA .u8 (key ++ salt))] w fun e w' => e = .returned (.bool true) ∧ Below w.heap.size w w' := by
  have c1 := fun wz => Lib.hid (krtp_ok key salt hk hkb hs hsb wz)
  have c2 := fun wz => Lib.hid (rkeys_ok key salt 0 (by decide) hk hkb hs hsb wz)
  have c3 := fun wz => Lib.hid (krtcp_ok key salt hk hkb hs hsb wz)
  have c4 := fun wz => Lib.hid (rkeys_ok key salt 3 (by decide) hk hkb hs hsb wz)
  have e1 := eq50 _ (keysN_len key salt 0)
  have e2 := eq50 _ (keysN_len key salt 3)
  have hKl : Hid ((key ++ salt).length = 30) := by simp [Hid, hk, hs]
  generalize keysN key salt 0 = R0 at *
  generalize keysN key salt 3 = R3 at *
  generalize key ++ salt = K at *
  replace hk := Lib.hid hk
  replace hkb := Lib.hid hkb
  replace hs := Lib.hid hs
  replace hsb := Lib.hid hsb
  have B := Lib.hid (BW.refl w)
  go_enter Try.func12, Try.ntmps12
  go_upto_region 1 with (fail)
  have M0 := Lib.hid ((AvB.new w 58 K).bw (show BW (w.alloc (.cells (ivA .u8 K) 58)) (w.alloc (.cells (ivA .u8 K) 58)) from (by repeat (first | exact BW.refl _ | apply BW.alloc | apply BW.drewN | apply BW.drew))))
  generalize hnm : (w.alloc (.cells (ivA .u8 K) 58)) = w1 at *
  have hb : BW w w1 := (by subst hnm; exact (by repeat (first | exact BW.refl _ | apply BW.alloc | apply BW.drewN | apply BW.drew)))
  replace B := Lib.hid (B.out.trans hb)
  clear hb
  clear hnm
  try simp only [World.size_alloc]
  try simp only [Act.put, List.setIfInBounds_toArray, List.set_cons_succ, List.set_cons_zero]
  refine wp_region_gg [] [] [] (by kernel_rfl) ?_
  refine effect 0 rfl (by kernel_rfl) (by kernel_rfl) rfl (fun x0 K hK => ?_)
  go_simp
  refine Calls.mono (kyalive_any x0.now) ?_
  rintro e w10 ⟨rfl, hb⟩
  refine hK _ _ (Still.of_below hb) ?_
  clear hK K
  have hb : BW w1 w10 := (x0.bw.call hb)
  replace B := Lib.hid (B.out.trans hb)
  replace M0 := Lib.hid (M0.out.bw hb)
  clear hb
  try simp only [Act.put, List.setIfInBounds_toArray, List.set_cons_succ, List.set_cons_zero]
  refine hoist [] [] (a1 := ?_) 1 rfl (by kernel_rfl) (.inl ⟨rfl, rfl⟩) rfl rfl rfl (fun x K hK => ?_) ?_
  rotate_left
  · go_big_quiet_op
    exact hK
  refine hoist [] [] (a1 := ?_) 2 rfl (by kernel_rfl) (.inl ⟨rfl, rfl⟩) rfl rfl rfl (fun x K hK => ?_) ?_
  rotate_left
  · refine qlA ar30 rfl (by rfl) hKl.out (fun w' hw => by subst hw; exact M0.out.bw x.bw) (by simp only [Act.put, List.setIfInBounds_toArray, List.set_cons_succ, List.set_cons_zero]; rfl) ?_
    exact hK
  refine hoist [] [] (a1 := ?_) 4 rfl (by kernel_rfl) (.inl ⟨rfl, rfl⟩) rfl rfl rfl (fun x K hK => ?_) ?_
  rotate_left
  · refine qlA ar30 rfl (by rfl) hKl.out (fun w' hw => by subst hw; exact M0.out.bw x.bw) (by simp only [Act.put, List.setIfInBounds_toArray, List.set_cons_succ, List.set_cons_zero]; rfl) ?_
    exact hK
  refine effect 3 rfl (by kernel_rfl) (by kernel_rfl) rfl (fun x3 K hK => ?_)
  go_simp
  refine Calls.mono (c1 x3.now).out ?_
  rintro e w13 ⟨rfl, hb⟩
  refine hK _ _ (Still.of_below hb) ?_
  clear hK K
  have hb : BW w10 w13 := (x3.bw.call hb)
  replace B := Lib.hid (B.out.trans hb)
  replace M0 := Lib.hid (M0.out.bw hb)
  clear hb
  try simp only [Act.put, List.setIfInBounds_toArray, List.set_cons_succ, List.set_cons_zero]
  refine effect 5 rfl (by kernel_rfl) (by kernel_rfl) rfl (fun x5 K hK => ?_)
  go_simp
  refine Calls.mono (c2 x5.now).out ?_
  rintro e w15 ⟨rfl, hb⟩
  refine hK _ _ (Still.of_below hb) ?_
  clear hK K
  have hb : BW w13 w15 := (x5.bw.call hb)
  replace B := Lib.hid (B.out.trans hb)
  replace M0 := Lib.hid (M0.out.bw hb)
  clear hb
  try simp only [Act.put, List.setIfInBounds_toArray, List.set_cons_succ, List.set_cons_zero]
  refine hoist [] [] (a1 := ?_) 6 rfl (by kernel_rfl) (.inl ⟨rfl, rfl⟩) rfl rfl rfl (fun x K hK => ?_) ?_
  rotate_left
  · go_big_quiet_op
    exact hK
  refine hoist [] [] (a1 := ?_) 7 rfl (by kernel_rfl) (.inl ⟨rfl, rfl⟩) rfl rfl rfl (fun x K hK => ?_) ?_
  rotate_left
  · go_big_quiet_op
    exact hK
  refine hoist [] [] (a1 := ?_) 8 rfl (by kernel_rfl) (.inl ⟨rfl, rfl⟩) rfl rfl rfl (fun x K hK => ?_) ?_
  rotate_left
  · go_big_quiet_op
    exact hK
  refine hoist [] [] (a1 := ?_) 9 rfl (by kernel_rfl) (.inl ⟨rfl, rfl⟩) rfl rfl rfl (fun x K hK => ?_) ?_
  rotate_left
  · refine qlA ar30 rfl (by rfl) hKl.out (fun w' hw => by subst hw; exact M0.out.bw x.bw) (by simp only [Act.put, List.setIfInBounds_toArray, List.set_cons_succ, List.set_cons_zero]; rfl) ?_
    exact hK
  refine hoist [] [] (a1 := ?_) 11 rfl (by kernel_rfl) (.inl ⟨rfl, rfl⟩) rfl rfl rfl (fun x K hK => ?_) ?_
  rotate_left
  · refine qlA ar30 rfl (by rfl) hKl.out (fun w' hw => by subst hw; exact M0.out.bw x.bw) (by simp only [Act.put, List.setIfInBounds_toArray, List.set_cons_succ, List.set_cons_zero]; rfl) ?_
    exact hK
  refine effect 10 rfl (by kernel_rfl) (by kernel_rfl) rfl (fun x10 K hK => ?_)
  go_simp
  refine Calls.mono (c3 x10.now).out ?_
  rintro e w20 ⟨rfl, hb⟩
  refine hK _ _ (Still.of_below hb) ?_
  clear hK K
  have hb : BW w15 w20 := (x10.bw.call hb)
  replace B := Lib.hid (B.out.trans hb)
  replace M0 := Lib.hid (M0.out.bw hb)
  clear hb
  try simp only [Act.put, List.setIfInBounds_toArray, List.set_cons_succ, List.set_cons_zero]
  refine effect 12 rfl (by kernel_rfl) (by kernel_rfl) rfl (fun x12 K hK => ?_)
  go_simp
  refine Calls.mono (c4 x12.now).out ?_
  rintro e w22 ⟨rfl, hb⟩
  refine hK _ _ (Still.of_below hb) ?_
  clear hK K
  have hb : BW w20 w22 := (x12.bw.call hb)
  replace B := Lib.hid (B.out.trans hb)
  replace M0 := Lib.hid (M0.out.bw hb)
  clear hb
  try simp only [Act.put, List.setIfInBounds_toArray, List.set_cons_succ, List.set_cons_zero]
  refine hoist [] [] (a1 := ?_) 13 rfl (by kernel_rfl) (.inl ⟨rfl, rfl⟩) rfl rfl rfl (fun x K hK => ?_) ?_
  rotate_left
  · go_big_quiet_op
    exact hK
  refine hoist [] [] (a1 := ?_) 14 rfl (by kernel_rfl) (.inl ⟨rfl, rfl⟩) rfl rfl rfl (fun x K hK => ?_) ?_
  rotate_left
  · go_big_quiet_op
    exact hK
  refine hoist [] [] (a1 := ?_) 15 rfl (by kernel_rfl) (.inl ⟨rfl, rfl⟩) rfl rfl rfl (fun x K hK => ?_) ?_
  rotate_left
  · go_big_quiet_op
    exact hK
  refine done (by kernel_rfl) (fun xr => ?_)
  go_wp2_with fail
  go_ret
  exact ⟨rfl, B.out.trans xr.bw⟩
end Go.Proofs.Ytjjemkfkpnemoaa
