/- The law StreamCiphers. No condition. -/
import Derived.Test.YtjjemkfkpnemoaaStL
namespace Go.Proofs.Ytjjemkfkpnemoaa
open Go.RowKit

set_option maxRecDepth 100000 in
set_option maxHeartbeats 8000000 in
theorem ciphers_walk (key c b : List Nat) (sb : Option Addr) (n cb : Nat) (hk : key.length = 16) (hkb : Byt key) (hc : c.length = 16) (hcb : Byt c) (w : World) (hv : SB w (.slice sb n cb) n b) :
    Calls Try.prog 10 #[.agg (ivA .u8 key), .agg (ivA .u8 c), .slice sb n cb] w fun e w' => e = .returned (.bool true) ∧ Below w.heap.size w w' := by
  have c1 := fun (hn : n ≤ 400) wz hv => Lib.hid (cipher_ok key c b sb n cb hk hkb hc (byl_of hcb) (by omega) wz hv)
  have c2 := fun (hn : n ≤ 400) wz hv => Lib.hid (rcipher_ok key c b sb n cb hk hkb hc (byl_of hcb) (by omega) wz hv)
  have c3 := fun (hn : n ≤ 400) sx cx wz hv => Lib.hid (cipher_ok key c (cipN (wordsN key) (numB c) b) sx n cx hk hkb hc (byl_of hcb) (by omega) wz hv)
  rw [cipN_twice] at c3
  generalize cipN (wordsN key) (numB c) b = X at *
  have C0 := fun wz hv => conv_sb (w := wz) (v := .slice sb n cb) (n := n) (l := b) hv
  generalize hS : bstr b = S at *
  generalize hSX : bstr X = SX at *
  have u := hv.unpack
  have u1 := u.1
  have u2 := u.2.1
  clear u
  replace hk := Lib.hid hk
  replace hkb := Lib.hid hkb
  replace hc := Lib.hid hc
  replace hcb := Lib.hid hcb
  replace hv := Lib.hid hv
  replace hSX := Lib.hid hSX
  replace C0 := Lib.hid C0
  replace hS := Lib.hid hS
  have B := Lib.hid (BW.refl w)
  go_enter Try.func10, Try.ntmps10
  go_upto_region 1 with (fail)
  have K1 := Lib.hid ((AvB.new w 28 key).bw (show BW (w.alloc (.cells (ivA .u8 key) 28)) ((w.alloc (.cells (ivA .u8 key) 28)).alloc (.cells (ivA .u8 c) 28)) from (by repeat (first | exact BW.refl _ | apply BW.alloc | apply BW.drewN | apply BW.drew))))
  have C1 := Lib.hid ((AvB.new (w.alloc (.cells (ivA .u8 key) 28)) 28 c).bw (show BW ((w.alloc (.cells (ivA .u8 key) 28)).alloc (.cells (ivA .u8 c) 28)) ((w.alloc (.cells (ivA .u8 key) 28)).alloc (.cells (ivA .u8 c) 28)) from (by repeat (first | exact BW.refl _ | apply BW.alloc | apply BW.drewN | apply BW.drew))))
  simp only [World.size_alloc] at C1
  generalize hnm : ((w.alloc (.cells (ivA .u8 key) 28)).alloc (.cells (ivA .u8 c) 28)) = w1 at *
  have hb : BW w w1 := (by subst hnm; exact (by repeat (first | exact BW.refl _ | apply BW.alloc | apply BW.drewN | apply BW.drew)))
  replace B := Lib.hid (B.out.trans hb)
  clear hb
  clear hnm
  try simp only [World.size_alloc]
  go_wp2_with fail
  refine Calls.mono (stalive_any w1) ?_
  rintro e w2 ⟨rfl, hb⟩
  replace hb : BW w1 w2 := BW.call (by repeat (first | exact BW.refl _ | apply BW.alloc | apply BW.drewN | apply BW.drew)) hb
  replace B := Lib.hid (B.out.trans hb)
  replace K1 := Lib.hid (K1.out.bw hb)
  replace C1 := Lib.hid (C1.out.bw hb)
  clear hb
  dsimp only
  by_cases h4 : 400 < n
  · have d : (400 : Int) < n := by omega
    go_wp2_with fail
    go_ret
    exact ⟨rfl, B.out⟩
  have d : ¬ (400 : Int) < n := by omega
  have D0 := C0.out w2 (hv.out.bw B.out)
  go_upto_region 6 with (fail)
  clear D0
  go_wp2_with (first | (refine ldA ar16 rfl rfl rfl K1.out hk.out ?_) | (refine ldA ar16 rfl rfl rfl C1.out hc.out ?_))
  refine Calls.mono (c1 (by omega) w2 (hv.out.bw B.out)).out ?_
  rintro e w3 ⟨v3, rfl, O3, hb⟩
  obtain ⟨s3, p3, rfl, _, _⟩ := O3.len
  have hb : BW w2 w3 := hb
  replace B := Lib.hid (B.out.trans hb)
  replace K1 := Lib.hid (K1.out.bw hb)
  replace C1 := Lib.hid (C1.out.bw hb)
  clear hb
  replace O3 := Lib.hid O3
  clear c1
  dsimp only
  go_upto_region 7 with (fail)
  have D1 : ∀ y : LaterS [] w3, _ := fun y => conv_sb (O3.out.bw y.bw).sb
  rw [hSX.out] at D1
  have D2 : ∀ y : LaterS [] w3, _ := fun y => C0.out y.now (hv.out.bw (B.out.trans y.bw))
  try simp only [Act.put, List.setIfInBounds_toArray, List.set_cons_succ, List.set_cons_zero]
  refine wp_region_gg [] [] [] (by kernel_rfl) ?_
  refine hoist [] [] (a1 := ?_) 0 rfl (by kernel_rfl) (.inl ⟨rfl, rfl⟩) rfl rfl rfl (fun x K hK => ?_) ?_
  rotate_left
  · go_big_quiet_op
    exact hK
  refine hoist [] [] (a1 := ?_) 1 rfl (by kernel_rfl) (.inl ⟨rfl, rfl⟩) rfl rfl rfl (fun x K hK => ?_) ?_
  rotate_left
  · go_big_quiet_op
    exact hK
  refine hoist [] [] (a1 := ?_) 2 rfl (by kernel_rfl) (.inl ⟨rfl, rfl⟩) rfl rfl rfl (fun x K hK => ?_) ?_
  rotate_left
  · refine qlA ar16 rfl rfl hk.out (fun w' hw => by subst hw; exact K1.out.bw x.bw) (by simp only [Act.put, List.setIfInBounds_toArray, List.set_cons_succ, List.set_cons_zero]; rfl) ?_
    exact hK
  refine hoist [] [] (a1 := ?_) 3 rfl (by kernel_rfl) (.inl ⟨rfl, rfl⟩) rfl rfl rfl (fun x K hK => ?_) ?_
  rotate_left
  · refine qlA ar16 rfl rfl hc.out (fun w' hw => by subst hw; exact C1.out.bw x.bw) (by simp only [Act.put, List.setIfInBounds_toArray, List.set_cons_succ, List.set_cons_zero]; rfl) ?_
    exact hK
  refine hoist [] [] (a1 := ?_) 4 rfl (by kernel_rfl) (.inl ⟨rfl, rfl⟩) rfl rfl rfl (fun x K hK => ?_) ?_
  rotate_left
  · go_big_quiet_op
    exact hK
  refine effect 5 rfl (by kernel_rfl) (by kernel_rfl) rfl (fun x5 K hK => ?_)
  go_simp
  refine Calls.mono (c2 (by omega) x5.now (hv.out.bw (B.out.trans x5.bw))).out ?_
  rintro e w4 ⟨v4, rfl, O4, hb⟩
  obtain ⟨s4, p4, rfl, _, _⟩ := O4.len
  refine hK _ _ (Still.of_below hb) ?_
  clear hK K c2 D1 D2
  have hb : BW w3 w4 := (x5.bw.call hb)
  replace B := Lib.hid (B.out.trans hb)
  replace K1 := Lib.hid (K1.out.bw hb)
  replace C1 := Lib.hid (C1.out.bw hb)
  replace O3 := Lib.hid (O3.out.bw hb)
  clear hb
  have D4 : ∀ y : LaterS [] w4, _ := fun y => conv_sb (O4.bw y.bw).sb
  rw [hSX.out] at D4
  clear O4
  try simp only [Act.put, List.setIfInBounds_toArray, List.set_cons_succ, List.set_cons_zero]
  refine hoist [] [] (a1 := ?_) 6 rfl (by kernel_rfl) (.inl ⟨rfl, rfl⟩) rfl rfl rfl (fun x K hK => ?_) ?_
  rotate_left
  · go_big_quiet_op
    exact hK
  refine hoist [] [] (a1 := ?_) 7 rfl (by kernel_rfl) (.inl ⟨rfl, rfl⟩) rfl rfl rfl (fun x K hK => ?_) ?_
  rotate_left
  · go_big_quiet_op
    exact hK
  refine hoist [] [] (a1 := ?_) 8 rfl (by kernel_rfl) (.inl ⟨rfl, rfl⟩) rfl rfl rfl (fun x K hK => ?_) ?_
  rotate_left
  · go_big_quiet_op
    exact hK
  refine hoist [] [] (a1 := ?_) 9 rfl (by kernel_rfl) (.inl ⟨rfl, rfl⟩) rfl rfl rfl (fun x K hK => ?_) ?_
  rotate_left
  · refine qlA ar16 rfl rfl hk.out (fun w' hw => by subst hw; exact K1.out.bw x.bw) (by simp only [Act.put, List.setIfInBounds_toArray, List.set_cons_succ, List.set_cons_zero]; rfl) ?_
    exact hK
  refine hoist [] [] (a1 := ?_) 10 rfl (by kernel_rfl) (.inl ⟨rfl, rfl⟩) rfl rfl rfl (fun x K hK => ?_) ?_
  rotate_left
  · refine qlA ar16 rfl rfl hc.out (fun w' hw => by subst hw; exact C1.out.bw x.bw) (by simp only [Act.put, List.setIfInBounds_toArray, List.set_cons_succ, List.set_cons_zero]; rfl) ?_
    exact hK
  refine hoist [] [] (a1 := ?_) 11 rfl (by kernel_rfl) (.inl ⟨rfl, rfl⟩) rfl rfl rfl (fun x K hK => ?_) ?_
  rotate_left
  · go_big_quiet_op
    exact hK
  refine hoist [] [] (a1 := ?_) 14 rfl (by kernel_rfl) (.inl ⟨rfl, rfl⟩) rfl rfl rfl (fun x K hK => ?_) ?_
  rotate_left
  · go_big_quiet_op
    exact hK
  refine effect 12 rfl (by kernel_rfl) (by kernel_rfl) rfl (fun x12 K hK => ?_)
  go_simp
  refine Calls.mono (c3 (by omega) s3 p3 x12.now (O3.out.bw x12.bw).sb).out ?_
  rintro e w5 ⟨v5, rfl, O5, hb⟩
  obtain ⟨s5, p5, rfl, _, _⟩ := O5.len
  refine hK _ _ (Still.of_below hb) ?_
  clear hK K c3 D4
  have hb : BW w4 w5 := (x12.bw.call hb)
  replace B := Lib.hid (B.out.trans hb)
  replace K1 := Lib.hid (K1.out.bw hb)
  replace C1 := Lib.hid (C1.out.bw hb)
  replace O3 := Lib.hid (O3.out.bw hb)
  clear hb
  have D5 : ∀ y : LaterS [] w5, _ := fun y => conv_sb (O5.bw y.bw).sb
  rw [hS.out] at D5
  have D6 : ∀ y : LaterS [] w5, _ := fun y => C0.out y.now (hv.out.bw (B.out.trans y.bw))
  clear O5
  try simp only [Act.put, List.setIfInBounds_toArray, List.set_cons_succ, List.set_cons_zero]
  refine hoist [] [] (a1 := ?_) 13 rfl (by kernel_rfl) (.inl ⟨rfl, rfl⟩) rfl rfl rfl (fun x K hK => ?_) ?_
  rotate_left
  · go_big_quiet_op
    exact hK
  refine hoist [] [] (a1 := ?_) 15 rfl (by kernel_rfl) (.inl ⟨rfl, rfl⟩) rfl rfl rfl (fun x K hK => ?_) ?_
  rotate_left
  · go_big_quiet_op
    exact hK
  refine hoist [] [] (a1 := ?_) 16 rfl (by kernel_rfl) (.inl ⟨rfl, rfl⟩) rfl rfl rfl (fun x K hK => ?_) ?_
  rotate_left
  · go_big_quiet_op
    exact hK
  refine hoist [] [] (a1 := ?_) 17 rfl (by kernel_rfl) (.inl ⟨rfl, rfl⟩) rfl rfl rfl (fun x K hK => ?_) ?_
  rotate_left
  · go_big_quiet_op
    exact hK
  refine hoist [] [] (a1 := ?_) 18 rfl (by kernel_rfl) (.inl ⟨rfl, rfl⟩) rfl rfl rfl (fun x K hK => ?_) ?_
  rotate_left
  · go_big_quiet_op
    exact hK
  refine hoist [] [] (a1 := ?_) 19 rfl (by kernel_rfl) (.inl ⟨rfl, rfl⟩) rfl rfl rfl (fun x K hK => ?_) ?_
  rotate_left
  · go_big_quiet_op
    exact hK
  refine hoist [] [] (a1 := ?_) 20 rfl (by kernel_rfl) (.inl ⟨rfl, rfl⟩) rfl rfl rfl (fun x K hK => ?_) ?_
  rotate_left
  · go_big_quiet_op
    exact hK
  refine hoist [] [] (a1 := ?_) 21 rfl (by kernel_rfl) (.inl ⟨rfl, rfl⟩) rfl rfl rfl (fun x K hK => ?_) ?_
  rotate_left
  · go_big_quiet_op
    exact hK
  refine hoist [] [] (a1 := ?_) 22 rfl (by kernel_rfl) (.inl ⟨rfl, rfl⟩) rfl rfl rfl (fun x K hK => ?_) ?_
  rotate_left
  · go_big_quiet_op
    exact hK
  refine hoist [] [] (a1 := ?_) 23 rfl (by kernel_rfl) (.inl ⟨rfl, rfl⟩) rfl rfl rfl (fun x K hK => ?_) ?_
  rotate_left
  · go_big_quiet_op
    exact hK
  refine done (by kernel_rfl) (fun xr => ?_)
  go_wp2_with fail
  go_ret
  exact ⟨rfl, B.out.trans xr.bw⟩

theorem law_ciphers (cs0 cs1 : Array Value) (a2 : Option Addr) (len2 cap2 : Nat) (w : World) (w0 : Rd w (.block 16 (.label 4)) cs0.toList) (w1 : Rd w (.block 16 (.label 4)) cs1.toList) (w2 : Rd w (.loop (.label 4)) [.slice a2 len2 cap2]) :
    Calls Try.prog 10 #[.agg cs0, .agg cs1, .slice a2 len2 cap2] w fun e w' => e = .returned (.bool true) ∧ Below w.heap.size w w' := by
  obtain ⟨k, rfl, hk, hB⟩ := ivA_of_Rd w0
  obtain ⟨c, rfl, hc, hC⟩ := ivA_of_Rd w1
  obtain ⟨b, hb⟩ := SB_of_Rd w2
  exact ciphers_walk k c b a2 len2 cap2 hk hB hc hC w hb
end Go.Proofs.Ytjjemkfkpnemoaa
