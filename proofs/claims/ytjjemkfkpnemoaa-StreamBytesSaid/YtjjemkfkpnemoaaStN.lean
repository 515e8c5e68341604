/- The law StreamBytes. No condition. -/
import Derived.Test.YtjjemkfkpnemoaaStM
namespace Go.Proofs.Ytjjemkfkpnemoaa
open Go.RowKit

set_option maxRecDepth 100000 in
set_option maxHeartbeats 8000000 in
theorem streambytes_walk (key c : List Nat) (n m : Int) (n1 : -9223372036854775808 ≤ n) (n2 : n ≤ 9223372036854775807) (m1 : -9223372036854775808 ≤ m) (m2 : m ≤ 9223372036854775807) (hk : key.length = 16) (hkb : Byt key) (hc : c.length = 16) (hcb : Byt c) (w : World) :
    Calls Try.prog 9 #[.agg (ivA .u8 key), .agg (ivA .u8 c), .int .i64 n, .int .i64 m] w fun e w' => e = .returned (.bool true) ∧ Below w.heap.size w w' := by
  have c1 := fun wz => Lib.hid (bytes_ok key c n n1 n2 hk hkb hc (byl_of hcb) wz)
  have c2 := fun wz => Lib.hid (bytes_ok key c m m1 m2 hk hkb hc (byl_of hcb) wz)
  have c3 := fun (N : Nat) (hN : N ≤ 600) sx cx wz hv => Lib.hid (rcipher_ok key c (zeros N) sx N cx hk hkb hc (byl_of hcb) (by omega) wz hv)
  generalize hWW : wordsN key = W at *
  generalize hxx : numB c = x at *
  replace hk := Lib.hid hk
  replace hkb := Lib.hid hkb
  replace hc := Lib.hid hc
  replace hcb := Lib.hid hcb
  replace hWW := Lib.hid hWW
  replace hxx := Lib.hid hxx
  have B := Lib.hid (BW.refl w)
  go_enter Try.func9, Try.ntmps9
  go_upto_region 1 with (fail)
  have K1 := Lib.hid ((AvB.new w 28 key).bw (show BW (w.alloc (.cells (ivA .u8 key) 28)) ((w.alloc (.cells (ivA .u8 key) 28)).alloc (.cells (ivA .u8 c) 28)) from (by repeat (first | exact BW.refl _ | apply BW.alloc | apply BW.drewN | apply BW.drew))))
  have C1 := Lib.hid ((AvB.new (w.alloc (.cells (ivA .u8 key) 28)) 28 c).bw (show BW ((w.alloc (.cells (ivA .u8 key) 28)).alloc (.cells (ivA .u8 c) 28)) ((w.alloc (.cells (ivA .u8 key) 28)).alloc (.cells (ivA .u8 c) 28)) from (by repeat (first | exact BW.refl _ | apply BW.alloc | apply BW.drewN | apply BW.drew))))
  simp only [World.size_alloc] at C1
  generalize hnm : ((w.alloc (.cells (ivA .u8 key) 28)).alloc (.cells (ivA .u8 c) 28)) = w1 at *
  have hb : BW w w1 := (by subst hnm; exact (by repeat (first | exact BW.refl _ | apply BW.alloc | apply BW.drewN | apply BW.drew)))
  replace B := Lib.hid (B.out.trans hb)
  clear hb
  clear hnm
  try simp only [World.size_alloc]
  go_wp2_with fail
  refine Calls.mono (stalive_any w1) ?_
  rintro e w2 ⟨rfl, hb⟩
  replace hb : BW w1 w2 := BW.call (by repeat (first | exact BW.refl _ | apply BW.alloc | apply BW.drewN | apply BW.drew)) hb
  replace B := Lib.hid (B.out.trans hb)
  replace K1 := Lib.hid (K1.out.bw hb)
  replace C1 := Lib.hid (C1.out.bw hb)
  clear hb
  dsimp only
  by_cases hn : 600 < n
  · go_wp2_with fail
    go_ret
    exact ⟨rfl, B.out⟩
  by_cases hm : 600 < m
  · go_wp2_with fail
    go_ret
    exact ⟨rfl, B.out⟩
  go_upto_region 5 with (fail)
  obtain ⟨N, hN⟩ : ∃ N, min n.toNat 4096 = N := ⟨_, rfl⟩
  obtain ⟨M, hM⟩ : ∃ M, min m.toNat 4096 = M := ⟨_, rfl⟩
  rw [hN] at c1
  rw [hM] at c2
  have hNM : N ≤ M → (strm W x M).take N = strm W x N := fun h => strm_take W x M N h
  have hz := cipN_zeros W x N
  generalize hTN : strm W x N = TN at *
  generalize hTM : strm W x M = TM at *
  replace hN := Lib.hid hN
  replace hM := Lib.hid hM
  replace hTN := Lib.hid hTN
  replace hTM := Lib.hid hTM
  replace hNM := Lib.hid hNM
  replace hz := Lib.hid hz
  try simp only [Act.put, List.setIfInBounds_toArray, List.set_cons_succ, List.set_cons_zero]
  refine wp_region_gg [] [] [] (by kernel_rfl) ?_
  refine hoist [] [] (a1 := ?_) 0 rfl (by kernel_rfl) (.inl ⟨rfl, rfl⟩) rfl rfl rfl (fun x K hK => ?_) ?_
  rotate_left
  · refine qlA ar16 rfl rfl hk.out (fun w' hw => by subst hw; exact K1.out.bw x.bw) (by simp only [Act.put, List.setIfInBounds_toArray, List.set_cons_succ, List.set_cons_zero]; rfl) ?_
    exact hK
  refine hoist [] [] (a1 := ?_) 1 rfl (by kernel_rfl) (.inl ⟨rfl, rfl⟩) rfl rfl rfl (fun x K hK => ?_) ?_
  rotate_left
  · refine qlA ar16 rfl rfl hc.out (fun w' hw => by subst hw; exact C1.out.bw x.bw) (by simp only [Act.put, List.setIfInBounds_toArray, List.set_cons_succ, List.set_cons_zero]; rfl) ?_
    exact hK
  refine hoist [] [] (a1 := ?_) 2 rfl (by kernel_rfl) (.inl ⟨rfl, rfl⟩) rfl rfl rfl (fun x K hK => ?_) ?_
  rotate_left
  · go_big_quiet_op
    exact hK
  refine hoist [] [] (a1 := ?_) 4 rfl (by kernel_rfl) (.inl ⟨rfl, rfl⟩) rfl rfl rfl (fun x K hK => ?_) ?_
  rotate_left
  · refine qlA ar16 rfl rfl hk.out (fun w' hw => by subst hw; exact K1.out.bw x.bw) (by simp only [Act.put, List.setIfInBounds_toArray, List.set_cons_succ, List.set_cons_zero]; rfl) ?_
    exact hK
  refine hoist [] [] (a1 := ?_) 5 rfl (by kernel_rfl) (.inl ⟨rfl, rfl⟩) rfl rfl rfl (fun x K hK => ?_) ?_
  rotate_left
  · refine qlA ar16 rfl rfl hc.out (fun w' hw => by subst hw; exact C1.out.bw x.bw) (by simp only [Act.put, List.setIfInBounds_toArray, List.set_cons_succ, List.set_cons_zero]; rfl) ?_
    exact hK
  refine hoist [] [] (a1 := ?_) 6 rfl (by kernel_rfl) (.inl ⟨rfl, rfl⟩) rfl rfl rfl (fun x K hK => ?_) ?_
  rotate_left
  · go_big_quiet_op
    exact hK
  refine effect 3 rfl (by kernel_rfl) (by kernel_rfl) rfl (fun x3 K hK => ?_)
  go_simp
  refine Calls.mono (c1 x3.now).out ?_
  rintro e w3 ⟨v3, rfl, O3, hb⟩
  obtain ⟨s3, p3, rfl, l3, l3'⟩ := O3.len
  refine hK _ _ (Still.of_below hb) ?_
  clear hK K c1
  have hb : BW w2 w3 := (x3.bw.call hb)
  replace B := Lib.hid (B.out.trans hb)
  replace K1 := Lib.hid (K1.out.bw hb)
  replace C1 := Lib.hid (C1.out.bw hb)
  clear hb
  replace O3 := Lib.hid O3
  try simp only [Act.put, List.setIfInBounds_toArray, List.set_cons_succ, List.set_cons_zero]
  refine effect 7 rfl (by kernel_rfl) (by kernel_rfl) rfl (fun x7 K hK => ?_)
  go_simp
  refine Calls.mono (c2 x7.now).out ?_
  rintro e w4 ⟨v4, rfl, O4, hb⟩
  obtain ⟨s4, p4, rfl, l4, l4'⟩ := O4.len
  refine hK _ _ (Still.of_below hb) ?_
  clear hK K c2
  have hb : BW w3 w4 := (x7.bw.call hb)
  replace B := Lib.hid (B.out.trans hb)
  replace K1 := Lib.hid (K1.out.bw hb)
  replace C1 := Lib.hid (C1.out.bw hb)
  replace O3 := Lib.hid (O3.out.bw hb)
  clear hb
  replace O4 := Lib.hid O4
  try simp only [Act.put, List.setIfInBounds_toArray, List.set_cons_succ, List.set_cons_zero]
  refine hoist [] [] (a1 := ?_) 8 rfl (by kernel_rfl) (.inl ⟨rfl, rfl⟩) rfl rfl rfl (fun x K hK => ?_) ?_
  rotate_left
  · go_big_quiet_op
    exact hK
  refine hoist [] [] (a1 := ?_) 9 rfl (by kernel_rfl) (.inl ⟨rfl, rfl⟩) rfl rfl rfl (fun x K hK => ?_) ?_
  rotate_left
  · go_big_quiet_op
    exact hK
  refine done (by kernel_rfl) (fun xr => ?_)
  have hb : BW w4 xr.now := xr.bw
  replace B := Lib.hid (B.out.trans hb)
  replace K1 := Lib.hid (K1.out.bw hb)
  replace C1 := Lib.hid (C1.out.bw hb)
  replace O3 := Lib.hid (O3.out.bw hb)
  replace O4 := Lib.hid (O4.out.bw hb)
  clear hb
  generalize xr.now = w5 at *
  clear xr
  by_cases h1 : n < 1
  · have e0 : N = 0 := by have := hN.out; omega
    subst e0
    go_wp2_with fail
    go_ret
    exact ⟨rfl, B.out⟩
  have eN : (N : Int) = n := by have := hN.out; omega
  have dN : ((N : Int) != n) = false := by rw [eN]; simp
  obtain rfl : n = (N : Int) := eN.symm
  clear eN
  have hN6 : N ≤ 600 := by omega
  have mk := make_u8 N (by omega)
  have D1 : ∀ y : LaterS [] w5, _ := fun y => conv_sb (O3.out.bw y.bw).sb
  generalize hS : bstr TN = S at *
  replace hS := Lib.hid hS
  have c4 := fun sx cx wz hv => c3 N hN6 sx cx wz hv
  rw [show cipN W x (zeros N) = TN from hz.out] at c4
  clear c3
  go_upto_region 8 with (fail)
  refine wp_region_gg [] [] [] (by kernel_rfl) ?_
  refine hoist [] [] (a1 := ?_) 0 rfl (by kernel_rfl) (.inl ⟨rfl, rfl⟩) rfl rfl rfl (fun x K hK => ?_) ?_
  rotate_left
  · go_big_quiet_op
    exact hK
  refine hoist [] [] (a1 := ?_) 1 rfl (by kernel_rfl) (.inl ⟨rfl, rfl⟩) rfl rfl rfl (fun x K hK => ?_) ?_
  rotate_left
  · go_big_quiet_op
    exact hK
  refine hoist [] [] (a1 := ?_) 2 rfl (by kernel_rfl) (.inl ⟨rfl, rfl⟩) rfl rfl rfl (fun x K hK => ?_) ?_
  rotate_left
  · go_big_quiet_op
    exact hK
  refine hoist [] [] (a1 := ?_) 3 rfl (by kernel_rfl) (.inl ⟨rfl, rfl⟩) rfl rfl rfl (fun x K hK => ?_) ?_
  rotate_left
  · go_big_quiet_op
    exact hK
  refine hoist [] [] (a1 := ?_) 4 rfl (by kernel_rfl) (.inl ⟨rfl, rfl⟩) rfl rfl rfl (fun x K hK => ?_) ?_
  rotate_left
  · go_big_quiet_op
    exact hK
  refine hoist [] [] (a1 := ?_) 5 rfl (by kernel_rfl) (.inl ⟨rfl, rfl⟩) rfl rfl rfl (fun x K hK => ?_) ?_
  rotate_left
  · go_big_quiet_op
    exact hK
  refine hoist [] [] (a1 := ?_) 6 rfl (by kernel_rfl) (.inl ⟨rfl, rfl⟩) rfl rfl rfl (fun x K hK => ?_) ?_
  rotate_left
  · go_big_quiet_op
    exact hK
  refine hoist [] [] (a1 := ?_) 7 rfl (by kernel_rfl) (.inl ⟨rfl, rfl⟩) rfl rfl rfl (fun x K hK => ?_) ?_
  rotate_left
  · refine qlA ar16 rfl rfl hk.out (fun w' hw => by subst hw; exact K1.out.bw x.bw) (by simp only [Act.put, List.setIfInBounds_toArray, List.set_cons_succ, List.set_cons_zero]; rfl) ?_
    exact hK
  refine hoist [] [] (a1 := ?_) 8 rfl (by kernel_rfl) (.inl ⟨rfl, rfl⟩) rfl rfl rfl (fun x K hK => ?_) ?_
  rotate_left
  · refine qlA ar16 rfl rfl hc.out (fun w' hw => by subst hw; exact C1.out.bw x.bw) (by simp only [Act.put, List.setIfInBounds_toArray, List.set_cons_succ, List.set_cons_zero]; rfl) ?_
    exact hK
  refine hoist [] [] (a1 := ?_) 9 rfl (by kernel_rfl) (.inl ⟨rfl, rfl⟩) rfl rfl rfl (fun x K hK => ?_) ?_
  rotate_left
  · go_big_quiet_op
    exact hK
  refine effect 10 rfl (by kernel_rfl) (by kernel_rfl) rfl (fun x10 K hK => ?_)
  go_simp
  refine hK _ _ (Still.of_below ((Below.refl _ _).alloc (Nat.le_refl _) _)) ?_
  clear hK K
  have hb : BW w5 x10.now := x10.bw
  replace B := Lib.hid (B.out.trans hb)
  replace K1 := Lib.hid (K1.out.bw hb)
  replace C1 := Lib.hid (C1.out.bw hb)
  replace O3 := Lib.hid (O3.out.bw hb)
  replace O4 := Lib.hid (O4.out.bw hb)
  clear hb
  try simp only [Act.put, List.setIfInBounds_toArray, List.set_cons_succ, List.set_cons_zero]
  refine effect 11 rfl (by kernel_rfl) (by kernel_rfl) rfl (fun x11 K hK => ?_)
  go_simp
  refine Calls.mono (c4 (some ⟨x10.now.heap.size, 0, none⟩) N x11.now ((SB_zeros N (by omega) x10.now).bw x11.bw)).out ?_
  rintro e w6 ⟨v6, rfl, O6, hb⟩
  obtain ⟨s6, p6, rfl, _, _⟩ := O6.len
  refine hK _ _ (Still.of_below hb) ?_
  clear hK K c4 D1
  have hb : BW x10.now w6 := ((BW.refl _).alloc.trans (x11.bw.call hb))
  replace B := Lib.hid (B.out.trans hb)
  replace K1 := Lib.hid (K1.out.bw hb)
  replace C1 := Lib.hid (C1.out.bw hb)
  replace O3 := Lib.hid (O3.out.bw hb)
  replace O4 := Lib.hid (O4.out.bw hb)
  clear hb
  have D6 : ∀ y : LaterS [] w6, _ := fun y => conv_sb (O6.bw y.bw).sb
  rw [hS.out] at D6
  clear O6
  try simp only [Act.put, List.setIfInBounds_toArray, List.set_cons_succ, List.set_cons_zero]
  refine hoist [] [] (a1 := ?_) 12 rfl (by kernel_rfl) (.inl ⟨rfl, rfl⟩) rfl rfl rfl (fun x K hK => ?_) ?_
  rotate_left
  · go_big_quiet_op
    exact hK
  refine hoist [] [] (a1 := ?_) 13 rfl (by kernel_rfl) (.inl ⟨rfl, rfl⟩) rfl rfl rfl (fun x K hK => ?_) ?_
  rotate_left
  · go_big_quiet_op
    exact hK
  refine hoist [] [] (a1 := ?_) 14 rfl (by kernel_rfl) (.inl ⟨rfl, rfl⟩) rfl rfl rfl (fun x K hK => ?_) ?_
  rotate_left
  · go_big_quiet_op
    exact hK
  refine done (by kernel_rfl) (fun xr => ?_)
  have hb : BW w6 xr.now := xr.bw
  replace B := Lib.hid (B.out.trans hb)
  replace K1 := Lib.hid (K1.out.bw hb)
  replace C1 := Lib.hid (C1.out.bw hb)
  replace O3 := Lib.hid (O3.out.bw hb)
  replace O4 := Lib.hid (O4.out.bw hb)
  clear hb
  generalize xr.now = w7 at *
  clear xr mk
  go_wp2_with fail
  have D7 : ∀ y : LaterS [] w7, _ := fun y => conv_sb (O3.out.bw y.bw).sb
  rw [hS.out] at D7
  by_cases hmn : m < (N : Int)
  · have d1 : decide (m < (N : Int)) = true := by simpa using hmn
    refine wp_region_gg [] [] [] (by kernel_rfl) ?_
    refine hoist [] [] (a1 := ?_) 0 rfl (by kernel_rfl) (.inl ⟨rfl, rfl⟩) rfl rfl rfl (fun x K hK => ?_) ?_
    rotate_left
    · go_big_quiet_op
      exact hK
    refine hoist [] [] (a1 := ?_) 1 rfl (by kernel_rfl) (.inl ⟨rfl, rfl⟩) rfl rfl rfl (fun x K hK => ?_) ?_
    rotate_left
    · go_big_quiet_op
      exact hK
    refine hoist [] [] (a1 := ?_) 2 rfl (by kernel_rfl) (.inl ⟨rfl, rfl⟩) rfl rfl rfl (fun x K hK => ?_) ?_
    rotate_left
    · go_big_quiet_op
      exact hK
    refine hoist [] [] (a1 := ?_) 3 rfl (by kernel_rfl) (.inl ⟨rfl, rfl⟩) rfl rfl rfl (fun x K hK => ?_) ?_
    rotate_left
    · go_big_quiet_op
      exact hK
    refine hoist_skip [] [] 4 rfl (by kernel_rfl) (.inl ⟨rfl, rfl⟩) rfl (a1 := ?_) ?_ ?_
    rotate_left
    · simp only [Act.put, List.setIfInBounds_toArray, List.set_cons_succ, List.set_cons_zero]; rfl
    refine hoist_skip [] [] 5 rfl (by kernel_rfl) (.inl ⟨rfl, rfl⟩) rfl (a1 := ?_) ?_ ?_
    rotate_left
    · simp only [Act.put, List.setIfInBounds_toArray, List.set_cons_succ, List.set_cons_zero]; rfl
    refine hoist_skip [] [] 6 rfl (by kernel_rfl) (.inl ⟨rfl, rfl⟩) rfl (a1 := ?_) ?_ ?_
    rotate_left
    · simp only [Act.put, List.setIfInBounds_toArray, List.set_cons_succ, List.set_cons_zero]; rfl
    refine hoist_skip [] [] 7 rfl (by kernel_rfl) (.inl ⟨rfl, rfl⟩) rfl (a1 := ?_) ?_ ?_
    rotate_left
    · simp only [Act.put, List.setIfInBounds_toArray, List.set_cons_succ, List.set_cons_zero]; rfl
    refine hoist_skip [] [] 8 rfl (by kernel_rfl) (.inl ⟨rfl, rfl⟩) rfl (a1 := ?_) ?_ ?_
    rotate_left
    · simp only [Act.put, List.setIfInBounds_toArray, List.set_cons_succ, List.set_cons_zero]; rfl
    refine hoist_skip [] [] 9 rfl (by kernel_rfl) (.inl ⟨rfl, rfl⟩) rfl (a1 := ?_) ?_ ?_
    rotate_left
    · simp only [Act.put, List.setIfInBounds_toArray, List.set_cons_succ, List.set_cons_zero]; rfl
    refine hoist_skip [] [] 10 rfl (by kernel_rfl) (.inl ⟨rfl, rfl⟩) rfl (a1 := ?_) ?_ ?_
    rotate_left
    · simp only [Act.put, List.setIfInBounds_toArray, List.set_cons_succ, List.set_cons_zero]; rfl
    refine hoist [] [] (a1 := ?_) 11 rfl (by kernel_rfl) (.inl ⟨rfl, rfl⟩) rfl rfl rfl (fun x K hK => ?_) ?_
    rotate_left
    · go_big_quiet_op
      exact hK
    refine hoist [] [] (a1 := ?_) 12 rfl (by kernel_rfl) (.inl ⟨rfl, rfl⟩) rfl rfl rfl (fun x K hK => ?_) ?_
    rotate_left
    · go_big_quiet_op
      exact hK
    refine done (by kernel_rfl) (fun xr => ?_)
    go_wp2_with fail
    go_ret
    exact ⟨rfl, B.out.trans xr.bw⟩
  · have d1 : decide (m < (N : Int)) = false := by simpa using hmn
    have hle : N ≤ M := by have := hM.out; omega
    have D8 : ∀ y : LaterS [] w7, _ := fun y => conv_sb ((O4.out.bw y.bw).takeN N hle).sb
    rw [hNM.out hle, hS.out] at D8
    have q1 : (0 : Int) ≤ (N : Int) := by omega
    have q2 : (N : Int) ≤ (p4 : Int) := by omega
    refine wp_region_gg [] [] [] (by kernel_rfl) ?_
    refine hoist [] [] (a1 := ?_) 0 rfl (by kernel_rfl) (.inl ⟨rfl, rfl⟩) rfl rfl rfl (fun x K hK => ?_) ?_
    rotate_left
    · go_big_quiet_op
      exact hK
    refine hoist [] [] (a1 := ?_) 1 rfl (by kernel_rfl) (.inl ⟨rfl, rfl⟩) rfl rfl rfl (fun x K hK => ?_) ?_
    rotate_left
    · go_big_quiet_op
      exact hK
    refine hoist [] [] (a1 := ?_) 2 rfl (by kernel_rfl) (.inl ⟨rfl, rfl⟩) rfl rfl rfl (fun x K hK => ?_) ?_
    rotate_left
    · go_big_quiet_op
      exact hK
    refine hoist [] [] (a1 := ?_) 3 rfl (by kernel_rfl) (.inl ⟨rfl, rfl⟩) rfl rfl rfl (fun x K hK => ?_) ?_
    rotate_left
    · go_big_quiet_op
      exact hK
    refine hoist [] [] (a1 := ?_) 4 rfl (by kernel_rfl) (.inl ⟨rfl, rfl⟩) rfl rfl rfl (fun x K hK => ?_) ?_
    rotate_left
    · go_big_quiet_op
      exact hK
    refine hoist [] [] (a1 := ?_) 5 rfl (by kernel_rfl) (.inl ⟨rfl, rfl⟩) rfl rfl rfl (fun x K hK => ?_) ?_
    rotate_left
    · go_big_quiet_op
      exact hK
    refine hoist [] [] (a1 := ?_) 6 rfl (by kernel_rfl) (.inl ⟨rfl, rfl⟩) rfl rfl rfl (fun x K hK => ?_) ?_
    rotate_left
    · go_big_quiet_op
      exact hK
    refine hoist [] [] (a1 := ?_) 7 rfl (by kernel_rfl) (.inl ⟨rfl, rfl⟩) rfl rfl rfl (fun x K hK => ?_) ?_
    rotate_left
    · go_big_quiet_op
      exact hK
    refine hoist [] [] (a1 := ?_) 8 rfl (by kernel_rfl) (.inl ⟨rfl, rfl⟩) rfl rfl rfl (fun x K hK => ?_) ?_
    rotate_left
    · go_big_quiet_op
      exact hK
    refine hoist [] [] (a1 := ?_) 9 rfl (by kernel_rfl) (.inl ⟨rfl, rfl⟩) rfl rfl rfl (fun x K hK => ?_) ?_
    rotate_left
    · go_big_quiet_op
      exact hK
    refine hoist [] [] (a1 := ?_) 10 rfl (by kernel_rfl) (.inl ⟨rfl, rfl⟩) rfl rfl rfl (fun x K hK => ?_) ?_
    rotate_left
    · go_big_quiet_op
      exact hK
    refine hoist [] [] (a1 := ?_) 11 rfl (by kernel_rfl) (.inl ⟨rfl, rfl⟩) rfl rfl rfl (fun x K hK => ?_) ?_
    rotate_left
    · go_big_quiet_op
      exact hK
    refine hoist [] [] (a1 := ?_) 12 rfl (by kernel_rfl) (.inl ⟨rfl, rfl⟩) rfl rfl rfl (fun x K hK => ?_) ?_
    rotate_left
    · go_big_quiet_op
      exact hK
    refine done (by kernel_rfl) (fun xr => ?_)
    go_wp2_with fail
    go_ret
    exact ⟨rfl, B.out.trans xr.bw⟩

theorem law_bytes (cs0 cs1 : Array Value) (a2 a3 : Int) (w : World) (w0 : Rd w (.block 16 (.label 4)) cs0.toList) (w1 : Rd w (.block 16 (.label 4)) cs1.toList) (w2 : (Lit.int .i64 a2).wf = true) (w3 : (Lit.int .i64 a3).wf = true) :
    Calls Try.prog 9 #[.agg cs0, .agg cs1, .int .i64 a2, .int .i64 a3] w fun e w' => e = .returned (.bool true) ∧ Below w.heap.size w w' := by
  obtain ⟨k, rfl, hk, hB⟩ := ivA_of_Rd w0
  obtain ⟨c, rfl, hc, hC⟩ := ivA_of_Rd w1
  have b2 := bounds_i64 w2
  have b3 := bounds_i64 w3
  exact streambytes_walk k c a2 a3 b2.1 b2.2 b3.1 b3.2 hk hB hc hC w
end Go.Proofs.Ytjjemkfkpnemoaa
