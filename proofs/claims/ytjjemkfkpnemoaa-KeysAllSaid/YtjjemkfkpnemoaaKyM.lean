/- The law KeysDerive; both laws at the parameters. No condition. -/
import Derived.Test.YtjjemkfkpnemoaaKyL
namespace Go.Proofs.Ytjjemkfkpnemoaa
open Go.RowKit

set_option maxRecDepth 100000 in
set_option maxHeartbeats 8000000 in
theorem keysderive_walk (key salt : List Nat) (lb : Nat) (n : Int) (n1 : -9223372036854775808 ≤ n) (n2 : n ≤ 9223372036854775807) (hl : lb < 256) (hk : key.length = 16) (hkb : ByL key) (hs : salt.length = 14) (hsb : ByL salt) (w : World) :
    Calls Try.prog 11 #[.agg (ivA .u8 (key ++ salt)), .int .u8 (lb : Nat), .int .i64 n] w fun e w' => e = .returned (.bool true) ∧ Below w.heap.size w w' := by
  have c1 := fun wz => Lib.hid (derive_ok key salt lb n n1 n2 hl hk hkb hs hsb wz)
  have c2 := fun wz => Lib.hid (derive_ok key salt lb 40 (by decide) (by decide) hl hk hkb hs hsb wz)
  have c3 := fun (h : n ≤ 600) wz => Lib.hid (rderive_ok key salt lb n n1 (by omega) hl hk hkb hs hsb wz)
  have c4 := fun wz => Lib.hid (rderive_ok key salt lb 40 (by decide) (by decide) hl hk hkb hs hsb wz)
  rw [show min (40 : Int).toNat 4096 = 40 from rfl] at c2
  rw [show (40 : Int).toNat = 40 from rfl] at c4
  have htk : n.toNat ≤ 40 → (drv key salt lb 40).take n.toNat = drv key salt lb n.toNat := fun h => strm_take _ _ _ _ h
  have hKl : Hid ((key ++ salt).length = 30) := by simp [Hid, hk, hs]
  generalize key ++ salt = K at *
  replace hk := Lib.hid hk
  replace hkb := Lib.hid hkb
  replace hs := Lib.hid hs
  replace hsb := Lib.hid hsb
  replace htk := Lib.hid htk
  have B := Lib.hid (BW.refl w)
  go_enter Try.func11, Try.ntmps11
  go_upto_region 1 with (fail)
  have M0 := Lib.hid ((AvB.new w 58 K).bw (show BW (w.alloc (.cells (ivA .u8 K) 58)) (w.alloc (.cells (ivA .u8 K) 58)) from (by repeat (first | exact BW.refl _ | apply BW.alloc | apply BW.drewN | apply BW.drew))))
  generalize hnm : (w.alloc (.cells (ivA .u8 K) 58)) = w1 at *
  have hb : BW w w1 := (by subst hnm; exact (by repeat (first | exact BW.refl _ | apply BW.alloc | apply BW.drewN | apply BW.drew)))
  replace B := Lib.hid (B.out.trans hb)
  clear hb
  clear hnm
  try simp only [World.size_alloc]
  go_wp2_with fail
  refine Calls.mono (kyalive_any w1) ?_
  rintro e w2 ⟨rfl, hb⟩
  replace hb : BW w1 w2 := BW.call (by repeat (first | exact BW.refl _ | apply BW.alloc | apply BW.drewN | apply BW.drew)) hb
  replace B := Lib.hid (B.out.trans hb)
  replace M0 := Lib.hid (M0.out.bw hb)
  clear hb
  dsimp only
  by_cases hn : 600 < n
  · go_wp2_with fail
    go_ret
    exact ⟨rfl, B.out⟩
  replace c3 := c3 (by omega)
  obtain ⟨N, hN⟩ : ∃ N, n.toNat = N := ⟨_, rfl⟩
  rw [show min n.toNat 4096 = n.toNat by omega] at c1
  rw [hN] at c1 c3 htk
  generalize hD : drv key salt lb N = D at *
  generalize hD4 : drv key salt lb 40 = D4 at *
  generalize hS : bstr D = S at *
  generalize hS4 : bstr D4 = S4 at *
  replace hN := Lib.hid hN
  replace hD := Lib.hid hD
  replace hD4 := Lib.hid hD4
  replace hS := Lib.hid hS
  replace hS4 := Lib.hid hS4
  go_wp2_with (refine ldA ar30 rfl rfl (by rfl) M0.out hKl.out ?_)
  refine Calls.mono (c1 w2).out ?_
  rintro e w3 ⟨v3, rfl, O3, hb⟩
  obtain ⟨s3, p3, rfl, _, _⟩ := O3.len
  have hb : BW w2 w3 := hb
  replace B := Lib.hid (B.out.trans hb)
  replace M0 := Lib.hid (M0.out.bw hb)
  clear hb
  replace O3 := Lib.hid O3
  clear c1
  dsimp only
  go_wp2_with (refine ldA ar30 rfl rfl (by rfl) M0.out hKl.out ?_)
  refine Calls.mono (c2 w3).out ?_
  rintro e w4 ⟨v4, rfl, O4, hb⟩
  obtain ⟨s4, p4, rfl, l4, _⟩ := O4.len
  have hb : BW w3 w4 := hb
  replace B := Lib.hid (B.out.trans hb)
  replace M0 := Lib.hid (M0.out.bw hb)
  replace O3 := Lib.hid (O3.out.bw hb)
  clear hb
  replace O4 := Lib.hid O4
  clear c2
  dsimp only
  go_upto_region 7 with (fail)
  have E1 : ∀ y : LaterS [] w4, _ := fun y => conv_sb (O3.out.bw y.bw).sb
  have E2 : ∀ y : LaterS [] w4, _ := fun y => conv_sb (O4.out.bw y.bw).sb
  rw [hS.out] at E1
  rw [hS4.out] at E2
  try simp only [Act.put, List.setIfInBounds_toArray, List.set_cons_succ, List.set_cons_zero]
  refine wp_region_gg [] [] [] (by kernel_rfl) ?_
  refine hoist [] [] (a1 := ?_) 0 rfl (by kernel_rfl) (.inl ⟨rfl, rfl⟩) rfl rfl rfl (fun x K hK => ?_) ?_
  rotate_left
  · go_big_quiet_op
    exact hK
  refine hoist [] [] (a1 := ?_) 1 rfl (by kernel_rfl) (.inl ⟨rfl, rfl⟩) rfl rfl rfl (fun x K hK => ?_) ?_
  rotate_left
  · go_big_quiet_op
    exact hK
  refine hoist [] [] (a1 := ?_) 2 rfl (by kernel_rfl) (.inl ⟨rfl, rfl⟩) rfl rfl rfl (fun x K hK => ?_) ?_
  rotate_left
  · refine qlA ar30 rfl (by rfl) hKl.out (fun w' hw => by subst hw; exact M0.out.bw x.bw) (by simp only [Act.put, List.setIfInBounds_toArray, List.set_cons_succ, List.set_cons_zero]; rfl) ?_
    exact hK
  refine hoist [] [] (a1 := ?_) 3 rfl (by kernel_rfl) (.inl ⟨rfl, rfl⟩) rfl rfl rfl (fun x K hK => ?_) ?_
  rotate_left
  · go_big_quiet_op
    exact hK
  refine hoist [] [] (a1 := ?_) 4 rfl (by kernel_rfl) (.inl ⟨rfl, rfl⟩) rfl rfl rfl (fun x K hK => ?_) ?_
  rotate_left
  · go_big_quiet_op
    exact hK
  refine effect 5 rfl (by kernel_rfl) (by kernel_rfl) rfl (fun x5 K hK => ?_)
  go_simp
  refine Calls.mono (c3 x5.now).out ?_
  rintro e w5 ⟨v5, rfl, O5, hb⟩
  obtain ⟨s5, p5, rfl, _, _⟩ := O5.len
  refine hK _ _ (Still.of_below hb) ?_
  clear hK K E1 E2
  have hb : BW w4 w5 := (x5.bw.call hb)
  replace B := Lib.hid (B.out.trans hb)
  replace M0 := Lib.hid (M0.out.bw hb)
  replace O3 := Lib.hid (O3.out.bw hb)
  replace O4 := Lib.hid (O4.out.bw hb)
  clear hb
  have E5 : ∀ y : LaterS [] w5, _ := fun y => conv_sb (O5.bw y.bw).sb
  rw [hS.out] at E5
  have E2 : ∀ y : LaterS [] w5, _ := fun y => conv_sb (O4.out.bw y.bw).sb
  rw [hS4.out] at E2
  clear O5
  try simp only [Act.put, List.setIfInBounds_toArray, List.set_cons_succ, List.set_cons_zero]
  refine hoist [] [] (a1 := ?_) 6 rfl (by kernel_rfl) (.inl ⟨rfl, rfl⟩) rfl rfl rfl (fun x K hK => ?_) ?_
  rotate_left
  · go_big_quiet_op
    exact hK
  refine hoist [] [] (a1 := ?_) 7 rfl (by kernel_rfl) (.inl ⟨rfl, rfl⟩) rfl rfl rfl (fun x K hK => ?_) ?_
  rotate_left
  · go_big_quiet_op
    exact hK
  refine hoist [] [] (a1 := ?_) 8 rfl (by kernel_rfl) (.inl ⟨rfl, rfl⟩) rfl rfl rfl (fun x K hK => ?_) ?_
  rotate_left
  · go_big_quiet_op
    exact hK
  refine hoist [] [] (a1 := ?_) 9 rfl (by kernel_rfl) (.inl ⟨rfl, rfl⟩) rfl rfl rfl (fun x K hK => ?_) ?_
  rotate_left
  · go_big_quiet_op
    exact hK
  refine hoist [] [] (a1 := ?_) 10 rfl (by kernel_rfl) (.inl ⟨rfl, rfl⟩) rfl rfl rfl (fun x K hK => ?_) ?_
  rotate_left
  · go_big_quiet_op
    exact hK
  refine hoist [] [] (a1 := ?_) 11 rfl (by kernel_rfl) (.inl ⟨rfl, rfl⟩) rfl rfl rfl (fun x K hK => ?_) ?_
  rotate_left
  · refine qlA ar30 rfl (by rfl) hKl.out (fun w' hw => by subst hw; exact M0.out.bw x.bw) (by simp only [Act.put, List.setIfInBounds_toArray, List.set_cons_succ, List.set_cons_zero]; rfl) ?_
    exact hK
  refine hoist [] [] (a1 := ?_) 12 rfl (by kernel_rfl) (.inl ⟨rfl, rfl⟩) rfl rfl rfl (fun x K hK => ?_) ?_
  rotate_left
  · go_big_quiet_op
    exact hK
  refine effect 13 rfl (by kernel_rfl) (by kernel_rfl) rfl (fun x13 K hK => ?_)
  go_simp
  refine Calls.mono (c4 x13.now).out ?_
  rintro e w6 ⟨v6, rfl, O6, hb⟩
  obtain ⟨s6, p6, rfl, _, _⟩ := O6.len
  refine hK _ _ (Still.of_below hb) ?_
  clear hK K E5 E2
  have hb : BW w5 w6 := (x13.bw.call hb)
  replace B := Lib.hid (B.out.trans hb)
  replace M0 := Lib.hid (M0.out.bw hb)
  replace O3 := Lib.hid (O3.out.bw hb)
  replace O4 := Lib.hid (O4.out.bw hb)
  clear hb
  have E6 : ∀ y : LaterS [] w6, _ := fun y => conv_sb (O6.bw y.bw).sb
  rw [hS4.out] at E6
  clear O6
  try simp only [Act.put, List.setIfInBounds_toArray, List.set_cons_succ, List.set_cons_zero]
  refine hoist [] [] (a1 := ?_) 14 rfl (by kernel_rfl) (.inl ⟨rfl, rfl⟩) rfl rfl rfl (fun x K hK => ?_) ?_
  rotate_left
  · go_big_quiet_op
    exact hK
  refine hoist [] [] (a1 := ?_) 15 rfl (by kernel_rfl) (.inl ⟨rfl, rfl⟩) rfl rfl rfl (fun x K hK => ?_) ?_
  rotate_left
  · go_big_quiet_op
    exact hK
  refine hoist [] [] (a1 := ?_) 16 rfl (by kernel_rfl) (.inl ⟨rfl, rfl⟩) rfl rfl rfl (fun x K hK => ?_) ?_
  rotate_left
  · go_big_quiet_op
    exact hK
  refine done (by kernel_rfl) (fun xr => ?_)
  have hb : BW w6 xr.now := xr.bw
  replace B := Lib.hid (B.out.trans hb)
  replace M0 := Lib.hid (M0.out.bw hb)
  replace O3 := Lib.hid (O3.out.bw hb)
  replace O4 := Lib.hid (O4.out.bw hb)
  clear hb
  generalize xr.now = w7 at *
  clear xr c3 c4
  go_wp2_with fail
  have E7 : ∀ y : LaterS [] w7, _ := fun y => conv_sb (O3.out.bw y.bw).sb
  rw [hS.out] at E7
  by_cases h1 : n < 1
  · have d1 : decide (n < 1) = true := by simpa using h1
    refine wp_region_gg [] [] [] (by kernel_rfl) ?_
    refine hoist [] [] (a1 := ?_) 0 rfl (by kernel_rfl) (.inl ⟨rfl, rfl⟩) rfl rfl rfl (fun x K hK => ?_) ?_
    rotate_left
    · go_big_quiet_op
      exact hK
    refine hoist [] [] (a1 := ?_) 1 rfl (by kernel_rfl) (.inl ⟨rfl, rfl⟩) rfl rfl rfl (fun x K hK => ?_) ?_
    rotate_left
    · go_big_quiet_op
      exact hK
    refine hoist [] [] (a1 := ?_) 2 rfl (by kernel_rfl) (.inl ⟨rfl, rfl⟩) rfl rfl rfl (fun x K hK => ?_) ?_
    rotate_left
    · go_big_quiet_op
      exact hK
    refine hoist_skip [] [] 3 rfl (by kernel_rfl) (.inl ⟨rfl, rfl⟩) rfl (a1 := ?_) ?_ ?_
    rotate_left
    · simp only [Act.put, List.setIfInBounds_toArray, List.set_cons_succ, List.set_cons_zero]; rfl
    refine hoist_skip [] [] 4 rfl (by kernel_rfl) (.inl ⟨rfl, rfl⟩) rfl (a1 := ?_) ?_ ?_
    rotate_left
    · simp only [Act.put, List.setIfInBounds_toArray, List.set_cons_succ, List.set_cons_zero]; rfl
    refine hoist [] [] (a1 := ?_) 5 rfl (by kernel_rfl) (.inl ⟨rfl, rfl⟩) rfl rfl rfl (fun x K hK => ?_) ?_
    rotate_left
    · go_big_quiet_op
      exact hK
    refine hoist [] [] (a1 := ?_) 6 rfl (by kernel_rfl) (.inl ⟨rfl, rfl⟩) rfl rfl rfl (fun x K hK => ?_) ?_
    rotate_left
    · go_big_quiet_op
      exact hK
    refine hoist_skip [] [] 7 rfl (by kernel_rfl) (.inl ⟨rfl, rfl⟩) rfl (a1 := ?_) ?_ ?_
    rotate_left
    · simp only [Act.put, List.setIfInBounds_toArray, List.set_cons_succ, List.set_cons_zero]; rfl
    refine hoist_skip [] [] 8 rfl (by kernel_rfl) (.inl ⟨rfl, rfl⟩) rfl (a1 := ?_) ?_ ?_
    rotate_left
    · simp only [Act.put, List.setIfInBounds_toArray, List.set_cons_succ, List.set_cons_zero]; rfl
    refine hoist_skip [] [] 9 rfl (by kernel_rfl) (.inl ⟨rfl, rfl⟩) rfl (a1 := ?_) ?_ ?_
    rotate_left
    · simp only [Act.put, List.setIfInBounds_toArray, List.set_cons_succ, List.set_cons_zero]; rfl
    refine hoist_skip [] [] 10 rfl (by kernel_rfl) (.inl ⟨rfl, rfl⟩) rfl (a1 := ?_) ?_ ?_
    rotate_left
    · simp only [Act.put, List.setIfInBounds_toArray, List.set_cons_succ, List.set_cons_zero]; rfl
    refine hoist_skip [] [] 11 rfl (by kernel_rfl) (.inl ⟨rfl, rfl⟩) rfl (a1 := ?_) ?_ ?_
    rotate_left
    · simp only [Act.put, List.setIfInBounds_toArray, List.set_cons_succ, List.set_cons_zero]; rfl
    refine hoist_skip [] [] 12 rfl (by kernel_rfl) (.inl ⟨rfl, rfl⟩) rfl (a1 := ?_) ?_ ?_
    rotate_left
    · simp only [Act.put, List.setIfInBounds_toArray, List.set_cons_succ, List.set_cons_zero]; rfl
    refine hoist_skip [] [] 13 rfl (by kernel_rfl) (.inl ⟨rfl, rfl⟩) rfl (a1 := ?_) ?_ ?_
    rotate_left
    · simp only [Act.put, List.setIfInBounds_toArray, List.set_cons_succ, List.set_cons_zero]; rfl
    refine hoist [] [] (a1 := ?_) 14 rfl (by kernel_rfl) (.inl ⟨rfl, rfl⟩) rfl rfl rfl (fun x K hK => ?_) ?_
    rotate_left
    · go_big_quiet_op
      exact hK
    refine hoist [] [] (a1 := ?_) 15 rfl (by kernel_rfl) (.inl ⟨rfl, rfl⟩) rfl rfl rfl (fun x K hK => ?_) ?_
    rotate_left
    · go_big_quiet_op
      exact hK
    refine done (by kernel_rfl) (fun xr => ?_)
    go_wp2_with fail
    go_ret
    exact ⟨rfl, B.out.trans xr.bw⟩
  have d1 : decide (n < 1) = false := by simpa using h1
  by_cases h40 : 40 < n
  · have d2 : decide (40 < n) = true := by simpa using h40
    refine wp_region_gg [] [] [] (by kernel_rfl) ?_
    refine hoist [] [] (a1 := ?_) 0 rfl (by kernel_rfl) (.inl ⟨rfl, rfl⟩) rfl rfl rfl (fun x K hK => ?_) ?_
    rotate_left
    · go_big_quiet_op
      exact hK
    refine hoist [] [] (a1 := ?_) 1 rfl (by kernel_rfl) (.inl ⟨rfl, rfl⟩) rfl rfl rfl (fun x K hK => ?_) ?_
    rotate_left
    · go_big_quiet_op
      exact hK
    refine hoist [] [] (a1 := ?_) 2 rfl (by kernel_rfl) (.inl ⟨rfl, rfl⟩) rfl rfl rfl (fun x K hK => ?_) ?_
    rotate_left
    · go_big_quiet_op
      exact hK
    refine hoist [] [] (a1 := ?_) 3 rfl (by kernel_rfl) (.inl ⟨rfl, rfl⟩) rfl rfl rfl (fun x K hK => ?_) ?_
    rotate_left
    · go_big_quiet_op
      exact hK
    refine hoist [] [] (a1 := ?_) 4 rfl (by kernel_rfl) (.inl ⟨rfl, rfl⟩) rfl rfl rfl (fun x K hK => ?_) ?_
    rotate_left
    · go_big_quiet_op
      exact hK
    refine hoist [] [] (a1 := ?_) 5 rfl (by kernel_rfl) (.inl ⟨rfl, rfl⟩) rfl rfl rfl (fun x K hK => ?_) ?_
    rotate_left
    · go_big_quiet_op
      exact hK
    refine hoist [] [] (a1 := ?_) 6 rfl (by kernel_rfl) (.inl ⟨rfl, rfl⟩) rfl rfl rfl (fun x K hK => ?_) ?_
    rotate_left
    · go_big_quiet_op
      exact hK
    refine hoist_skip [] [] 7 rfl (by kernel_rfl) (.inl ⟨rfl, rfl⟩) rfl (a1 := ?_) ?_ ?_
    rotate_left
    · simp only [Act.put, List.setIfInBounds_toArray, List.set_cons_succ, List.set_cons_zero]; rfl
    refine hoist_skip [] [] 8 rfl (by kernel_rfl) (.inl ⟨rfl, rfl⟩) rfl (a1 := ?_) ?_ ?_
    rotate_left
    · simp only [Act.put, List.setIfInBounds_toArray, List.set_cons_succ, List.set_cons_zero]; rfl
    refine hoist_skip [] [] 9 rfl (by kernel_rfl) (.inl ⟨rfl, rfl⟩) rfl (a1 := ?_) ?_ ?_
    rotate_left
    · simp only [Act.put, List.setIfInBounds_toArray, List.set_cons_succ, List.set_cons_zero]; rfl
    refine hoist_skip [] [] 10 rfl (by kernel_rfl) (.inl ⟨rfl, rfl⟩) rfl (a1 := ?_) ?_ ?_
    rotate_left
    · simp only [Act.put, List.setIfInBounds_toArray, List.set_cons_succ, List.set_cons_zero]; rfl
    refine hoist_skip [] [] 11 rfl (by kernel_rfl) (.inl ⟨rfl, rfl⟩) rfl (a1 := ?_) ?_ ?_
    rotate_left
    · simp only [Act.put, List.setIfInBounds_toArray, List.set_cons_succ, List.set_cons_zero]; rfl
    refine hoist_skip [] [] 12 rfl (by kernel_rfl) (.inl ⟨rfl, rfl⟩) rfl (a1 := ?_) ?_ ?_
    rotate_left
    · simp only [Act.put, List.setIfInBounds_toArray, List.set_cons_succ, List.set_cons_zero]; rfl
    refine hoist_skip [] [] 13 rfl (by kernel_rfl) (.inl ⟨rfl, rfl⟩) rfl (a1 := ?_) ?_ ?_
    rotate_left
    · simp only [Act.put, List.setIfInBounds_toArray, List.set_cons_succ, List.set_cons_zero]; rfl
    refine hoist [] [] (a1 := ?_) 14 rfl (by kernel_rfl) (.inl ⟨rfl, rfl⟩) rfl rfl rfl (fun x K hK => ?_) ?_
    rotate_left
    · go_big_quiet_op
      exact hK
    refine hoist [] [] (a1 := ?_) 15 rfl (by kernel_rfl) (.inl ⟨rfl, rfl⟩) rfl rfl rfl (fun x K hK => ?_) ?_
    rotate_left
    · go_big_quiet_op
      exact hK
    refine done (by kernel_rfl) (fun xr => ?_)
    go_wp2_with fail
    go_ret
    exact ⟨rfl, B.out.trans xr.bw⟩
  have d2 : decide (40 < n) = false := by simpa using h40
  have hle : N ≤ 40 := by have := hN.out; omega
  obtain rfl : n = (N : Int) := by have := hN.out; omega
  have E8 : ∀ y : LaterS [] w7, _ := fun y => conv_sb ((O4.out.bw y.bw).takeN N hle).sb
  rw [htk.out hle, hS.out] at E8
  have q1 : (0 : Int) ≤ (N : Int) := by omega
  have q2 : (N : Int) ≤ (p4 : Int) := by omega
  refine wp_region_gg [] [] [] (by kernel_rfl) ?_
  refine hoist [] [] (a1 := ?_) 0 rfl (by kernel_rfl) (.inl ⟨rfl, rfl⟩) rfl rfl rfl (fun x K hK => ?_) ?_
  rotate_left
  · go_big_quiet_op
    exact hK
  refine hoist [] [] (a1 := ?_) 1 rfl (by kernel_rfl) (.inl ⟨rfl, rfl⟩) rfl rfl rfl (fun x K hK => ?_) ?_
  rotate_left
  · go_big_quiet_op
    exact hK
  refine hoist [] [] (a1 := ?_) 2 rfl (by kernel_rfl) (.inl ⟨rfl, rfl⟩) rfl rfl rfl (fun x K hK => ?_) ?_
  rotate_left
  · go_big_quiet_op
    exact hK
  refine hoist [] [] (a1 := ?_) 3 rfl (by kernel_rfl) (.inl ⟨rfl, rfl⟩) rfl rfl rfl (fun x K hK => ?_) ?_
  rotate_left
  · go_big_quiet_op
    exact hK
  refine hoist [] [] (a1 := ?_) 4 rfl (by kernel_rfl) (.inl ⟨rfl, rfl⟩) rfl rfl rfl (fun x K hK => ?_) ?_
  rotate_left
  · go_big_quiet_op
    exact hK
  refine hoist [] [] (a1 := ?_) 5 rfl (by kernel_rfl) (.inl ⟨rfl, rfl⟩) rfl rfl rfl (fun x K hK => ?_) ?_
  rotate_left
  · go_big_quiet_op
    exact hK
  refine hoist [] [] (a1 := ?_) 6 rfl (by kernel_rfl) (.inl ⟨rfl, rfl⟩) rfl rfl rfl (fun x K hK => ?_) ?_
  rotate_left
  · go_big_quiet_op
    exact hK
  refine hoist [] [] (a1 := ?_) 7 rfl (by kernel_rfl) (.inl ⟨rfl, rfl⟩) rfl rfl rfl (fun x K hK => ?_) ?_
  rotate_left
  · go_big_quiet_op
    exact hK
  refine hoist [] [] (a1 := ?_) 8 rfl (by kernel_rfl) (.inl ⟨rfl, rfl⟩) rfl rfl rfl (fun x K hK => ?_) ?_
  rotate_left
  · go_big_quiet_op
    exact hK
  refine hoist [] [] (a1 := ?_) 9 rfl (by kernel_rfl) (.inl ⟨rfl, rfl⟩) rfl rfl rfl (fun x K hK => ?_) ?_
  rotate_left
  · go_big_quiet_op
    exact hK
  refine hoist [] [] (a1 := ?_) 10 rfl (by kernel_rfl) (.inl ⟨rfl, rfl⟩) rfl rfl rfl (fun x K hK => ?_) ?_
  rotate_left
  · go_big_quiet_op
    exact hK
  refine hoist [] [] (a1 := ?_) 11 rfl (by kernel_rfl) (.inl ⟨rfl, rfl⟩) rfl rfl rfl (fun x K hK => ?_) ?_
  rotate_left
  · go_big_quiet_op
    exact hK
  refine hoist [] [] (a1 := ?_) 12 rfl (by kernel_rfl) (.inl ⟨rfl, rfl⟩) rfl rfl rfl (fun x K hK => ?_) ?_
  rotate_left
  · go_big_quiet_op
    exact hK
  refine hoist [] [] (a1 := ?_) 13 rfl (by kernel_rfl) (.inl ⟨rfl, rfl⟩) rfl rfl rfl (fun x K hK => ?_) ?_
  rotate_left
  · go_big_quiet_op
    exact hK
  refine hoist [] [] (a1 := ?_) 14 rfl (by kernel_rfl) (.inl ⟨rfl, rfl⟩) rfl rfl rfl (fun x K hK => ?_) ?_
  rotate_left
  · go_big_quiet_op
    exact hK
  refine hoist [] [] (a1 := ?_) 15 rfl (by kernel_rfl) (.inl ⟨rfl, rfl⟩) rfl rfl rfl (fun x K hK => ?_) ?_
  rotate_left
  · go_big_quiet_op
    exact hK
  refine done (by kernel_rfl) (fun xr => ?_)
  go_wp2_with fail
  go_ret
  exact ⟨rfl, B.out.trans xr.bw⟩

/-- What came in as a master. -/
theorem master_of_Rd {w : World} {cs : Array Value} (h : Rd w (.scope (.seq (.block 16 (.label 4)) (.seq (.block 14 (.label 4)) .skip))) cs.toList) : ∃ key salt : List Nat, cs = ivA .u8 (key ++ salt) ∧ key.length = 16 ∧ ByL key ∧ salt.length = 14 ∧ ByL salt := by
  obtain ⟨c1, c2, e, h1, c3, c4, e2, h3, h4⟩ := h
  have h4 : c4 = [] := h4
  subst h4 e2
  obtain ⟨k1, e1, l1, b1⟩ := bytes_of_cells w 16 c1 h1.1 h1.2
  obtain ⟨k2, e2, l2, b2⟩ := bytes_of_cells w 14 c3 h3.1 h3.2
  refine ⟨k1, k2, ?_, l1, byl_of b1, l2, byl_of b2⟩
  apply Array.ext'
  rw [e, e1, e2]
  simp [ivA]
theorem law_derive (cs0 : Array Value) (a1 a2 : Int) (w : World) (w0 : Rd w (.scope (.seq (.block 16 (.label 4)) (.seq (.block 14 (.label 4)) .skip))) cs0.toList) (w1 : (Lit.int .u8 a1).wf = true) (w2 : (Lit.int .i64 a2).wf = true) :
    Calls Try.prog 11 #[.agg cs0, .int .u8 a1, .int .i64 a2] w fun e w' => e = .returned (.bool true) ∧ Below w.heap.size w w' := by
  obtain ⟨k, s, rfl, h1, h2, h3, h4⟩ := master_of_Rd w0
  have b1 := bounds_u8 w1
  have b2 := bounds_i64 w2
  obtain ⟨l, rfl⟩ := Int.eq_ofNat_of_zero_le b1.1
  exact keysderive_walk k s l a2 b2.1 b2.2 (by omega) h1 h2 h3 h4 w
theorem law_all (cs0 : Array Value) (w : World) (w0 : Rd w (.scope (.seq (.block 16 (.label 4)) (.seq (.block 14 (.label 4)) .skip))) cs0.toList) :
    Calls Try.prog 12 #[.agg cs0] w fun e w' => e = .returned (.bool true) ∧ Below w.heap.size w w' := by
  obtain ⟨k, s, rfl, h1, h2, h3, h4⟩ := master_of_Rd w0
  exact keysall_walk k s h1 h2 h3 h4 w
end Go.Proofs.Ytjjemkfkpnemoaa
