/- The law EgressAgain (printed by wip/gen/genEgL.py). No condition. -/
import Derived.Test.YtojedpahaifjgaaEgK
import Derived.Test.YtojedpahaifjgaaRd
namespace Go.Proofs.Ytojedpahaifjgaa
open Go.RowKit

theorem again_take (k : Nat) : takeN 1 0 (if k = 0 then -1 else 0) 0 true = (true, decide (k = 0), 0) := by
  by_cases h : k = 0
  · subst h; decide
  · rw [if_neg h, decide_eq_false h]; decide
theorem giveN_le {u h n : Int} (h0 : 0 ≤ h) (n0 : 0 ≤ n) (u0 : 0 ≤ u) : 0 ≤ giveN u h n ∧ giveN u h n ≤ h + n := by
  unfold giveN satN
  split <;> omega
set_option maxRecDepth 100000 in
set_option maxHeartbeats 8000000 in
theorem law_again (p z : Int) (sa : Option Addr) (ln cp : Nat) (w : World) (hp : (Lit.int .u8 p).wf = true) (hz : (Lit.int .u8 z).wf = true) (hA : Rd w (.loop (.label 4)) [.slice sa ln cp]) :
    Calls Try.prog 4 #[.int .u8 p, .int .u8 z, .slice sa ln cp] w fun e w' => e = .returned (.bool true) ∧ Below w.heap.size w w' := by
  obtain ⟨p0, p1⟩ := bounds_u8 hp
  obtain ⟨z0, z1⟩ := bounds_u8 hz
  obtain ⟨al, hal⟩ := SB_of_Rd hA
  clear hp hz hA
  obtain ⟨zz, rfl⟩ : ∃ zz : Nat, z = (zz : Int) := ⟨z.toNat, by omega⟩
  have hzz : zz ≤ 255 := by omega
  obtain ⟨hlc, hcm, hll, hby⟩ := hal.unpack
  have ha := Lib.hid (eg_alive w)
  have mk := make_u8 zz (by omega)
  have hAl := Lib.hid hal
  clear hal
  replace hby := Lib.hid hby
  go_enter Try.func4, Try.ntmps4
  go_wp2_with fail
  refine Calls.mono ha.out ?_
  rintro e w1 ⟨rfl, B1⟩
  replace B1 := Lib.hid B1
  clear ha
  dsimp only
  have cN := egnew_any 77 1 0 10 10000 p (by omega) (by omega) (by omega) (by omega) (by omega) w1
  unfold limC at cN
  replace cN := Lib.hid cN
  go_wp2_with fail
  refine Calls.mono cN.out ?_
  rintro e w2 ⟨g, gc, gr, gb, rfl, hge, E1, hb⟩
  have E1 := Lib.hid E1
  have B2 := Lib.hid hb
  replace hge := Lib.hid hge
  clear hb cN
  dsimp only
  have z0' := (hp_cell E1.out.hp.choose_spec.choose_spec.choose_spec.choose_spec.choose_spec.choose_spec 0).trans (show _ = some (.pointer (some ⟨gc, 0, none⟩)) from rfl)
  have cW := Lib.hid (want_E w1.heap.size g gc gr gb 77 0 1 (-1) (-1) 0 false 0 0 false 0 10 10000 (.slice none 0 0) [] p (p * 4) (p * 4) w2 E1.out)
  go_wp2_with fail
  refine Calls.mono cW.out ?_
  rintro e w3 ⟨rfl, E2, T2⟩
  have B3 := Lib.hid (BW.stP B2.out T2 (fun k hk => by obtain rfl : k = gc := (by simpa using hk); exact hge.out.2.1))
  have hW : wantN 1 (-1) (-1) 0 = (0, 0, -1) := by decide
  rw [hW] at E2
  replace E2 := Lib.hid E2
  clear T2 cW E1 B2 hW z0'
  dsimp only
  go_upto_region 8 with (fail)
  go_loopg [8] 8 (fun m' i wx => ∃ (k : Nat) (v : Value), m' = 8 - k ∧ k ≤ 8 ∧ i = .int .i64 (k : Nat) ∧ Hid (EgI wx w1.heap.size g gc gr gb 77 1 0 (if k = 0 then -1 else 0) 0 (decide (0 < k)) 0 0 (decide (0 < k)) ((k - 1 : Nat) : Int) 10 10000 v (keepL zz k) p (p * 4) (p * 4)) ∧ Hid (BW w1 wx))
  case atStart => exact ⟨0, .slice none 0 0, by omega, by omega, rfl, E2, B3⟩
  case round =>
    clear E2 B3
    obtain ⟨k, v, rfl, hk, rfl, E, B⟩ := hrel
    by_cases hkn : k < 8
    · have d1 : decide ((k : Int) < 8) = true := by simp; omega
      obtain ⟨yA, hyA⟩ : ∃ y : Int, y = (k : Int) := ⟨_, rfl⟩
      obtain ⟨tA, htA⟩ : ∃ t : Bool, t = decide (k = 0) := ⟨_, rfl⟩
      obtain ⟨sA, hsA⟩ : ∃ y : Int, IntKind.u16.wrap yA = y := ⟨_, rfl⟩
      have hyb : 0 ≤ yA ∧ yA ≤ 8 := by omega
      have cP := push_E w1.heap.size g gc gr gb 77 0 1 0 (if k = 0 then -1 else 0) 0 tA (decide (0 < k)) 0 0 (decide (0 < k)) ((k - 1 : Nat) : Int) 10 10000 v (keepL zz k) p (p * 4) (p * 4) 0 (k : Int) false 0 (k : Int) 0 0 none 0 0 false 0 none 0 0 none 0 0 0 yA (by omega) (by omega) (by omega) (by omega) (by intro h; rw [htA] at h; have h := of_decide_eq_false h; exact ⟨decide_eq_true (by omega), by omega, by omega, by omega, by omega, by omega⟩) (by intro h; rw [htA] at h; have h := of_decide_eq_true h; subst h; simp; exact hyA.symm) (by rw [htA]; exact again_take k) wr E.out
      have hA0 : (if tA = true then (k : Int) else 0) = 0 := by
        split
        · rename_i h; rw [htA] at h; have h := of_decide_eq_true h; omega
        · rfl
      have hB0 : (if tA = true then yA else 0) = 0 := by
        split
        · rename_i h; rw [htA] at h; have h := of_decide_eq_true h; omega
        · rfl
      rw [hA0, hB0] at cP
      unfold arC snC at cP
      rw [hsA] at cP
      clear hA0 hB0 E
      replace cP := Lib.hid cP
      replace hyA := Lib.hid hyA
      replace htA := Lib.hid htA
      replace hsA := Lib.hid hsA
      go_upto_region 10 with (fail)
      go_wp2_with fail
      refine Calls.mono cP.out ?_
      rintro e w4 ⟨⟨n1, rfl⟩, E4, T4⟩
      have B4 := Lib.hid (BW.stP B.out T4 (fun k hk => by rcases (by simpa using hk : k = gc ∨ k = g) with rfl | rfl; exact hge.out.2.1; exact hge.out.1))
      replace E4 := Lib.hid E4
      clear T4 cP B
      dsimp only
      have BC : BW w4 (w4.alloc (.cells #[.int .i64 yA, .bool false, .int .u8 0, .int .u16 sA, .int .u32 n1, .int .u32 77, .slice none 0 0, .bool false, .int .u16 0, .slice none 0 0, .slice none 0 0, .int .u8 0, .bool tA] 60)) := (BW.refl _).alloc
      have X5 := Lib.hid (HpB.new w4 (.cells #[.int .i64 yA, .bool false, .int .u8 0, .int .u16 sA, .int .u32 n1, .int .u32 77, .slice none 0 0, .bool false, .int .u16 0, .slice none 0 0, .slice none 0 0, .int .u8 0, .bool tA] 60))
      have E5 := Lib.hid (E4.out.bw BC)
      have B5 := Lib.hid (B4.out.trans BC)
      clear E4 B4 
      replace BC := Lib.hid BC
      go_upto_region 11 with (fail)
      generalize (w4.alloc (.cells #[.int .i64 yA, .bool false, .int .u8 0, .int .u16 sA, .int .u32 n1, .int .u32 77, .slice none 0 0, .bool false, .int .u16 0, .slice none 0 0, .slice none 0 0, .int .u8 0, .bool tA] 60)) = w5 at *
      generalize w4.heap.size = gs at *
      have z0 := (hp_cell X5.out 0).trans (show _ = some (.int .i64 yA) from rfl)
      have m0 : ∀ y : LaterS [] w5, _ := fun y => y.bw.cell z0
      clear z0
      refine wp_region_gg [] [] [9] (by kernel_rfl) ?_
      refine hoist [] [] (a1 := ?_) 0 rfl (by kernel_rfl) (.inl ⟨rfl, rfl⟩) rfl rfl rfl (fun x K hK => ?_) ?_
      rotate_left
      · go_big_quiet_op
        exact hK
      refine hoist [] [] (a1 := ?_) 1 rfl (by kernel_rfl) (.inl ⟨rfl, rfl⟩) rfl rfl rfl (fun x K hK => ?_) ?_
      rotate_left
      · go_big_quiet_op
        exact hK
      refine hoist [] [] (a1 := ?_) 2 rfl (by kernel_rfl) (.inl ⟨rfl, rfl⟩) rfl rfl rfl (fun x K hK => ?_) ?_
      rotate_left
      · go_big_quiet_op
        exact hK
      refine hoist [] [] (a1 := ?_) 3 rfl (by kernel_rfl) (.inl ⟨rfl, rfl⟩) rfl rfl rfl (fun x K hK => ?_) ?_
      rotate_left
      · go_big_quiet_op
        exact hK
      refine hoist [] [] (a1 := ?_) 4 rfl (by kernel_rfl) (.inl ⟨rfl, rfl⟩) rfl rfl rfl (fun x K hK => ?_) ?_
      rotate_left
      · go_big_quiet_op
        exact hK
      refine hoist [] [] (a1 := ?_) 5 rfl (by kernel_rfl) (.inl ⟨rfl, rfl⟩) rfl rfl rfl (fun x K hK => ?_) ?_
      rotate_left
      · go_big_quiet_op
        exact hK
      refine hoist [] [] (a1 := ?_) 6 rfl (by kernel_rfl) (.inl ⟨rfl, rfl⟩) rfl rfl rfl (fun x K hK => ?_) ?_
      rotate_left
      · go_big_quiet_op
        exact hK
      refine hoist [] [] (a1 := ?_) 7 rfl (by kernel_rfl) (.inl ⟨rfl, rfl⟩) rfl rfl rfl (fun x K hK => ?_) ?_
      rotate_left
      · go_big_quiet_op
        exact hK
      refine effect 8 rfl (by kernel_rfl) (by kernel_rfl) rfl (fun x8 K hK => ?_)
      go_simp
      refine hK _ _ (Still.of_below ((Below.refl _ _).alloc (Nat.le_refl _) _)) ?_
      clear hK K
      have hb := x8.bw.trans ((BW.refl x8.now).alloc (o := .cells (ivA .u8 (zeros zz)) 5))
      have O6 := Lib.hid (OB.new x8.now w1.heap.size (zeros zz) zz (Nat.le_trans B5.out.size x8.bw.size) (zeros_len zz) (by unfold maxLen; omega) (fun x hx => by simp [zeros] at hx; omega))
      have E6 := Lib.hid (E5.out.bw hb)
      have B6 := Lib.hid (B5.out.trans hb)
      clear hb
      try simp only [Act.put, List.setIfInBounds_toArray, List.set_cons_succ, List.set_cons_zero]
      refine tail 9 rfl (by kernel_rfl) rfl (fun xr => ?_)
      simp only [List.drop_succ_cons, List.drop_zero]
      have hb := xr.bw
      replace E6 := Lib.hid (E6.out.bw hb)
      replace B6 := Lib.hid (B6.out.trans hb)
      replace O6 := Lib.hid (O6.out.bw hb)
      clear hb m0 E5 B5 X5 BC
      generalize xr.now = w7 at *
      have cK := keep_E w1 g gc gr gb 77 0 1 0 0 true 0 0 true yA 10 10000 v (keepL zz k) p (p * 4) (p * 4) yA _ (zeros zz) w7 E6.out hge.out.2.2.1 B6.out (keep_srt zz k) (by rw [keep_len]; omega) (by rw [keep_lens]; have : k * zz ≤ 8 * 255 := Nat.mul_le_mul (by omega) hzz; omega) (by rw [zeros_len]; exact O6.out.sb) (by rw [zeros_len]; omega) (by decide) (by decide) (by decide) (by decide)
      rw [show putN 10 10000 (keepL zz k) yA (zeros zz) = (0, keepL zz (k + 1)) by rw [hyA.out]; exact keep_put zz k hkn hzz] at cK
      replace cK := Lib.hid cK
      clear O6 mk d1 E6 B6
      generalize x8.now.heap.size = gz at *
      go_wp2_with fail
      refine Calls.mono cK.out ?_
      rintro e w8 ⟨rfl, ⟨v8, E8⟩, B8⟩
      replace B8 := Lib.hid B8
      have E9 : Hid (EgI w8 w1.heap.size g gc gr gb 77 1 0 (if k + 1 = 0 then -1 else 0) 0 (decide (0 < k + 1)) 0 0 (decide (0 < k + 1)) ((k + 1 - 1 : Nat) : Int) 10 10000 v8 (keepL zz (k + 1)) p (p * 4) (p * 4)) := by
        rw [if_neg (by omega), decide_eq_true (by omega), show ((k + 1 - 1 : Nat) : Int) = yA by rw [hyA.out]; omega]
        exact Lib.hid E8
      clear E8 cK hyA htA hsA
      dsimp only
      go_wp2_with fail
      go_roundg (8 - (k + 1))
      case measure => omega
      case rel => exact ⟨k + 1, v8, rfl, by omega, by first | rfl | (congr 1; omega), E9, B8⟩
    · obtain rfl : k = 8 := by omega
      have d1 : decide (((8 : Nat) : Int) < 8) = false := by decide
      replace E : Hid (EgI wr w1.heap.size g gc gr gb 77 1 0 0 0 true 0 0 true 7 10 10000 v (keepL zz 8) p (p * 4) (p * 4)) := E
      rename World => wo
      go_upto_region 15 with (fail)
      go_loopg [11, 12, 13] ln (fun m' sent_ ticks_ i wx => ∃ (k : Nat) (sent ticks hv : Int), m' = ln - k ∧ k ≤ ln ∧ k ≤ 60 ∧ i = .int .i64 (k : Nat) ∧ sent_ = .int .u64 sent ∧ ticks_ = .int .u64 ticks ∧ Hid (0 ≤ sent ∧ 0 ≤ ticks ∧ ticks ≤ k ∧ 0 ≤ hv ∧ sent + hv ≤ (4 + ticks) * p) ∧ Hid (EgI wx w1.heap.size g gc gr gb 77 1 0 0 0 true 0 0 true 7 10 10000 v (keepL zz 8) p (p * 4) hv) ∧ Hid (BW w1 wx))
      case atStart => exact ⟨0, 0, 0, p * 4, by omega, by omega, by omega, rfl, rfl, rfl, Lib.hid ⟨by omega, by omega, by omega, by omega, by omega⟩, E, B⟩
      case round =>
        clear E B
        obtain ⟨k, sent, ticks, hv, rfl, hk, hk60, rfl, rfl, rfl, hI, E, B⟩ := hrel
        by_cases hkn : k < ln
        · have d1 : decide ((k : Int) < (ln : Int)) = true := by simp; omega
          by_cases hk6 : k < 60
          · have d2 : decide ((k : Int) < 60) = true := by simp; omega
            obtain ⟨ga, oa, hsa, hcells⟩ : ∃ g o, sa = some ⟨g, o, none⟩ ∧ ∀ j, j < ln → w.cell? ⟨g, o + j, none⟩ = some (.int .u8 (al.getD j 0 : Nat)) := by
              obtain ⟨g, o, cap', hsl, _, _, _, hce⟩ := hAl.out.form (by omega)
              simp only [Value.slice.injEq] at hsl
              exact ⟨g, o, hsl.1, hce⟩
            have hx0 := hcells k hkn
            have hxb : al.getD k 0 < 256 := by
              rw [List.getD_eq_getElem?_getD, List.getElem?_eq_getElem (by omega)]
              exact hby.out _ (List.getElem_mem _)
            generalize al.getD k 0 = x at *
            have hx1 := (B1.out.trans B.out).cell hx0
            subst hsa
            clear hcells
            replace hx0 := Lib.hid hx0
            go_upto_region 17 with (fail)
            have m0 : ∀ y : LaterS [] wr, _ := fun y => y.bw.cell hx1
            refine wp_region_gg [] [] [14] (by kernel_rfl) ?_
            refine hoist [] [] (a1 := ?_) 0 rfl (by kernel_rfl) (.inl ⟨rfl, rfl⟩) rfl rfl rfl (fun x K hK => ?_) ?_
            rotate_left
            · go_big_quiet_op
              exact hK
            refine hoist [] [] (a1 := ?_) 1 rfl (by kernel_rfl) (.inl ⟨rfl, rfl⟩) rfl rfl rfl (fun x K hK => ?_) ?_
            rotate_left
            · go_big_quiet_op
              exact hK
            refine hoist [] [] (a1 := ?_) 2 rfl (by kernel_rfl) (.inl ⟨rfl, rfl⟩) rfl rfl rfl (fun x K hK => ?_) ?_
            rotate_left
            · go_big_quiet_op
              exact hK
            refine hoist [] [] (a1 := ?_) 3 rfl (by kernel_rfl) (.inl ⟨rfl, rfl⟩) rfl rfl rfl (fun x K hK => ?_) ?_
            rotate_left
            · go_big_quiet_op
              exact hK
            refine hoist [] [] (a1 := ?_) 4 rfl (by kernel_rfl) (.inl ⟨rfl, rfl⟩) rfl rfl rfl (fun x K hK => ?_) ?_
            rotate_left
            · go_big_quiet_op
              exact hK
            refine hoist [] [] (a1 := ?_) 5 rfl (by kernel_rfl) (.inl ⟨rfl, rfl⟩) rfl rfl rfl (fun x K hK => ?_) ?_
            rotate_left
            · go_big_quiet_op
              exact hK
            refine hoist [] [] (a1 := ?_) 6 rfl (by kernel_rfl) (.inl ⟨rfl, rfl⟩) rfl rfl rfl (fun x K hK => ?_) ?_
            rotate_left
            · go_big_quiet_op
              exact hK
            refine hoist [] [] (a1 := ?_) 7 rfl (by kernel_rfl) (.inl ⟨rfl, rfl⟩) rfl rfl rfl (fun x K hK => ?_) ?_
            rotate_left
            · go_big_quiet_op
              exact hK
            refine hoist [] [] (a1 := ?_) 8 rfl (by kernel_rfl) (.inl ⟨rfl, rfl⟩) rfl rfl rfl (fun x K hK => ?_) ?_
            rotate_left
            · go_big_quiet_op
              exact hK
            refine hoist [] [] (a1 := ?_) 9 rfl (by kernel_rfl) (.inl ⟨rfl, rfl⟩) rfl rfl rfl (fun x K hK => ?_) ?_
            rotate_left
            · go_big_quiet_op
              exact hK
            refine hoist [] [] (a1 := ?_) 10 rfl (by kernel_rfl) (.inl ⟨rfl, rfl⟩) rfl rfl rfl (fun x K hK => ?_) ?_
            rotate_left
            · go_big_quiet_op
              exact hK
            refine hoist [] [] (a1 := ?_) 11 rfl (by kernel_rfl) (.inl ⟨rfl, rfl⟩) rfl rfl rfl (fun x K hK => ?_) ?_
            rotate_left
            · go_big_quiet_op
              exact hK
            refine hoist [] [] (a1 := ?_) 12 rfl (by kernel_rfl) (.inl ⟨rfl, rfl⟩) rfl rfl rfl (fun x K hK => ?_) ?_
            rotate_left
            · go_big_quiet_op
              exact hK
            refine effect 13 rfl (by kernel_rfl) (by kernel_rfl) rfl (fun x13 K hK => ?_)
            go_simp
            refine hK _ _ (Still.of_below ((Below.refl _ _).alloc (Nat.le_refl _) _)) ?_
            clear hK K
            have hb := x13.bw.trans ((BW.refl x13.now).alloc (o := .cells #[.int .u16 ((x : Int) % 8), .int .u16 (x : Int)] 75))
            have E2 := Lib.hid (E.out.bw hb)
            have B2 := Lib.hid (B.out.trans hb)
            have X2 := Lib.hid (HpB.new x13.now (.cells #[.int .u16 ((x : Int) % 8), .int .u16 (x : Int)] 75))
            clear hb m0 hx1
            generalize x13.now.alloc (.cells #[.int .u16 ((x : Int) % 8), .int .u16 (x : Int)] 75) = w2 at *
            generalize x13.now.heap.size = gl at *
            try simp only [Act.put, List.setIfInBounds_toArray, List.set_cons_succ, List.set_cons_zero]
            refine tail 14 rfl (by kernel_rfl) rfl (fun xr => ?_)
            simp only [List.drop_succ_cons, List.drop_zero]
            have E3 := Lib.hid (E2.out.bw xr.bw)
            have B3 := Lib.hid (B2.out.trans xr.bw)
            have X3 := Lib.hid (X2.out.bw xr.bw)
            clear E2 B2 X2 E B
            generalize xr.now = w3 at *
            have hmx : (4 + ticks) * p ≤ 64 * 255 := Int.le_trans (Int.mul_le_mul_of_nonneg_right (by have := hI.out; omega) p0) (Int.mul_le_mul_of_nonneg_left p1 (by omega))
            have hm0 : 0 ≤ (4 + ticks) * p := Int.mul_nonneg (by have := hI.out; omega) p0
            replace hmx := Lib.hid hmx
            replace hm0 := Lib.hid hm0
            have cK := Lib.hid (nack_E w1 g gc gr gb 77 1 0 0 0 true 0 0 true 7 10 10000 v (keepL zz 8) p (p * 4) hv gl ((x : Int) % 8) (x : Int) w3 E3.out hge.out.2.2.2 B3.out (keep_srt zz 8) (by rw [keep_len]; decide) (by rw [keep_lens]; omega) (by have := hI.out; have := hmx.out; omega) (by decide) X3.out)
            clear X3 B3 E3
            go_wp2_with fail
            refine Calls.mono cK.out ?_
            rintro e w4 ⟨sl, n, cl_, Ls, hv', rfl, hcl, hn17, QL, hv0, hsum, E4, B4⟩
            replace QL := Lib.hid QL
            replace E4 := Lib.hid E4
            replace B4 := Lib.hid B4
            replace hsum := Lib.hid hsum
            clear cK
            dsimp only
            go_upto_region 19 with (fail)
            go_loopg [11, 15] n (fun m' s_ i wx => ∃ j : Nat, m' = n - j ∧ j ≤ n ∧ i = .int .i64 (j : Nat) ∧ s_ = .int .u64 (sent + ((Ls.take j).sum : Nat)) ∧ w4 = wx)
            case atStart => exact ⟨0, by omega, by omega, rfl, by simp, rfl⟩
            case round =>
              obtain ⟨j, rfl, hj, rfl, rfl, rfl⟩ := hrel
              have hLn : Ls.length = n := QL.out.1
              have hs0 := sum_take_le Ls j
              have hb1 : 0 ≤ sent := hI.out.1
              have hb2 : sent + hv ≤ 16320 := by have := hI.out; have := hmx.out; omega
              have hb3 := hsum.out
              by_cases hjn : j < n
              · have d3 : decide ((j : Int) < (n : Int)) = true := by simp; omega
                obtain ⟨gq, oq, hsl, hcs⟩ := lb_form QL.out (by omega)
                obtain ⟨sy, cy, hy⟩ := hcs j (by omega)
                have hs1 : (Ls.take (j + 1)).sum = (Ls.take j).sum + Ls[j] := by rw [List.take_succ_eq_append_getElem (by omega), sum_snoc]
                have hs2 := sum_take_le Ls (j + 1)
                generalize Ls[j] = y at *
                subst hsl
                clear hcs
                replace hs1 := Lib.hid hs1
                generalize (Ls.take j).sum = t at *
                have hb4 : sent + (t : Int) + (y : Int) ≤ 16320 := by have := hs1.out; omega
                go_wp2_with fail
                go_roundg (n - (j + 1))
                case measure => omega
                case rel => exact ⟨j + 1, rfl, by omega, by first | rfl | (congr 1; omega), by rw [hs1.out]; congr 1; omega, rfl⟩
              · obtain rfl : n = j := by omega
                have d3 : decide ((n : Int) < (n : Int)) = false := by simp
                have hfull : Ls.take n = Ls := List.take_of_length_le (by omega)
                rw [hfull]
                obtain ⟨s2, hs2⟩ : ∃ s2 : Int, sent + (Ls.sum : Nat) = s2 := ⟨_, rfl⟩
                rw [hs2]
                have hle : s2 + hv' ≤ (4 + ticks) * p := by have := hI.out; omega
                have hm1 := hmx.out
                have hm2 := hm0.out
                have ht0 : 0 ≤ ticks ∧ ticks ≤ 60 := by have := hI.out; omega
                have hs3 : 0 ≤ s2 := by omega
                have d4 : decide ((4 + ticks) * p < s2) = false := by simp; omega
                have hx2 := (B1.out.trans B4.out).cell hx0.out
                clear hb1 hb2 hb3 hs0 hs2 hfull
                go_upto_if 106 with (fail)
                obtain ⟨tb, htb⟩ : ∃ tb : Bool, ((x : Int) % 3 == 0) = tb := ⟨_, rfl⟩
                rw [htb]
                clear htb hx2
                cases tb with
                | false =>
                  go_wp2_with fail
                  go_roundg (ln - (k + 1))
                  case measure => omega
                  case rel => exact ⟨k + 1, s2, ticks, hv', rfl, by omega, by omega, by first | rfl | (congr 1; omega), rfl, rfl, Lib.hid ⟨hs3, ht0.1, by have := hI.out; omega, hv0, hle⟩, E4, B4⟩
                | true =>
                  have cT := Lib.hid (tick_E w1 g gc gr gb 77 0 1 0 0 true 0 0 true 7 10 10000 v (keepL zz 8) p (p * 4) hv' w4 E4.out hge.out.2.2.2 B4.out p0 (by omega))
                  have hgv := Lib.hid (giveN_le (u := p * 4) (h := hv') (n := p) hv0 p0 (by omega))
                  generalize giveN (p * 4) hv' p = h2 at *
                  go_wp2_with fail
                  refine Calls.mono cT.out ?_
                  rintro e w5 ⟨rfl, E5, B5⟩
                  replace E5 := Lib.hid E5
                  replace B5 := Lib.hid B5
                  clear cT
                  dsimp only
                  go_wp2_with fail
                  go_roundg (ln - (k + 1))
                  case measure => omega
                  case rel => exact ⟨k + 1, s2, ticks + 1, h2, rfl, by omega, by omega, by first | rfl | (congr 1; omega), rfl, rfl, Lib.hid ⟨hs3, by omega, by have := hI.out; omega, hgv.out.1, by have := hgv.out.2; rw [show 4 + (ticks + 1) = (4 + ticks) + 1 by omega, Int.add_mul, Int.one_mul]; omega⟩, E5, B5⟩
          · have d2 : decide ((k : Int) < 60) = false := by simp; omega
            go_wp2_with fail
            go_ret
            exact ⟨rfl, B1.out.trans B.out⟩
        · have d1 : decide ((k : Int) < (ln : Int)) = false := by simp; omega
          go_wp2_with fail
          go_ret
          exact ⟨rfl, B1.out.trans B.out⟩
end Go.Proofs.Ytojedpahaifjgaa
