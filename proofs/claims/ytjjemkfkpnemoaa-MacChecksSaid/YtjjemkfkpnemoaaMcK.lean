/- The law MacChecks. No condition. -/
import Derived.Test.YtjjemkfkpnemoaaMcL
import Derived.Lib.Bytes
namespace Go.Proofs.Ytjjemkfkpnemoaa
open Go.RowKit

theorem goodB_true (key m : List Nat) (n : Nat) (h1 : 1 ≤ n) (h2 : n ≤ 20) : goodB key m ((hmacN key m).take n) = true := by
  unfold goodB
  have : ((hmacN key m).take n).length = n := by rw [List.length_take, hmac_len]; omega
  rw [this]; simp [h1, h2]
theorem goodB_false (key m tag : List Nat) (n : Nat) (hn : tag.length = n) (h : tag ≠ (hmacN key m).take n) : goodB key m tag = false := by
  unfold goodB
  rw [hn]; simp [h]
theorem turned_ne (l : List Nat) (j : Nat) (hj : j < l.length) : l.set j (l.getD j 0 ^^^ 1) ≠ l := fun h => by
  have h2 := congrArg (fun x => x.getD j 0) h
  simp only [List.getD_eq_getElem?_getD, List.getElem?_set_self hj, Option.getD_some] at h2
  have h3 := congrArg (fun z => z ^^^ (l[j]?.getD 0)) h2
  simp only [Nat.xor_self] at h3
  rw [Nat.xor_comm, ← Nat.xor_assoc, Nat.xor_self, Nat.zero_xor] at h3
  cases h3
theorem bytes_inj {a b : List Nat} (ha : ByL a) (hb : ByL b) (h1 : (a.map fun (n : Nat) => (n : Int)).map (fun n => UInt8.ofNat n.toNat) = (b.map fun (n : Nat) => (n : Int)).map (fun n => UInt8.ofNat n.toNat)) : a = b := by
  have h2 := congrArg (fun l => l.map UInt8.toNat) h1
  simp only [List.map_map] at h2
  have key : ∀ l : List Nat, ByL l → l.map (UInt8.toNat ∘ (fun n : Int => UInt8.ofNat n.toNat) ∘ fun (n : Nat) => (n : Int)) = l := fun l hl => by
    conv => rhs; rw [← List.map_id l]
    refine List.map_congr_left fun x hx => ?_
    have := hl x hx
    simp [Function.comp, Nat.mod_eq_of_lt this]
  rw [key a ha, key b hb] at h2
  exact h2
/-- '==' of two strings of bytes. -/
theorem bstr_beq {a b : List Nat} (ha : ByL a) (hb : ByL b) : ((bstr a).toList == (bstr b).toList) = decide (a = b) := by
  rw [Bool.eq_iff_iff]
  simp only [beq_iff_eq, decide_eq_true_eq]
  constructor
  · intro h
    unfold bstr at h
    rw [Lib.strOfNums_toList, Lib.strOfNums_toList] at h
    exact bytes_inj ha hb h
  · rintro rfl; rfl

set_option maxRecDepth 100000 in
set_option maxHeartbeats 8000000 in
theorem law_checks (a0 : Option Addr) (len0 cap0 : Nat) (a1 : Option Addr) (len1 cap1 : Nat) (a2 : Option Addr) (len2 cap2 : Nat) (a3 a4 : Int) (w : World) (w0 : Rd w (.loop (.label 4)) [.slice a0 len0 cap0]) (w1 : Rd w (.loop (.label 4)) [.slice a1 len1 cap1]) (w2 : Rd w (.loop (.label 4)) [.slice a2 len2 cap2]) (w3 : (Lit.int .u8 a3).wf = true) (w4 : (Lit.int .u8 a4).wf = true) :
    Calls Try.prog 15 #[.slice a0 len0 cap0, .slice a1 len1 cap1, .slice a2 len2 cap2, .int .u8 a3, .int .u8 a4] w fun e w' => e = .returned (.bool true) ∧ Below w.heap.size w w' := by
  obtain ⟨key, hk⟩ := SB_of_Rd w0
  obtain ⟨m, hm⟩ := SB_of_Rd w1
  obtain ⟨tag, ht⟩ := SB_of_Rd w2
  have b3 := bounds_u8 w3
  have b4 := bounds_u8 w4
  obtain ⟨c3, rfl⟩ := Int.eq_ofNat_of_zero_le b3.1
  obtain ⟨c4, rfl⟩ := Int.eq_ofNat_of_zero_le b4.1
  clear w0 w1 w2 w3 w4
  have uk := hk.unpack
  have um := hm.unpack
  have ut := ht.unpack
  have hml := Lib.hid um.2.2.1
  have htl := Lib.hid ut.2.2.1
  have htb := Lib.hid ut.2.2.2
  have q1 := um.1
  have q2 := um.2.1
  have q3 := uk.1
  have q4 := uk.2.1
  have q5 := ut.1
  have q6 := ut.2.1
  clear uk um ut
  replace hk := Lib.hid hk
  replace hm := Lib.hid hm
  replace ht := Lib.hid ht
  have B := Lib.hid (BW.refl w)
  go_enter Try.func15, Try.ntmps15
  go_wp2_with fail
  refine Calls.mono (macalive_any w) ?_
  rintro e w1 ⟨rfl, hb⟩
  replace hb : BW w w1 := BW.call (by repeat (first | exact BW.refl _ | apply BW.alloc | apply BW.drewN | apply BW.drew)) hb
  replace B := Lib.hid (B.out.trans hb)
  clear hb
  dsimp only
  by_cases h0 : 300 < len0
  · have d0 : (300 : Int) < len0 := by omega
    go_wp2_with fail
    go_ret
    exact ⟨rfl, B.out⟩
  have d0 : ¬ (300 : Int) < len0 := by omega
  by_cases h1 : 600 < len1
  · have d1 : (600 : Int) < len1 := by omega
    go_wp2_with fail
    go_ret
    exact ⟨rfl, B.out⟩
  have d1 : ¬ (600 : Int) < len1 := by omega
  by_cases h2 : 60 < len2
  · have d2 : (60 : Int) < len2 := by omega
    go_wp2_with fail
    go_ret
    exact ⟨rfl, B.out⟩
  have d2 : ¬ (60 : Int) < len2 := by omega
  go_wp2_with fail
  refine Calls.mono (rfull_ok a0 len0 cap0 a1 len1 cap1 key m (by omega) (by omega) w1 (hk.out.bw B.out) (hm.out.bw B.out)) ?_
  rintro e w2 ⟨v2, rfl, O2, hb⟩
  replace hb : BW w1 w2 := BW.call (by repeat (first | exact BW.refl _ | apply BW.alloc | apply BW.drewN | apply BW.drew)) hb
  replace B := Lib.hid (B.out.trans hb)
  clear hb
  dsimp only
  obtain ⟨s2, c2, rfl, p1, p2⟩ := O2.len
  unfold maxLen at p2
  replace O2 := Lib.hid O2
  have hH := Lib.hid (hmac_len key m)
  have hHb := Lib.hid (hmac_byt key m)
  have hg0 := Lib.hid (goodB_true key m)
  have hg1 := Lib.hid (goodB_false key m)
  have hck := fun st nt ct tag wz sp hk ht hp => Lib.hid (check_ok a0 len0 cap0 st nt ct sp 1 1 key tag [m] (by omega) (by decide) (by simp [hml.out]; omega) wz hk ht hp)
  have hf : ([m] : List (List Nat)).flatten = m := by simp
  rw [hf] at hck
  replace hf := Lib.hid hf
  have B2 := Lib.hid (BW.refl w2)
  go_upto_region 6 with (fail)
  have hCk := Lib.hid (fun st nt ct wz sp hk ht hp => hck st nt ct tag wz sp hk ht hp)
  generalize hG0 : goodB key m tag = G at *
  replace hG0 := Lib.hid hG0
  go_cut [12] (fun v wc => v = .bool G ∧ Hid (BW w2 wc))
  case first =>
    by_cases k1 : 1 ≤ len2
    · have d3 : decide ((1 : Int) ≤ len2) = true := by simp; omega
      by_cases k2 : len2 ≤ 20
      · have d4 : decide ((len2 : Int) ≤ 20) = true := by simp; omega
        have hr : (len2 : Int) % 21 = (len2 : Int) := by omega
        have C1 : ∀ x : LaterS [] w2, _ := fun x => conv_sb ((O2.out.takeN len2 k2).bw x.bw).sb
        have C2 : ∀ x : LaterS [] w2, _ := fun x => conv_sb (ht.out.bw (B.out.trans x.bw))
        have hG : ((bstr ((hmacN key m).take len2)).toList == (bstr tag).toList) = G := by
          rw [← hG0.out, bstr_beq (hHb.out.take _) htb.out]
          unfold goodB
          rw [htl.out]
          simp [k1, k2, eq_comm]
        generalize bstr ((hmacN key m).take len2) = K1 at *
        generalize bstr tag = K2 at *
        refine wp_region_gg [] [] [] (by kernel_rfl) ?_
        refine hoist [] [] (a1 := ?_) 0 rfl (by kernel_rfl) (.inl ⟨rfl, rfl⟩) rfl rfl rfl (fun x K hK => ?_) ?_
        rotate_left
        · go_big_quiet_op
          exact hK
        refine hoist [] [] (a1 := ?_) 1 rfl (by kernel_rfl) (.inl ⟨rfl, rfl⟩) rfl rfl rfl (fun x K hK => ?_) ?_
        rotate_left
        · go_big_quiet_op
          exact hK
        refine hoist [] [] (a1 := ?_) 2 rfl (by kernel_rfl) (.inl ⟨rfl, rfl⟩) rfl rfl rfl (fun x K hK => ?_) ?_
        rotate_left
        · go_big_quiet_op
          exact hK
        refine hoist [] [] (a1 := ?_) 3 rfl (by kernel_rfl) (.inl ⟨rfl, rfl⟩) rfl rfl rfl (fun x K hK => ?_) ?_
        rotate_left
        · go_big_quiet_op
          exact hK
        refine hoist [] [] (a1 := ?_) 4 rfl (by kernel_rfl) (.inl ⟨rfl, rfl⟩) rfl rfl rfl (fun x K hK => ?_) ?_
        rotate_left
        · go_big_quiet_op
          exact hK
        refine hoist [] [] (a1 := ?_) 5 rfl (by kernel_rfl) (.inl ⟨rfl, rfl⟩) rfl rfl rfl (fun x K hK => ?_) ?_
        rotate_left
        · go_big_quiet_op
          exact hK
        refine hoist [] [] (a1 := ?_) 6 rfl (by kernel_rfl) (.inl ⟨rfl, rfl⟩) rfl rfl rfl (fun x K hK => ?_) ?_
        rotate_left
        · go_big_quiet_op
          exact hK
        refine hoist [] [] (a1 := ?_) 7 rfl (by kernel_rfl) (.inl ⟨rfl, rfl⟩) rfl rfl rfl (fun x K hK => ?_) ?_
        rotate_left
        · go_big_quiet_op
          exact hK
        refine hoist [] [] (a1 := ?_) 8 rfl (by kernel_rfl) (.inl ⟨rfl, rfl⟩) rfl rfl rfl (fun x K hK => ?_) ?_
        rotate_left
        · go_big_quiet_op
          exact hK
        refine hoist [] [] (a1 := ?_) 9 rfl (by kernel_rfl) (.inl ⟨rfl, rfl⟩) rfl rfl rfl (fun x K hK => ?_) ?_
        rotate_left
        · go_big_quiet_op
          exact hK
        refine hoist [] [] (a1 := ?_) 10 rfl (by kernel_rfl) (.inl ⟨rfl, rfl⟩) rfl rfl rfl (fun x K hK => ?_) ?_
        rotate_left
        · go_big_quiet_op
          exact hK
        refine hoist [] [] (a1 := ?_) 11 rfl (by kernel_rfl) (.inl ⟨rfl, rfl⟩) rfl rfl rfl (fun x K hK => ?_) ?_
        rotate_left
        · go_big_quiet_op
          exact hK
        refine hoist [] [] (a1 := ?_) 12 rfl (by kernel_rfl) (.inl ⟨rfl, rfl⟩) rfl rfl rfl (fun x K hK => ?_) ?_
        rotate_left
        · go_big_quiet_op
          exact hK
        refine hoist [] [] (a1 := ?_) 13 rfl (by kernel_rfl) (.inl ⟨rfl, rfl⟩) rfl rfl rfl (fun x K hK => ?_) ?_
        rotate_left
        · go_big_quiet_op
          exact hK
        refine hoist [] [] (a1 := ?_) 14 rfl (by kernel_rfl) (.inl ⟨rfl, rfl⟩) rfl rfl rfl (fun x K hK => ?_) ?_
        rotate_left
        · go_big_quiet_op
          exact hK
        refine hoist [] [] (a1 := ?_) 15 rfl (by kernel_rfl) (.inl ⟨rfl, rfl⟩) rfl rfl rfl (fun x K hK => ?_) ?_
        rotate_left
        · go_big_quiet_op
          exact hK
        refine hoist [] [] (a1 := ?_) 16 rfl (by kernel_rfl) (.inl ⟨rfl, rfl⟩) rfl rfl rfl (fun x K hK => ?_) ?_
        rotate_left
        · go_big_quiet_op
          exact hK
        refine hoist [] [] (a1 := ?_) 17 rfl (by kernel_rfl) (.inl ⟨rfl, rfl⟩) rfl rfl rfl (fun x K hK => ?_) ?_
        rotate_left
        · go_big_quiet_op
          exact hK
        refine hoist [] [] (a1 := ?_) 18 rfl (by kernel_rfl) (.inl ⟨rfl, rfl⟩) rfl rfl rfl (fun x K hK => ?_) ?_
        rotate_left
        · go_big_quiet_op
          exact hK
        refine hoist [] [] (a1 := ?_) 19 rfl (by kernel_rfl) (.inl ⟨rfl, rfl⟩) rfl rfl rfl (fun x K hK => ?_) ?_
        rotate_left
        · go_big_quiet_op
          exact hK
        refine done (by kernel_rfl) (fun xr => ?_)
        go_wp2_with fail
        go_meet
        exact ⟨rfl, xr.bw⟩
      · have d4 : decide ((len2 : Int) ≤ 20) = false := by simp; omega
        obtain rfl : G = false := by rw [← hG0.out]; unfold goodB; rw [htl.out]; simp [k2]
        refine wp_region_gg [] [] [] (by kernel_rfl) ?_
        refine hoist [] [] (a1 := ?_) 0 rfl (by kernel_rfl) (.inl ⟨rfl, rfl⟩) rfl rfl rfl (fun x K hK => ?_) ?_
        rotate_left
        · go_big_quiet_op
          exact hK
        refine hoist [] [] (a1 := ?_) 1 rfl (by kernel_rfl) (.inl ⟨rfl, rfl⟩) rfl rfl rfl (fun x K hK => ?_) ?_
        rotate_left
        · go_big_quiet_op
          exact hK
        refine hoist [] [] (a1 := ?_) 2 rfl (by kernel_rfl) (.inl ⟨rfl, rfl⟩) rfl rfl rfl (fun x K hK => ?_) ?_
        rotate_left
        · go_big_quiet_op
          exact hK
        refine hoist [] [] (a1 := ?_) 3 rfl (by kernel_rfl) (.inl ⟨rfl, rfl⟩) rfl rfl rfl (fun x K hK => ?_) ?_
        rotate_left
        · go_big_quiet_op
          exact hK
        refine hoist [] [] (a1 := ?_) 4 rfl (by kernel_rfl) (.inl ⟨rfl, rfl⟩) rfl rfl rfl (fun x K hK => ?_) ?_
        rotate_left
        · go_big_quiet_op
          exact hK
        refine hoist [] [] (a1 := ?_) 5 rfl (by kernel_rfl) (.inl ⟨rfl, rfl⟩) rfl rfl rfl (fun x K hK => ?_) ?_
        rotate_left
        · go_big_quiet_op
          exact hK
        refine hoist [] [] (a1 := ?_) 6 rfl (by kernel_rfl) (.inl ⟨rfl, rfl⟩) rfl rfl rfl (fun x K hK => ?_) ?_
        rotate_left
        · go_big_quiet_op
          exact hK
        refine hoist [] [] (a1 := ?_) 7 rfl (by kernel_rfl) (.inl ⟨rfl, rfl⟩) rfl rfl rfl (fun x K hK => ?_) ?_
        rotate_left
        · go_big_quiet_op
          exact hK
        refine hoist [] [] (a1 := ?_) 8 rfl (by kernel_rfl) (.inl ⟨rfl, rfl⟩) rfl rfl rfl (fun x K hK => ?_) ?_
        rotate_left
        · go_big_quiet_op
          exact hK
        refine hoist_skip [] [] 9 rfl (by kernel_rfl) (.inl ⟨rfl, rfl⟩) rfl (a1 := ?_) ?_ ?_
        rotate_left
        · simp only [Act.put, List.setIfInBounds_toArray, List.set_cons_succ, List.set_cons_zero]; rfl
        refine hoist_skip [] [] 10 rfl (by kernel_rfl) (.inl ⟨rfl, rfl⟩) rfl (a1 := ?_) ?_ ?_
        rotate_left
        · simp only [Act.put, List.setIfInBounds_toArray, List.set_cons_succ, List.set_cons_zero]; rfl
        refine hoist_skip [] [] 11 rfl (by kernel_rfl) (.inl ⟨rfl, rfl⟩) rfl (a1 := ?_) ?_ ?_
        rotate_left
        · simp only [Act.put, List.setIfInBounds_toArray, List.set_cons_succ, List.set_cons_zero]; rfl
        refine hoist_skip [] [] 12 rfl (by kernel_rfl) (.inl ⟨rfl, rfl⟩) rfl (a1 := ?_) ?_ ?_
        rotate_left
        · simp only [Act.put, List.setIfInBounds_toArray, List.set_cons_succ, List.set_cons_zero]; rfl
        refine hoist_skip [] [] 13 rfl (by kernel_rfl) (.inl ⟨rfl, rfl⟩) rfl (a1 := ?_) ?_ ?_
        rotate_left
        · simp only [Act.put, List.setIfInBounds_toArray, List.set_cons_succ, List.set_cons_zero]; rfl
        refine hoist_skip [] [] 14 rfl (by kernel_rfl) (.inl ⟨rfl, rfl⟩) rfl (a1 := ?_) ?_ ?_
        rotate_left
        · simp only [Act.put, List.setIfInBounds_toArray, List.set_cons_succ, List.set_cons_zero]; rfl
        refine hoist_skip [] [] 15 rfl (by kernel_rfl) (.inl ⟨rfl, rfl⟩) rfl (a1 := ?_) ?_ ?_
        rotate_left
        · simp only [Act.put, List.setIfInBounds_toArray, List.set_cons_succ, List.set_cons_zero]; rfl
        refine hoist_skip [] [] 16 rfl (by kernel_rfl) (.inl ⟨rfl, rfl⟩) rfl (a1 := ?_) ?_ ?_
        rotate_left
        · simp only [Act.put, List.setIfInBounds_toArray, List.set_cons_succ, List.set_cons_zero]; rfl
        refine hoist_skip [] [] 17 rfl (by kernel_rfl) (.inl ⟨rfl, rfl⟩) rfl (a1 := ?_) ?_ ?_
        rotate_left
        · simp only [Act.put, List.setIfInBounds_toArray, List.set_cons_succ, List.set_cons_zero]; rfl
        refine hoist [] [] (a1 := ?_) 18 rfl (by kernel_rfl) (.inl ⟨rfl, rfl⟩) rfl rfl rfl (fun x K hK => ?_) ?_
        rotate_left
        · go_big_quiet_op
          exact hK
        refine hoist [] [] (a1 := ?_) 19 rfl (by kernel_rfl) (.inl ⟨rfl, rfl⟩) rfl rfl rfl (fun x K hK => ?_) ?_
        rotate_left
        · go_big_quiet_op
          exact hK
        refine done (by kernel_rfl) (fun xr => ?_)
        go_wp2_with fail
        go_meet
        exact ⟨rfl, xr.bw⟩
    · have d3 : decide ((1 : Int) ≤ len2) = false := by simp; omega
      obtain rfl : G = false := by rw [← hG0.out]; unfold goodB; rw [htl.out]; simp [k1]
      refine wp_region_gg [] [] [] (by kernel_rfl) ?_
      refine hoist [] [] (a1 := ?_) 0 rfl (by kernel_rfl) (.inl ⟨rfl, rfl⟩) rfl rfl rfl (fun x K hK => ?_) ?_
      rotate_left
      · go_big_quiet_op
        exact hK
      refine hoist [] [] (a1 := ?_) 1 rfl (by kernel_rfl) (.inl ⟨rfl, rfl⟩) rfl rfl rfl (fun x K hK => ?_) ?_
      rotate_left
      · go_big_quiet_op
        exact hK
      refine hoist [] [] (a1 := ?_) 2 rfl (by kernel_rfl) (.inl ⟨rfl, rfl⟩) rfl rfl rfl (fun x K hK => ?_) ?_
      rotate_left
      · go_big_quiet_op
        exact hK
      refine hoist [] [] (a1 := ?_) 3 rfl (by kernel_rfl) (.inl ⟨rfl, rfl⟩) rfl rfl rfl (fun x K hK => ?_) ?_
      rotate_left
      · go_big_quiet_op
        exact hK
      refine hoist_skip [] [] 4 rfl (by kernel_rfl) (.inl ⟨rfl, rfl⟩) rfl (a1 := ?_) ?_ ?_
      rotate_left
      · simp only [Act.put, List.setIfInBounds_toArray, List.set_cons_succ, List.set_cons_zero]; rfl
      refine hoist_skip [] [] 5 rfl (by kernel_rfl) (.inl ⟨rfl, rfl⟩) rfl (a1 := ?_) ?_ ?_
      rotate_left
      · simp only [Act.put, List.setIfInBounds_toArray, List.set_cons_succ, List.set_cons_zero]; rfl
      refine hoist_skip [] [] 6 rfl (by kernel_rfl) (.inl ⟨rfl, rfl⟩) rfl (a1 := ?_) ?_ ?_
      rotate_left
      · simp only [Act.put, List.setIfInBounds_toArray, List.set_cons_succ, List.set_cons_zero]; rfl
      refine hoist [] [] (a1 := ?_) 7 rfl (by kernel_rfl) (.inl ⟨rfl, rfl⟩) rfl rfl rfl (fun x K hK => ?_) ?_
      rotate_left
      · go_big_quiet_op
        exact hK
      refine hoist [] [] (a1 := ?_) 8 rfl (by kernel_rfl) (.inl ⟨rfl, rfl⟩) rfl rfl rfl (fun x K hK => ?_) ?_
      rotate_left
      · go_big_quiet_op
        exact hK
      refine hoist_skip [] [] 9 rfl (by kernel_rfl) (.inl ⟨rfl, rfl⟩) rfl (a1 := ?_) ?_ ?_
      rotate_left
      · simp only [Act.put, List.setIfInBounds_toArray, List.set_cons_succ, List.set_cons_zero]; rfl
      refine hoist_skip [] [] 10 rfl (by kernel_rfl) (.inl ⟨rfl, rfl⟩) rfl (a1 := ?_) ?_ ?_
      rotate_left
      · simp only [Act.put, List.setIfInBounds_toArray, List.set_cons_succ, List.set_cons_zero]; rfl
      refine hoist_skip [] [] 11 rfl (by kernel_rfl) (.inl ⟨rfl, rfl⟩) rfl (a1 := ?_) ?_ ?_
      rotate_left
      · simp only [Act.put, List.setIfInBounds_toArray, List.set_cons_succ, List.set_cons_zero]; rfl
      refine hoist_skip [] [] 12 rfl (by kernel_rfl) (.inl ⟨rfl, rfl⟩) rfl (a1 := ?_) ?_ ?_
      rotate_left
      · simp only [Act.put, List.setIfInBounds_toArray, List.set_cons_succ, List.set_cons_zero]; rfl
      refine hoist_skip [] [] 13 rfl (by kernel_rfl) (.inl ⟨rfl, rfl⟩) rfl (a1 := ?_) ?_ ?_
      rotate_left
      · simp only [Act.put, List.setIfInBounds_toArray, List.set_cons_succ, List.set_cons_zero]; rfl
      refine hoist_skip [] [] 14 rfl (by kernel_rfl) (.inl ⟨rfl, rfl⟩) rfl (a1 := ?_) ?_ ?_
      rotate_left
      · simp only [Act.put, List.setIfInBounds_toArray, List.set_cons_succ, List.set_cons_zero]; rfl
      refine hoist_skip [] [] 15 rfl (by kernel_rfl) (.inl ⟨rfl, rfl⟩) rfl (a1 := ?_) ?_ ?_
      rotate_left
      · simp only [Act.put, List.setIfInBounds_toArray, List.set_cons_succ, List.set_cons_zero]; rfl
      refine hoist_skip [] [] 16 rfl (by kernel_rfl) (.inl ⟨rfl, rfl⟩) rfl (a1 := ?_) ?_ ?_
      rotate_left
      · simp only [Act.put, List.setIfInBounds_toArray, List.set_cons_succ, List.set_cons_zero]; rfl
      refine hoist_skip [] [] 17 rfl (by kernel_rfl) (.inl ⟨rfl, rfl⟩) rfl (a1 := ?_) ?_ ?_
      rotate_left
      · simp only [Act.put, List.setIfInBounds_toArray, List.set_cons_succ, List.set_cons_zero]; rfl
      refine hoist [] [] (a1 := ?_) 18 rfl (by kernel_rfl) (.inl ⟨rfl, rfl⟩) rfl rfl rfl (fun x K hK => ?_) ?_
      rotate_left
      · go_big_quiet_op
        exact hK
      refine hoist [] [] (a1 := ?_) 19 rfl (by kernel_rfl) (.inl ⟨rfl, rfl⟩) rfl rfl rfl (fun x K hK => ?_) ?_
      rotate_left
      · go_big_quiet_op
        exact hK
      refine done (by kernel_rfl) (fun xr => ?_)
      go_wp2_with fail
      go_meet
      exact ⟨rfl, xr.bw⟩
  case rest =>
    obtain ⟨rfl, B2⟩ := hcut
    replace B2 := B2
    go_wp2_with fail
    refine Calls.mono (hCk.out a2 len2 cap2 (wc.alloc (.cells #[.slice a1 len1 cap1] 37)) _ (hk.out.bw (B.out.trans B2.out.alloc)) (ht.out.bw (B.out.trans B2.out.alloc)) (SM.one wc _ _ _ (hm.out.bw (B.out.trans B2.out)))).out ?_
    rintro e w3 ⟨rfl, hb⟩
    have hb : BW wc w3 := ((BW.refl _).alloc.trans hb)
    replace B2 := Lib.hid (B2.out.trans hb)
    clear hb
    dsimp only
    clear hCk
    obtain ⟨n, en, n1, n2⟩ : ∃ n : Nat, (c3 : Int) % 20 + 1 = (n : Int) ∧ 1 ≤ n ∧ n ≤ 20 := ⟨c3 % 20 + 1, by omega, by omega, by omega⟩
    go_upto_region 10 with (fail)
    replace en := Lib.hid en
    have hTr := hg0.out n n1 n2
    have hF := fun tag ht => Lib.hid (hg1.out tag n ht)
    have O2t := Lib.hid (O2.out.takeN n n2)
    generalize hHt : (hmacN key m).take n = T at *
    have hTl := O2t.out.1
    replace hTr := Lib.hid hTr
    replace hTl := Lib.hid hTl
    go_upto_region 11 with (at_builtin; go_must (refine wpList_apOB rfl _ _ rfl w2.heap.size _ _ _ rfl (OB.new0 w3 w2.heap.size B2.out.size) _ rfl _ _ ((O2t.out.bw (B2.out.trans (BW.refl _).alloc)).sb) (by omega) (BW.trans B2.out (by repeat (first | exact BW.refl _ | apply BW.alloc | apply BW.drewN | apply BW.drew))).size ?_; intro s4 cq w4 hccq hmcq O4 hT hb hG; unfold maxLen at hmcq; replace hG := Lib.hid hG; replace hT := Lib.hid hT; skip))
    replace B2 := Lib.hid (BW.step (BW.trans B2.out (by repeat (first | exact BW.refl _ | apply BW.alloc | apply BW.drewN | apply BW.drew))) hb (Nat.le_refl _))
    replace O4 := Lib.hid O4
    clear hb
    simp only [Nat.zero_add, List.nil_append] at O4 hccq
    clear hT hG
    obtain ⟨g, o, cap, he, hgb, hgl, _, _, hcell, hfz⟩ := O4.out.form (by omega)
    cases he
    have hjn := Nat.mod_lt c4 n1
    obtain ⟨j, ej, hj⟩ : ∃ j : Nat, (c4 : Int) % (n : Int) = (j : Int) ∧ j < n := ⟨c4 % n, by simp, hjn⟩
    have hcj := hcell j hj
    have hy := O4.out.2.1.get j
    have hne := Lib.hid (turned_ne T j (by rw [hTl.out]; exact hj))
    generalize T.getD j 0 = y at *
    have e1 : bits .xor .u8 (y : Int) 1 = ((y ^^^ 1 : Nat) : Int) := by rw [show (1 : Int) = ((1 : Nat) : Int) from rfl]; exact u8_xor_nat y 1 hy (by decide)
    have hy1 : y ^^^ 1 < 256 := Nat.xor_lt_two_pow (n := 8) hy (by decide)
    generalize y ^^^ 1 = y1 at *
    have l1 : ∀ x : LaterS [] w4, x.now.cell? ⟨g, o + j, none⟩ = some (.int .u8 (y : Nat)) := fun x => x.cell hcj (by simp)
    have l2 : ∀ x : LaterS [] w4, x.now.frozen? ⟨g, o + j, none⟩ = false := fun x => by
      obtain ⟨g', o', cap', he, _, _, _, _, _, hf⟩ := (O4.out.bw x.bw).form (by omega)
      cases he
      exact hf _
    have j1 : (0 : Int) ≤ (j : Int) := by omega
    have j2 : (j : Int) < (n : Int) := by omega
    have n0 : (0 : Int) < (n : Int) := by omega
    clear hcell hfz hcj hjn
    try simp only [Act.put, List.setIfInBounds_toArray, List.set_cons_succ, List.set_cons_zero]
    refine wp_region_gg [] [] [13] (by kernel_rfl) ?_
    refine hoist [] [] (a1 := ?_) 0 rfl (by kernel_rfl) (.inl ⟨rfl, rfl⟩) rfl rfl rfl (fun x K hK => ?_) ?_
    rotate_left
    · go_big_quiet_op
      exact hK
    refine hoist [] [] (a1 := ?_) 1 rfl (by kernel_rfl) (.inl ⟨rfl, rfl⟩) rfl rfl rfl (fun x K hK => ?_) ?_
    rotate_left
    · go_big_quiet_op
      exact hK
    refine hoist [] [] (a1 := ?_) 2 rfl (by kernel_rfl) (.inl ⟨rfl, rfl⟩) rfl rfl rfl (fun x K hK => ?_) ?_
    rotate_left
    · go_big_quiet_op
      exact hK
    refine hoist [] [] (a1 := ?_) 3 rfl (by kernel_rfl) (.inl ⟨rfl, rfl⟩) rfl rfl rfl (fun x K hK => ?_) ?_
    rotate_left
    · go_big_quiet_op
      exact hK
    refine hoist [] [] (a1 := ?_) 4 rfl (by kernel_rfl) (.inl ⟨rfl, rfl⟩) rfl rfl rfl (fun x K hK => ?_) ?_
    rotate_left
    · go_big_quiet_op
      exact hK
    refine hoist [] [] (a1 := ?_) 5 rfl (by kernel_rfl) (.inl ⟨rfl, rfl⟩) rfl rfl rfl (fun x K hK => ?_) ?_
    rotate_left
    · go_big_quiet_op
      exact hK
    refine hoist [] [] (a1 := ?_) 6 rfl (by kernel_rfl) (.inl ⟨rfl, rfl⟩) rfl rfl rfl (fun x K hK => ?_) ?_
    rotate_left
    · go_big_quiet_op
      exact hK
    refine hoist [] [] (a1 := ?_) 7 rfl (by kernel_rfl) (.inl ⟨rfl, rfl⟩) rfl rfl rfl (fun x K hK => ?_) ?_
    rotate_left
    · go_big_quiet_op
      exact hK
    refine hoist [] [] (a1 := ?_) 8 rfl (by kernel_rfl) (.inl ⟨rfl, rfl⟩) rfl rfl rfl (fun x K hK => ?_) ?_
    rotate_left
    · go_big_quiet_op
      exact hK
    refine hoist [] [] (a1 := ?_) 9 rfl (by kernel_rfl) (.inl ⟨rfl, rfl⟩) rfl rfl rfl (fun x K hK => ?_) ?_
    rotate_left
    · go_big_quiet_op
      exact hK
    refine hoist [] [] (a1 := ?_) 10 rfl (by kernel_rfl) (.inl ⟨rfl, rfl⟩) rfl rfl rfl (fun x K hK => ?_) ?_
    rotate_left
    · go_big_quiet_op
      exact hK
    refine hoist [] [] (a1 := ?_) 11 rfl (by kernel_rfl) (.inl ⟨rfl, rfl⟩) rfl rfl rfl (fun x K hK => ?_) ?_
    rotate_left
    · go_big_quiet_op
      exact hK
    refine hoist [] [] (a1 := ?_) 12 rfl (by kernel_rfl) (.inl ⟨rfl, rfl⟩) rfl rfl rfl (fun x K hK => ?_) ?_
    rotate_left
    · go_big_quiet_op
      exact hK
    refine tail 13 rfl (by kernel_rfl) rfl (fun xr => ?_)
    simp only [List.drop_succ_cons, List.drop_zero]
    have O5 := Lib.hid ((O4.out.bw xr.bw).set j hj y1 hy1)
    have hgw := hgb
    go_upto_region 12 with (fail)
    have B5 := Lib.hid ((B2.out.trans xr.bw).set hgw (o := o + j) (v := .int .u8 (y1 : Nat)))
    generalize xr.now.setCell ⟨g, o + j, none⟩ (.int .u8 (y1 : Nat)) = w5 at *
    clear l1 l2 B2
    have kk := fun (wz : World) (bz : BW w2 wz) st nt ct tg (hsb : SB wz (.slice st nt ct) nt tg) => hck st nt ct tg (wz.alloc (.cells #[.slice a1 len1 cap1] 37)) (some ⟨wz.heap.size, 0, none⟩) (hk.out.bw (B.out.trans bz.alloc)) (hsb.alloc _) (SM.one wz _ _ _ (hm.out.bw (B.out.trans bz)))
    have d1 := (kk w5 B5.out s2 n c2 T (O2t.out.bw B5.out).sb).out
    rw [hTr.out] at d1
    have hbad := (hF (T.set j y1) (by rw [List.length_set]; exact hTl.out)).out hne.out
    replace d1 := Lib.hid d1
    go_wp2_with fail
    refine Calls.mono (d1.out) ?_
    rintro e w6 ⟨rfl, hb⟩
    replace hb : BW w5 w6 := BW.call (by repeat (first | exact BW.refl _ | apply BW.alloc | apply BW.drewN | apply BW.drew)) hb
    replace B5 := Lib.hid (B5.out.trans hb)
    replace O5 := Lib.hid (O5.out.bw hb)
    clear hb
    dsimp only
    have d2 := (kk w6 B5.out (some ⟨g, o, none⟩) n cq (T.set j y1) O5.out.sb).out
    rw [hbad] at d2
    replace d2 := Lib.hid d2
    replace hbad := Lib.hid hbad
    go_wp2_with fail
    refine Calls.mono (d2.out) ?_
    rintro e w7 ⟨rfl, hb⟩
    replace hb : BW w6 w7 := BW.call (by repeat (first | exact BW.refl _ | apply BW.alloc | apply BW.drewN | apply BW.drew)) hb
    replace B5 := Lib.hid (B5.out.trans hb)
    replace O5 := Lib.hid (O5.out.bw hb)
    clear hb
    dsimp only
    go_wp2_with fail
    go_ret
    exact ⟨rfl, B.out.trans B5.out⟩
end Go.Proofs.Ytjjemkfkpnemoaa
