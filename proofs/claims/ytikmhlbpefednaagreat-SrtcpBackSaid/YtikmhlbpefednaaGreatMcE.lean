/- The reference's tags: Full, Tag. No condition but the sizes'. -/
import Derived.Test.YtikmhlbpefednaaGreatGMc
import Derived.Test.YtikmhlbpefednaaGreatRfC
namespace Go.Proofs.YtikmhlbpefednaaGreat
open Go.RowKit
theorem xorl_snoc (K : List Nat) (c j : Nat) (h : j < K.length) : xorl (K.take (j + 1)) c = xorl (K.take j) c ++ [K.getD j 0 ^^^ c] := by
 unfold xorl
 rw [List.take_succ_eq_append_getElem h, List.map_append, List.getD_eq_getElem?_getD, List.getElem?_eq_getElem h]
 rfl
def key0 (key : List Nat) : List Nat := if 64 < key.length then sumN key else key
theorem bkey0 (key : List Nat) : bkey key = key0 key ++ List.replicate (64 - (key0 key).length) 0 := rfl
theorem key0_len (key : List Nat) : (key0 key).length ≤ 64 := by
 unfold key0
 split
 ·rw [sum_len]; decide
 ·omega
theorem pad_step (K : List Nat) (n : Nat) (h : K.length ≤ n) : (K ++ List.replicate (n - K.length) 0) ++ [0] = K ++ List.replicate (n + 1 - K.length) 0 := by
 rw [List.append_assoc, show n + 1 - K.length = (n - K.length) + 1 by omega, List.replicate_succ']
set_option maxRecDepth 100000 in
set_option maxHeartbeats 8000000 in
theorem rfull_ok (sk : Option Addr) (nk ck : Nat) (sm : Option Addr) (nm cm : Nat) (key m : List Nat) (hnk : nk ≤ 1000000000) (hnm : nm ≤ 100000000) (w : World) (hk : SB w (.slice sk nk ck) nk key) (hm : SB w (.slice sm nm cm) nm m) :
  Calls Tryz.prog 64 #[.slice sk nk ck, .slice sm nm cm] w fun e w' => ∃ v, e = .returned v ∧ OB w' w.heap.size 5 v 20 (hmacN key m) ∧ Below w.heap.size w w' := by
 have hbk := Lib.hid (bkey0 key)
 have hbl := Lib.hid (bkey_len key)
 have hk0 := key0_len key
 have hH : Hid (hmacN key m = sumN (xorl (bkey key) 92 ++ sumN (xorl (bkey key) 54 ++ m))) := rfl
 have hHl := Lib.hid (hmac_len key m)
 have hHb := Lib.hid (hmac_byt key m)
 have hxl : ∀ c, Hid ((xorl (bkey key) c).length = 64) := fun c => by simp [Hid, xorl, hbl.out]
 have hi1 := Lib.hid (sum_len (xorl (bkey key) 54 ++ m))
 have hi2 := Lib.hid (sum_byt (xorl (bkey key) 54 ++ m))
 have hk00 : Hid (key0 key = if 64 < key.length then sumN key else key) := rfl
 have hSl := Lib.hid (sum_len key)
 have hSb := Lib.hid (sum_byt key)
 have hkl := Lib.hid hk.1
 have V0 := Lib.hid hk
 have M0 := Lib.hid hm
 clear hk hm
 generalize hmacN key m = H at *
 generalize bkey key = BK at *
 generalize key0 key = K0 at *
 have B := Lib.hid (BW.refl w)
 go_enter Tryz.func64, Tryz.ntmps64
 go_upto_if 17 with (at_builtin; go_must (refine wpList_apOB rfl _ _ rfl w.heap.size _ _ _ rfl (OB.new0 w w.heap.size (Nat.le_refl _)) _ rfl _ _ (V0.out.bw (BW.refl _).alloc) (by omega) (BW.trans B.out (by repeat (first | exact BW.refl _ | apply BW.alloc | apply BW.drewN | apply BW.drew))).size ?_; intro s1 c1 w1 hcc1 hmc1 O1 hT hb hG; unfold maxLen at hmc1; replace hG := Lib.hid hG; replace hT := Lib.hid hT; skip))
 replace B := Lib.hid (BW.step (BW.trans B.out (by repeat (first | exact BW.refl _ | apply BW.alloc | apply BW.drewN | apply BW.drew))) hb (Nat.le_refl _))
 replace O1 := Lib.hid O1
 clear hb
 simp only [Nat.zero_add, List.nil_append] at O1 hcc1
 go_cut [5] (fun v wc => ∃ s c, v = .slice s K0.length c ∧ K0.length ≤ c ∧ c ≤ 9223372036854775807 ∧ Hid (OB wc w.heap.size 5 v K0.length K0) ∧ Hid (BW w wc))
 case first =>
  by_cases h64 : 64 < nk
  ·have hd : decide (64 < (nk : Int)) = true := by simp; omega
   have hK : K0 = sumN key := by rw [hk00.out, hkl.out, if_pos h64]
   have hS := Lib.hid (rsum_any _ nk key hnk w1 (V0.out.bw B.out))
   generalize sumN key = D at *
   subst hK
   go_wp2_with fail
   refine Calls.mono (hS.out) ?_
   rintro e w2 ⟨rfl, hb⟩
   replace hb : BW w1 w2 := BW.call (by repeat (first | exact BW.refl _ | apply BW.alloc | apply BW.drewN | apply BW.drew)) hb
   replace B := Lib.hid (B.out.trans hb)
   clear hb
   dsimp only
   go_upto_region 4 with (first | (refine wpList_alloc_of rfl 47 rfl _ zero20 ?_) | (refine wpList_store_new rfl 47 _ _ rfl _ (ivA .u8 K0) _ rfl rfl (by rw [info20, ivA_size, hSl.out]) (by rw [ivA_size, ivA_size, hSl.out, zeros_len]) (ivA_one _ _) ?_))
   have R3 := Lib.hid (HpB.new w2 (.cells (ivA .u8 K0) 47))
   generalize hw3 : w2.alloc (.cells (ivA .u8 K0) 47) = w3 at *
   have hb : BW w2 w3 := (by subst hw3; exact (BW.refl w2).alloc)
   replace B := Lib.hid (B.out.trans hb)
   clear hb
   generalize w2.heap.size = b3 at *
   try simp only [Act.put, List.setIfInBounds_toArray, List.set_cons_succ, List.set_cons_zero]
   have S3 := Lib.hid (SB_of_row (R3.out.bw ((BW.refl w3).alloc (o := .cells #[] 5))) hSb.out 20 20 (by rw [hSl.out]; exact Nat.le_refl _) (Nat.le_refl _) (by decide))
   rw [List.take_of_length_le (by rw [hSl.out]; exact Nat.le_refl _)] at S3
   go_wp2_with (at_builtin; go_must (refine wpList_apOB rfl _ _ rfl w.heap.size _ _ _ rfl (OB.new0 w3 w.heap.size B.out.size) _ rfl _ _ (S3.out) (by omega) (BW.trans B.out (by repeat (first | exact BW.refl _ | apply BW.alloc | apply BW.drewN | apply BW.drew))).size ?_; intro s4 c4 w4 hcc4 hmc4 O4 hT hb hG; unfold maxLen at hmc4; replace hG := Lib.hid hG; replace hT := Lib.hid hT; skip))
   replace B := Lib.hid (BW.step (BW.trans B.out (by repeat (first | exact BW.refl _ | apply BW.alloc | apply BW.drewN | apply BW.drew))) hb (Nat.le_refl _))
   replace O4 := Lib.hid O4
   clear hb
   simp only [Nat.zero_add, List.nil_append] at O4 hcc4
   go_meet
   have e : K0.length = 20 := hSl.out
   exact ⟨s4, c4, by rw [e], by omega, by omega, by rw [e]; exact O4, B⟩
  ·have hd : decide (64 < (nk : Int)) = false := by simp; omega
   have hK : K0 = key := by rw [hk00.out, hkl.out, if_neg h64]
   subst hK
   go_wp2_with fail
   go_meet
   have e : K0.length = nk := hkl.out
   exact ⟨s1, c1, by rw [e], by omega, by omega, by rw [e]; exact O1, B⟩
 case rest =>
  obtain ⟨s5, c5, rfl, hc5, hm5, O5, B5⟩ := hcut
  clear B O1 hk00 hSl hSb hkl V0 hT hG
  go_wp2_with fail
  go_loopg [5] (64 - K0.length) (fun m' v wx => ∃ (n : Nat) (s : Option Addr) (c : Nat), m' = 64 - n ∧ K0.length ≤ n ∧ n ≤ 64 ∧ v = .slice s n c ∧ n ≤ c ∧ c ≤ 9223372036854775807 ∧ Hid (OB wx w.heap.size 5 v n (K0 ++ List.replicate (n - K0.length) 0)) ∧ Hid (BW w wx))
  case atStart => exact ⟨K0.length, s5, c5, rfl, Nat.le_refl _, hk0, rfl, hc5, hm5, by simpa using O5, B5⟩
  case round =>
   clear O5 B5 hc5 hm5
   obtain ⟨n, s, c, rfl, hn1, hn2, rfl, hnc, hcm, O, B⟩ := hrel
   by_cases hn : n < 64
   ·skip
    go_wp2_with (at_builtin; go_must (refine wpList_apOB rfl _ _ rfl w.heap.size _ _ _ rfl (O.out.bw (BW.refl _).alloc) _ rfl _ _ (SB.new1 wr 5 0 (by decide)) (by omega) (BW.trans B.out (by repeat (first | exact BW.refl _ | apply BW.alloc | apply BW.drewN | apply BW.drew))).size ?_; intro s6 c6 w6 hcc6 hmc6 O6 hT hb hG; unfold maxLen at hmc6; replace hG := Lib.hid hG; replace hT := Lib.hid hT; skip))
    replace B := Lib.hid (BW.step (BW.trans B.out (by repeat (first | exact BW.refl _ | apply BW.alloc | apply BW.drewN | apply BW.drew))) hb (Nat.le_refl _))
    replace O6 := Lib.hid O6
    clear hb
    rw [pad_step K0 n hn1] at O6
    go_roundg (64 - (n + 1))
    case measure => omega
    case rel => exact ⟨n + 1, s6, c6, rfl, by omega, by omega, rfl, hcc6, hmc6, O6, B⟩
   ·obtain rfl : n = 64 := by omega
    rw [← hbk.out] at O
    clear hbk hn1 hn2 hn
    obtain ⟨wk, rfl⟩ : ∃ x, x = wr := ⟨_, rfl⟩
    go_wp2_with fail
    have B1 := Lib.hid (BW.refl wk)
    go_loopg [7, 8, 9] 64 (fun m' vi vo i wx => ∃ (j : Nat) (s1 : Option Addr) (c1 : Nat) (s2 : Option Addr) (c2 : Nat), m' = 64 - j ∧ j ≤ 64 ∧ i = .int .i64 (j : Nat) ∧ vi = .slice s1 j c1 ∧ vo = .slice s2 j c2 ∧ Hid (OB wx wk.heap.size 5 vi j (xorl (BK.take j) 54)) ∧ Hid (OB wx wk.heap.size 5 vo j (xorl (BK.take j) 92)) ∧ Hid (Apt vi vo) ∧ Hid (BW wk wx))
    case atStart => exact ⟨0, none, 0, none, 0, rfl, by omega, rfl, rfl, rfl, OB.nil _ _ _, OB.nil _ _ _, Apt.nil _, B1⟩
    case round =>
     clear B1
     obtain ⟨j, s1, c1, s2, c2, rfl, hj, rfl, rfl, rfl, O1, O2, A, B1⟩ := hrel
     by_cases hj64 : j < 64
     ·obtain ⟨g, o, cap, he, _, _, _, _, hcell, _⟩ := O.out.form (by omega)
      cases he
      have hc0 := Lib.hid (hcell j hj64)
      have hy := O.out.2.1.get j
      have x54 := Lib.hid (xorl_snoc BK 54 j (by rw [hbl.out]; exact hj64))
      have x92 := Lib.hid (xorl_snoc BK 92 j (by rw [hbl.out]; exact hj64))
      generalize BK.getD j 0 = y at *
      have e1 : bits .xor .u8 (y : Int) 54 = ((y ^^^ 54 : Nat) : Int) := by rw [show (54 : Int) = ((54 : Nat) : Int) from rfl]; exact u8_xor_nat y 54 hy (by decide)
      have e2 : bits .xor .u8 (y : Int) 92 = ((y ^^^ 92 : Nat) : Int) := by rw [show (92 : Int) = ((92 : Nat) : Int) from rfl]; exact u8_xor_nat y 92 hy (by decide)
      have q1 : y ^^^ 54 < 256 := Nat.xor_lt_two_pow (n := 8) hy (by decide)
      have q2 : y ^^^ 92 < 256 := Nat.xor_lt_two_pow (n := 8) hy (by decide)
      generalize y ^^^ 54 = y1 at *
      generalize y ^^^ 92 = y2 at *
      clear hcell
      have hcx := B1.out.cell hc0.out
      go_upto_region 12 with (at_builtin; go_must (refine wpList_apOB rfl _ _ rfl wk.heap.size _ _ _ rfl (O1.out.bw (BW.refl _).alloc) _ rfl _ _ (SB.new1 wr 5 y1 q1) (by omega) (BW.trans B1.out (by repeat (first | exact BW.refl _ | apply BW.alloc | apply BW.drewN | apply BW.drew))).size ?_; intro s7 c7 w7 hcc7 hmc7 O7 hT hb hG; unfold maxLen at hmc7; replace hG := Lib.hid hG; replace hT := Lib.hid hT; skip))
      replace B1 := Lib.hid (BW.step (BW.trans B1.out (by repeat (first | exact BW.refl _ | apply BW.alloc | apply BW.drewN | apply BW.drew))) hb (Nat.le_refl _))
      replace O7 := Lib.hid O7
      clear hb
      rw [← x54.out] at O7
      have A' := A
      replace A := Lib.hid ((A.out.grow hG.out (fun j hj => by have := O2.out.lt' j hj; simp; omega)))
      replace O2 := Lib.hid ((O2.out.alloc (.cells #[.int .u8 (y1 : Nat)] 5)).still hT.out (fun g hg => A'.out.notin g hg))
      have hcx7 := B1.out.cell hc0.out
      clear hT hG A' O1
      try simp only [Act.put, List.setIfInBounds_toArray, List.set_cons_succ, List.set_cons_zero]
      go_wp2_with (at_builtin; go_must (refine wpList_apOB rfl _ _ rfl wk.heap.size _ _ _ rfl (O2.out.bw (BW.refl _).alloc) _ rfl _ _ (SB.new1 w7 5 y2 q2) (by omega) (BW.trans B1.out (by repeat (first | exact BW.refl _ | apply BW.alloc | apply BW.drewN | apply BW.drew))).size ?_; intro s8 c8 w8 hcc8 hmc8 O8 hT hb hG; unfold maxLen at hmc8; replace hG := Lib.hid hG; replace hT := Lib.hid hT; skip))
      replace B1 := Lib.hid (BW.step (BW.trans B1.out (by repeat (first | exact BW.refl _ | apply BW.alloc | apply BW.drewN | apply BW.drew))) hb (Nat.le_refl _))
      replace O8 := Lib.hid O8
      clear hb
      rw [← x92.out] at O8
      have A8 := Lib.hid (A.out.symm.grow hG.out (fun j hj => by have := O7.out.lt' j hj; simp; omega)).symm
      have O7' := Lib.hid ((O7.out.alloc (.cells #[.int .u8 (y2 : Nat)] 5)).still hT.out (fun g hg => A.out.symm.notin g hg))
      go_roundg (64 - (j + 1))
      case measure => omega
      case rel => exact ⟨j + 1, s7, c7, s8, c8, rfl, by omega, by go_num, rfl, rfl, O7', O8, A8, B1⟩
     ·obtain rfl : j = 64 := by omega
      rw [List.take_of_length_le (by rw [hbl.out]; exact Nat.le_refl _)] at O1 O2
      have hwk := B.out.size
      replace B := Lib.hid (B.out.trans B1.out)
      replace O1 := Lib.hid (O1.out.up (base' := w.heap.size) hwk)
      replace O2 := Lib.hid (O2.out.up (base' := w.heap.size) hwk)
      have hx1 := Lib.hid (hxl 54).out
      have hx2 := Lib.hid (hxl 92).out
      generalize xorl BK 54 = X1 at *
      generalize xorl BK 92 = X2 at *
      clear B1 O hbl hxl
      go_wp2_with (at_builtin; go_must (refine wpList_apOB rfl _ _ rfl w.heap.size _ _ _ rfl (O1.out) _ rfl _ _ (M0.out.bw B.out) (by omega) (BW.trans B.out (by repeat (first | exact BW.refl _ | apply BW.alloc | apply BW.drewN | apply BW.drew))).size ?_; intro s11 c11 w11 hcc11 hmc11 O11 hT hb hG; unfold maxLen at hmc11; replace hG := Lib.hid hG; replace hT := Lib.hid hT; skip))
      replace B := Lib.hid (BW.step (BW.trans B.out (by repeat (first | exact BW.refl _ | apply BW.alloc | apply BW.drewN | apply BW.drew))) hb (Nat.le_refl _))
      replace O11 := Lib.hid O11
      clear hb
      replace O2 := Lib.hid (O2.out.still hT.out (A.out.notin))
      clear hT hG A O1
      have hS := Lib.hid (rsum_any _ _ _ (by omega) w11 O11.out.sb)
      generalize sumN (X1 ++ m) = D at *
      go_wp2_with fail
      refine Calls.mono (hS.out) ?_
      rintro e w12 ⟨rfl, hb⟩
      replace hb : BW w11 w12 := BW.call (by repeat (first | exact BW.refl _ | apply BW.alloc | apply BW.drewN | apply BW.drew)) hb
      replace B := Lib.hid (B.out.trans hb)
      replace O2 := Lib.hid (O2.out.bw hb)
      clear hb
      dsimp only
      go_upto_region 14 with (first | (refine wpList_alloc_of rfl 47 rfl _ zero20 ?_) | (refine wpList_store_new rfl 47 _ _ rfl _ (ivA .u8 D) _ rfl rfl (by rw [info20, ivA_size, hi1.out]) (by rw [ivA_size, ivA_size, hi1.out, zeros_len]) (ivA_one _ _) ?_))
      have R3 := Lib.hid (HpB.new w12 (.cells (ivA .u8 D) 47))
      generalize hw3 : w12.alloc (.cells (ivA .u8 D) 47) = w13 at *
      have hb : BW w12 w13 := (by subst hw3; exact (BW.refl w12).alloc)
      replace B := Lib.hid (B.out.trans hb)
      replace O2 := Lib.hid (O2.out.bw hb)
      clear hb
      generalize w12.heap.size = b3 at *
      clear hw3 hS O11
      try simp only [Act.put, List.setIfInBounds_toArray, List.set_cons_succ, List.set_cons_zero]
      have S3 := Lib.hid (SB_of_row R3.out hi2.out 20 20 (by rw [hi1.out]; exact Nat.le_refl _) (Nat.le_refl _) (by decide))
      rw [List.take_of_length_le (by rw [hi1.out]; exact Nat.le_refl _)] at S3
      go_wp2_with (at_builtin; go_must (refine wpList_apOB rfl _ _ rfl w.heap.size _ _ _ rfl (O2.out) _ rfl _ _ (S3.out) (by omega) (BW.trans B.out (by repeat (first | exact BW.refl _ | apply BW.alloc | apply BW.drewN | apply BW.drew))).size ?_; intro s14 c14 w14 hcc14 hmc14 O14 hT hb hG; unfold maxLen at hmc14; replace hG := Lib.hid hG; replace hT := Lib.hid hT; skip))
      replace B := Lib.hid (BW.step (BW.trans B.out (by repeat (first | exact BW.refl _ | apply BW.alloc | apply BW.drewN | apply BW.drew))) hb (Nat.le_refl _))
      replace O14 := Lib.hid O14
      clear hb
      clear hT hG O2 S3 R3
      have hS := Lib.hid (rsum_any _ _ _ (by omega) w14 O14.out.sb)
      rw [← hH.out] at hS
      go_wp2_with fail
      refine Calls.mono (hS.out) ?_
      rintro e w15 ⟨rfl, hb⟩
      replace hb : BW w14 w15 := BW.call (by repeat (first | exact BW.refl _ | apply BW.alloc | apply BW.drewN | apply BW.drew)) hb
      replace B := Lib.hid (B.out.trans hb)
      clear hb
      dsimp only
      go_upto_region 15 with (first | (refine wpList_alloc_of rfl 47 rfl _ zero20 ?_) | (refine wpList_store_new rfl 47 _ _ rfl _ (ivA .u8 H) _ rfl rfl (by rw [info20, ivA_size, hHl.out]) (by rw [ivA_size, ivA_size, hHl.out, zeros_len]) (ivA_one _ _) ?_))
      have R3 := Lib.hid (HpB.new w15 (.cells (ivA .u8 H) 47))
      generalize hw3 : w15.alloc (.cells (ivA .u8 H) 47) = w16 at *
      have hb : BW w15 w16 := (by subst hw3; exact (BW.refl w15).alloc)
      replace B := Lib.hid (B.out.trans hb)
      clear hb
      generalize w15.heap.size = b3 at *
      clear hw3 hS O14
      try simp only [Act.put, List.setIfInBounds_toArray, List.set_cons_succ, List.set_cons_zero]
      have S3 := Lib.hid (SB_of_row (R3.out.bw ((BW.refl w16).alloc (o := .cells #[] 5))) hHb.out 20 20 (by rw [hHl.out]; exact Nat.le_refl _) (Nat.le_refl _) (by decide))
      rw [List.take_of_length_le (by rw [hHl.out]; exact Nat.le_refl _)] at S3
      go_wp2_with (at_builtin; go_must (refine wpList_apOB rfl _ _ rfl w.heap.size _ _ _ rfl (OB.new0 w16 w.heap.size B.out.size) _ rfl _ _ (S3.out) (by omega) (BW.trans B.out (by repeat (first | exact BW.refl _ | apply BW.alloc | apply BW.drewN | apply BW.drew))).size ?_; intro s17 c17 w17 hcc17 hmc17 O17 hT hb hG; unfold maxLen at hmc17; replace hG := Lib.hid hG; replace hT := Lib.hid hT; skip))
      replace B := Lib.hid (BW.step (BW.trans B.out (by repeat (first | exact BW.refl _ | apply BW.alloc | apply BW.drewN | apply BW.drew))) hb (Nat.le_refl _))
      replace O17 := Lib.hid O17
      clear hb
      simp only [Nat.zero_add, List.nil_append] at O17
      go_ret
      exact ⟨_, rfl, O17.out, B.out⟩
set_option maxRecDepth 100000 in
set_option maxHeartbeats 8000000 in
theorem rtag_ok (sk : Option Addr) (nk ck : Nat) (sm : Option Addr) (nm cm : Nat) (n : Int) (key m : List Nat) (hn1 : -9223372036854775808 ≤ n) (hn2 : n ≤ 9223372036854775807) (hnk : nk ≤ 1000000000) (hnm : nm ≤ 100000000) (w : World) (hk : SB w (.slice sk nk ck) nk key) (hm : SB w (.slice sm nm cm) nm m) :
  Calls Tryz.prog 25 #[.slice sk nk ck, .int .i64 n, .slice sm nm cm] w fun e w' => ∃ v, e = .returned v ∧ OB w' w.heap.size 5 v (min n.toNat 20) ((hmacN key m).take n.toNat) ∧ Below w.heap.size w w' := by
 have hHl := Lib.hid (hmac_len key m)
 have hF := Lib.hid (rfull_ok sk nk ck sm nm cm key m hnk hnm w hk hm)
 clear hk hm
 generalize hmacN key m = H at *
 have fin : ∀ (w1 : World) (s : Option Addr) (c k : Nat), OB w1 w.heap.size 5 (.slice s 20 c) 20 H → k ≤ 20 → k = min n.toNat 20 → OB w1 w.heap.size 5 (.slice s k c) (min n.toNat 20) (H.take n.toNat) := by
  intro w1 s c k hO hk hk2
  have e1 : H.take k = H.take n.toNat := by
   rw [hk2]
   rcases Nat.le_total n.toNat 20 with h | h
   ·rw [Nat.min_eq_left h]
   ·rw [Nat.min_eq_right h, List.take_of_length_le (by rw [hHl.out]; exact Nat.le_refl _), List.take_of_length_le (by rw [hHl.out]; exact h)]
  rw [← e1, ← hk2]
  exact hO.takeN k hk
 replace fin := Lib.hid fin
 have B := Lib.hid (BW.refl w)
 go_enter Tryz.func25, Tryz.ntmps25
 go_wp2_with fail
 refine Calls.mono (hF.out) ?_
 rintro e w1 ⟨v1, rfl, O1, hb⟩
 replace hb : BW w w1 := BW.call (by repeat (first | exact BW.refl _ | apply BW.alloc | apply BW.drewN | apply BW.drew)) hb
 replace B := Lib.hid (B.out.trans hb)
 clear hb
 dsimp only
 obtain ⟨s1, c1, rfl, hc1, hm1⟩ := O1.len
 unfold maxLen at hm1
 replace O1 := Lib.hid O1
 by_cases h1 : n < 1
 ·have e1 : n.toNat = 0 := by omega
  replace e1 := Lib.hid e1
  go_wp2_with fail
  go_ret
  refine ⟨_, rfl, ?_, B.out⟩
  rw [e1.out]
  exact OB.nil _ _ _
 ·have h1' : ¬ n < 1 := h1
  by_cases h2 : 20 < n
  ·go_wp2_with fail
   go_ret
   exact ⟨_, rfl, fin.out w1 s1 c1 20 O1.out (by omega) (by omega), B.out⟩
  ·have q1 : 0 ≤ n := by omega
   have q2 : n ≤ 20 := by omega
   go_wp2_with fail
   go_ret
   have e := fin.out w1 s1 c1 n.toNat O1.out (by omega) (by omega)
   rw [show min n.toNat 20 = n.toNat by omega] at e
   exact ⟨_, rfl, e, B.out⟩
end Go.Proofs.YtikmhlbpefednaaGreat
