/- keys.Rtp, keys.Rtcp; the reference's Keys. No condition. -/
import Derived.Test.YtjjemkfkpnemoaaKyC
namespace Go.Proofs.Ytjjemkfkpnemoaa
open Go.RowKit

set_option maxRecDepth 100000 in
set_option maxHeartbeats 8000000 in
theorem krtp_ok (key salt : List Nat) (hk : key.length = 16) (hkb : ByL key) (hs : salt.length = 14) (hsb : ByL salt) (w : World) :
    Calls Try.prog 40 #[.agg (ivA .u8 (key ++ salt))] w fun e w' => e = .returned (.agg (ivA .u8 (keysN key salt 0))) ∧ Below w.heap.size w w' := by
  have ck := fun wz => Lib.hid (kall_ok key salt 0 (by decide) hk hkb hs hsb wz)
  have hl := Lib.hid (keysN_len key salt 0)
  have hKl : Hid ((key ++ salt).length = 30) := by simp [Hid, hk, hs]
  generalize keysN key salt 0 = R at *
  generalize key ++ salt = K at *
  have B := Lib.hid (BW.refl w)
  go_enter Try.func40, Try.ntmps40
  go_upto_region 1 with (refine alA ar50 rfl rfl ?_)
  have M0 := Lib.hid ((AvB.new w 58 K).bw (show BW (w.alloc (.cells (ivA .u8 K) 58)) ((w.alloc (.cells (ivA .u8 K) 58)).alloc (.cells (ivA .u8 (zeros 50)) 62)) from (by repeat (first | exact BW.refl _ | apply BW.alloc | apply BW.drewN | apply BW.drew))))
  have R0 := Lib.hid ((AvB.new (w.alloc (.cells (ivA .u8 K) 58)) 62 (zeros 50)).bw (show BW ((w.alloc (.cells (ivA .u8 K) 58)).alloc (.cells (ivA .u8 (zeros 50)) 62)) ((w.alloc (.cells (ivA .u8 K) 58)).alloc (.cells (ivA .u8 (zeros 50)) 62)) from (by repeat (first | exact BW.refl _ | apply BW.alloc | apply BW.drewN | apply BW.drew))))
  simp only [World.size_alloc] at R0
  generalize hnm : ((w.alloc (.cells (ivA .u8 K) 58)).alloc (.cells (ivA .u8 (zeros 50)) 62)) = w1 at *
  have hb : BW w w1 := (by subst hnm; exact (by repeat (first | exact BW.refl _ | apply BW.alloc | apply BW.drewN | apply BW.drew)))
  replace B := Lib.hid (B.out.trans hb)
  clear hb
  clear hnm
  try simp only [World.size_alloc]
  go_wp2_with (refine ldA ar30 rfl rfl rfl M0.out hKl.out ?_)
  refine Calls.mono (ck w1).out ?_
  rintro e w2 ⟨rfl, hb⟩
  have hb : BW w1 w2 := hb
  replace B := Lib.hid (B.out.trans hb)
  replace R0 := Lib.hid (R0.out.bw hb)
  clear hb
  have H6 := Lib.hid (R0.out.row R)
  dsimp only
  go_wp2_with (refine stR ar50 rfl rfl rfl rfl R0.out (zeros_len _) hl.out ?_)
  exact bodyPost_ret (results_cell_row (p := 2) rfl _ _ _ _ _ _ _ rfl H6.out Try.underlying62 rfl (by rw [ar50.hi, ivA_size, hl.out])) rfl ⟨rfl, B.out.row (by omega) _⟩

set_option maxRecDepth 100000 in
set_option maxHeartbeats 8000000 in
theorem krtcp_ok (key salt : List Nat) (hk : key.length = 16) (hkb : ByL key) (hs : salt.length = 14) (hsb : ByL salt) (w : World) :
    Calls Try.prog 42 #[.agg (ivA .u8 (key ++ salt))] w fun e w' => e = .returned (.agg (ivA .u8 (keysN key salt 3))) ∧ Below w.heap.size w w' := by
  have ck := fun wz => Lib.hid (kall_ok key salt 3 (by decide) hk hkb hs hsb wz)
  have hl := Lib.hid (keysN_len key salt 3)
  have hKl : Hid ((key ++ salt).length = 30) := by simp [Hid, hk, hs]
  generalize keysN key salt 3 = R at *
  generalize key ++ salt = K at *
  have B := Lib.hid (BW.refl w)
  go_enter Try.func42, Try.ntmps42
  go_upto_region 1 with (refine alA ar50 rfl rfl ?_)
  have M0 := Lib.hid ((AvB.new w 58 K).bw (show BW (w.alloc (.cells (ivA .u8 K) 58)) ((w.alloc (.cells (ivA .u8 K) 58)).alloc (.cells (ivA .u8 (zeros 50)) 62)) from (by repeat (first | exact BW.refl _ | apply BW.alloc | apply BW.drewN | apply BW.drew))))
  have R0 := Lib.hid ((AvB.new (w.alloc (.cells (ivA .u8 K) 58)) 62 (zeros 50)).bw (show BW ((w.alloc (.cells (ivA .u8 K) 58)).alloc (.cells (ivA .u8 (zeros 50)) 62)) ((w.alloc (.cells (ivA .u8 K) 58)).alloc (.cells (ivA .u8 (zeros 50)) 62)) from (by repeat (first | exact BW.refl _ | apply BW.alloc | apply BW.drewN | apply BW.drew))))
  simp only [World.size_alloc] at R0
  generalize hnm : ((w.alloc (.cells (ivA .u8 K) 58)).alloc (.cells (ivA .u8 (zeros 50)) 62)) = w1 at *
  have hb : BW w w1 := (by subst hnm; exact (by repeat (first | exact BW.refl _ | apply BW.alloc | apply BW.drewN | apply BW.drew)))
  replace B := Lib.hid (B.out.trans hb)
  clear hb
  clear hnm
  try simp only [World.size_alloc]
  go_wp2_with (refine ldA ar30 rfl rfl rfl M0.out hKl.out ?_)
  refine Calls.mono (ck w1).out ?_
  rintro e w2 ⟨rfl, hb⟩
  have hb : BW w1 w2 := hb
  replace B := Lib.hid (B.out.trans hb)
  replace R0 := Lib.hid (R0.out.bw hb)
  clear hb
  have H6 := Lib.hid (R0.out.row R)
  dsimp only
  go_wp2_with (refine stR ar50 rfl rfl rfl rfl R0.out (zeros_len _) hl.out ?_)
  exact bodyPost_ret (results_cell_row (p := 2) rfl _ _ _ _ _ _ _ rfl H6.out Try.underlying62 rfl (by rw [ar50.hi, ivA_size, hl.out])) rfl ⟨rfl, B.out.row (by omega) _⟩

/-- The keys with the first i, j, k bytes laid in. -/
def k3 (a b c : List Nat) (i j k : Nat) : List Nat := tab 50 fun x => if x < 16 then (if x < i then a.getD x 0 else 0) else if x < 36 then (if x - 16 < j then b.getD (x - 16) 0 else 0) else (if x - 36 < k then c.getD (x - 36) 0 else 0)
theorem k3_len (a b c : List Nat) (i j k : Nat) : (k3 a b c i j k).length = 50 := tab_len _ _
theorem k3_zero (a b c : List Nat) : k3 a b c 0 0 0 = zeros 50 := by
  rw [← tab_of 50 (zeros 50) (zeros_len 50)]
  exact tab_congr _ _ _ fun x _ => by rw [zeros_get]; simp
theorem k3_a (a b c : List Nat) (i j k : Nat) (h : i < 16) : (k3 a b c i j k).set i (a.getD i 0) = k3 a b c (i + 1) j k := by
  refine tab_set 50 _ _ i _ (by omega) (by simp [h]) fun x hx hne => ?_
  by_cases h1 : x < 16
  · rw [if_pos h1, if_pos h1]
    by_cases h2 : x < i
    · rw [if_pos h2, if_pos (by omega)]
    · rw [if_neg h2, if_neg (by omega)]
  · rw [if_neg h1, if_neg h1]
theorem k3_b (a b c : List Nat) (i j k : Nat) (h : j < 20) : (k3 a b c i j k).set (16 + j) (b.getD j 0) = k3 a b c i (j + 1) k := by
  refine tab_set 50 _ _ (16 + j) _ (by omega) ?_ fun x hx hne => ?_
  · rw [if_neg (by omega), if_pos (by omega), if_pos (by omega), Nat.add_sub_cancel_left]
  · by_cases h1 : x < 16
    · rw [if_pos h1, if_pos h1]
    · rw [if_neg h1, if_neg h1]
      by_cases h2 : x < 36
      · rw [if_pos h2, if_pos h2]
        by_cases h3 : x - 16 < j
        · rw [if_pos h3, if_pos (by omega)]
        · rw [if_neg h3, if_neg (by omega)]
      · rw [if_neg h2, if_neg h2]
theorem k3_c (a b c : List Nat) (i j k : Nat) (h : k < 14) : (k3 a b c i j k).set (36 + k) (c.getD k 0) = k3 a b c i j (k + 1) := by
  refine tab_set 50 _ _ (36 + k) _ (by omega) ?_ fun x hx hne => ?_
  · rw [if_neg (by omega), if_neg (by omega), if_pos (by omega), Nat.add_sub_cancel_left]
  · by_cases h1 : x < 16
    · rw [if_pos h1, if_pos h1]
    · rw [if_neg h1, if_neg h1]
      by_cases h2 : x < 36
      · rw [if_pos h2, if_pos h2]
      · rw [if_neg h2, if_neg h2]
        by_cases h3 : x - 36 < k
        · rw [if_pos h3, if_pos (by omega)]
        · rw [if_neg h3, if_neg (by omega)]
theorem k3_more (a b c : List Nat) (i j k i' k' : Nat) (hi : 16 ≤ i) (hi' : 16 ≤ i') (hk : 14 ≤ k) (hk' : 14 ≤ k') : k3 a b c i j k = k3 a b c i' j k' :=
  tab_congr _ _ _ fun x hx => by
    by_cases h1 : x < 16
    · rw [if_pos h1, if_pos h1, if_pos (by omega), if_pos (by omega)]
    · rw [if_neg h1, if_neg h1]
      by_cases h2 : x < 36
      · rw [if_pos h2, if_pos h2]
      · rw [if_neg h2, if_neg h2, if_pos (by omega), if_pos (by omega)]
theorem k3_moreC (a b c : List Nat) (i j k k' : Nat) (hk : 14 ≤ k) (hk' : 14 ≤ k') : k3 a b c i j k = k3 a b c i j k' :=
  tab_congr _ _ _ fun x hx => by
    by_cases h1 : x < 16
    · rw [if_pos h1, if_pos h1]
    · rw [if_neg h1, if_neg h1]
      by_cases h2 : x < 36
      · rw [if_pos h2, if_pos h2]
      · rw [if_neg h2, if_neg h2, if_pos (by omega), if_pos (by omega)]
theorem k3_all (a b c : List Nat) (ha : a.length = 16) (hb : b.length = 20) (hc : c.length = 14) : k3 a b c 20 20 20 = a ++ (b ++ c) := by
  rw [← tab_of 50 (a ++ (b ++ c)) (by simp [ha, hb, hc])]
  refine tab_congr _ _ _ fun x hx => ?_
  simp only [List.getD_eq_getElem?_getD]
  by_cases h1 : x < 16
  · rw [if_pos h1, if_pos (by omega), List.getElem?_append_left (by omega)]
  · rw [if_neg h1, List.getElem?_append_right (by omega), ha]
    by_cases h2 : x < 36
    · rw [if_pos h2, if_pos (by omega), List.getElem?_append_left (by omega)]
    · rw [if_neg h2, if_pos (by omega), List.getElem?_append_right (by omega), hb]
      congr 2
end Go.Proofs.Ytjjemkfkpnemoaa
