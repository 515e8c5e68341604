/- Slices of words (u32) of the call's own. No condition. -/
import Derived.Test.YtikmhlbpefednaaGreatGRn
import Derived.Test.YtikmhlbpefednaaGreatGSh
import Derived.Test.YtikmhlbpefednaaGreatGW6
namespace Go.Proofs.YtikmhlbpefednaaGreat
open Go.RowKit
theorem slU32 : SlTy Tryz.prog 34 33 1 4 := SlTy.mk' Tryz.underlying34 (by kernel_rfl) (by decide)
def ivs (l : List Nat) : List Value := l.map fun n => Value.int .u32 (n : Nat)
def OU (w : World) (base : Nat) (v : Value) (n : Nat) (l : List Nat) : Prop := l.length = n ∧ Ows w base 33 1 v n (ivs l)
theorem OU.nil (w : World) (base : Nat) : OU w base (.slice none 0 0) 0 [] := ⟨rfl, Ows.nil _ _ _ _⟩
theorem OU.still {w w' : World} {base : Nat} {v : Value} {n : Nat} {l : List Nat} {S : List Nat} (h : OU w base v n l) (hs : Still S w w') (hS : ∀ g, v.ownBlock = some g → g ∉ S) : OU w' base v n l := ⟨h.1, h.2.still hs hS⟩
theorem OU.alloc {w : World} {base : Nat} {v : Value} {n : Nat} {l : List Nat} (h : OU w base v n l) (o : Obj) : OU (w.alloc o) base v n l := ⟨h.1, h.2.alloc o⟩
theorem OU.len {w : World} {base : Nat} {v : Value} {n : Nat} {l : List Nat} (h : OU w base v n l) : ∃ sa cap, v = .slice sa n cap ∧ n ≤ cap ∧ cap ≤ maxLen := h.2.len
theorem ivs_get (l : List Nat) (i : Nat) (h : i < l.length) : (ivs l)[i]? = some (.int .u32 (l.getD i 0 : Nat)) := by simp [ivs, List.getElem?_eq_getElem h]
theorem OU.form {w : World} {base : Nat} {v : Value} {n : Nat} {l : List Nat} (h : OU w base v n l) (h0 : 0 < n) :
  ∃ g o cap, v = .slice (some ⟨g, o, none⟩) n cap ∧ base ≤ g ∧ g < w.heap.size ∧ n ≤ cap ∧ cap ≤ maxLen ∧ (∀ j, j < n → w.cell? ⟨g, o + j, none⟩ = some (.int .u32 (l.getD j 0 : Nat))) := by
 obtain ⟨g, o, cap, hv, h1, h2, h3, h4, h5, h6⟩ := h.2.form h0
 refine ⟨g, o, cap, hv, h1, h2, h3, h4, fun j hj => ?_⟩
 rw [h5 j (by omega), ivs_get _ _ (by rw [h.1]; exact hj)]
theorem ivs_one (l : List Nat) : ∀ u ∈ ivs l, u.oneCell' = true := by simp [ivs, Value.oneCell']
theorem cellN0 (w : World) (u : Value) (t : TypeId) : (w.alloc (.cells #[u] t)).cell? ⟨w.heap.size, 0, none⟩ = some u := by simp [go_sem]
theorem app_u32 (wx : World) (x : Nat) (b : Nat) (h : wx.cell? ⟨b, 0, none⟩ = some (.int .u32 (x : Nat))) (hb : b < wx.heap.size) : App Tryz.prog wx 34 1 34 (.slice (some ⟨b, 0, none⟩) 1 1) 1 (ivs [x]) :=
 .sl _ _ _ _ _ Tryz.underlying34 ⟨rfl, by decide, .inr ⟨b, 0, 1, rfl, Nat.le_refl _, by decide, hb, fun j hj => by
  obtain rfl : j = 0 := by omega
  exact h⟩⟩ (ivs_one _)
theorem OU.of_app {w : World} {base : Nat} {v : Value} {n : Nat} {l : List Nat} {x : Nat} (h : Ows w base 33 1 v (n + 1) (ivs l ++ ivs [x])) (hl : l.length = n) : OU w base v (n + 1) (l ++ [x]) :=
 ⟨by rw [List.length_append, hl]; rfl, by rw [ivs, List.map_append]; exact h⟩
theorem dig_at (H : List Nat) (i : Nat) (hi : i < 20) : (digest H).getD i 0 = H.getD (i / 4) 0 / 256 ^ (3 - i % 4) % 256 := by
 rcases (show i = 0 ∨ i = 1 ∨ i = 2 ∨ i = 3 ∨ i = 4 ∨ i = 5 ∨ i = 6 ∨ i = 7 ∨ i = 8 ∨ i = 9 ∨ i = 10 ∨ i = 11 ∨ i = 12 ∨ i = 13 ∨ i = 14 ∨ i = 15 ∨ i = 16 ∨ i = 17 ∨ i = 18 ∨ i = 19 by omega) with rfl | rfl | rfl | rfl | rfl | rfl | rfl | rfl | rfl | rfl | rfl | rfl | rfl | rfl | rfl | rfl | rfl | rfl | rfl | rfl
 all_goals rfl
theorem digest_len (H : List Nat) : (digest H).length = 20 := by simp [digest, putB_len]
def dz (D : List Nat) (i : Nat) : List Nat := D.take i ++ zeros (20 - i)
theorem dz_end (D : List Nat) (h : D.length = 20) : dz D 20 = D := by
 unfold dz; rw [List.take_of_length_le (by omega)]; exact List.append_nil _
theorem dz_len (D : List Nat) (h : D.length = 20) (i : Nat) (hi : i ≤ 20) : (dz D i).length = 20 := by
 unfold dz; rw [List.length_append, List.length_take, zeros_len]; omega
theorem dz_set (D : List Nat) (h : D.length = 20) (i : Nat) (hi : i < 20) : (dz D i).set i (D.getD i 0) = dz D (i + 1) := by
 unfold dz
 have hz : zeros (20 - i) = 0 :: zeros (20 - (i + 1)) := by
  unfold zeros
  rw [show 20 - i = 20 - (i + 1) + 1 by omega, List.replicate_succ]
 have hl : (D.take i).length = i := by rw [List.length_take]; omega
 rw [hz, List.set_append_right _ _ (by omega), hl, Nat.sub_self, List.set_cons_zero, List.take_succ_eq_append_getElem (by omega), List.append_assoc, List.getD_eq_getElem?_getD, List.getElem?_eq_getElem (by omega)]
 rfl
theorem seth5 (V Hq : List Nat) (hV : Hq.length = 5) : ((((Hq.set 0 ((V.getD 0 0 + Hq.getD 0 0) % 4294967296)).set 1 ((V.getD 1 0 + Hq.getD 1 0) % 4294967296)).set 2 ((V.getD 2 0 + Hq.getD 2 0) % 4294967296)).set 3 ((V.getD 3 0 + Hq.getD 3 0) % 4294967296)).set 4 ((V.getD 4 0 + Hq.getD 4 0) % 4294967296) = addH V Hq := by
 match Hq, hV with
 | [a, b, c, d, e], _ => rfl
theorem Still.cell_ {w w' : World} (h : Still [] w w') {a : Addr} {v : Value} (hc : w.cell? a = some v) : w'.cell? a = some v := (LaterS.mk (S := []) w' h).cell hc (by simp)
theorem mixfacts (t b c d : Nat) (hb : b < 4294967296) (hc : c < 4294967296) (hd : d < 4294967296) :
  ∃ nb bc nd bxc bxcd bd cd bcnd bcbd maj : Nat, ((4294967295 : Int) - (b : Int) = (nb : Nat)) ∧ bits .and .u32 (b : Int) (c : Int) = (bc : Nat) ∧ bits .and .u32 (nb : Int) (d : Int) = (nd : Nat) ∧ bits .xor .u32 (b : Int) (c : Int) = (bxc : Nat) ∧ bits .xor .u32 (bxc : Int) (d : Int) = (bxcd : Nat) ∧ bits .and .u32 (b : Int) (d : Int) = (bd : Nat) ∧ bits .and .u32 (c : Int) (d : Int) = (cd : Nat) ∧ bits .or .u32 (bc : Int) (nd : Int) = (bcnd : Nat) ∧ bits .or .u32 (bc : Int) (bd : Int) = (bcbd : Nat) ∧ bits .or .u32 (bcbd : Int) (cd : Int) = (maj : Nat) ∧
   (t < 20 → fmix t b c d = bcnd ∧ kmix t = 1518500249) ∧ (¬ t < 20 → t < 40 → fmix t b c d = bxcd ∧ kmix t = 1859775393) ∧ (¬ t < 20 → ¬ t < 40 → t < 60 → fmix t b c d = maj ∧ kmix t = 2400959708) ∧ (¬ t < 20 → ¬ t < 40 → ¬ t < 60 → fmix t b c d = bxcd ∧ kmix t = 3395469782) := by
 have h1 : ∀ x y : Nat, x < 4294967296 → x &&& y < 4294967296 := fun x y h => Nat.lt_of_le_of_lt Nat.and_le_left h
 refine ⟨4294967295 - b, b &&& c, (4294967295 - b) &&& d, b ^^^ c, b ^^^ c ^^^ d, b &&& d, c &&& d, (b &&& c) ||| ((4294967295 - b) &&& d), (b &&& c) ||| (b &&& d), (b &&& c) ||| (b &&& d) ||| (c &&& d), ?_, u32_and_nat b c hb hc, u32_and_nat _ d (by omega) hd, u32_xor_nat b c hb hc, u32_xor_nat (b ^^^ c) d (Nat.xor_lt_two_pow (n := 32) hb hc) hd, u32_and_nat b d hb hd, u32_and_nat c d hc hd, u32_or_nat _ _ (h1 _ _ hb) (h1 _ _ (by omega)), u32_or_nat _ _ (h1 _ _ hb) (h1 _ _ hb), u32_or_nat _ _ (Nat.or_lt_two_pow (n := 32) (h1 _ _ hb) (h1 _ _ hb)) (h1 _ _ hc), ?_, ?_, ?_, ?_⟩
 ·omega
 ·intro t1; unfold fmix kmix; rw [if_pos t1, if_pos t1]; exact ⟨rfl, rfl⟩
 ·intro t1 t2; unfold fmix kmix; rw [if_neg t1, if_pos t2, if_neg t1, if_pos t2]; exact ⟨rfl, rfl⟩
 ·intro t1 t2 t3; unfold fmix kmix; rw [if_neg t1, if_neg t2, if_pos t3, if_neg t1, if_neg t2, if_pos t3]; exact ⟨rfl, rfl⟩
 ·intro t1 t2 t3; unfold fmix kmix; rw [if_neg t1, if_neg t2, if_neg t3, if_neg t1, if_neg t2, if_neg t3]; exact ⟨rfl, rfl⟩
set_option maxRecDepth 100000 in
set_option maxHeartbeats 20000000 in
theorem rsum_any (v : Value) (len : Nat) (m : List Nat) (hlen : len ≤ 1000000000) (w : World) (hv : SB w v len m) :
  Calls Tryz.prog 88 #[v] w fun e w' => e = .returned (.agg (ivA .u8 (sumN m))) ∧ Below w.heap.size w w' := by
 obtain ⟨sv, cv, rfl, hcv, hmv⟩ := hv.len
 unfold maxLen at hmv
 have hP : Hid (pad m = m ++ [128] ++ List.replicate (padZ len) 0 ++ putB 8 (8 * len)) := by
  unfold Hid pad; rw [hv.1, Nat.mod_eq_of_lt (by omega)]
 have hPl := Lib.hid (pad_len m)
 have hS : Hid (sumN m = digest (hfrom H0 (pad m) ((pad m).length / 64))) := rfl
 have hpz := Lib.hid (padZ_spec len)
 have hpl := Lib.hid (padZ_least len)
 have hml := Lib.hid hv.1
 have hmb := Lib.hid hv.2.1
 generalize pad m = P at *
 generalize sumN m = D at *
 generalize padZ len = pz at *
 replace hv := Lib.hid hv
 go_enter Tryz.func88, Tryz.ntmps88
 have R0 := Lib.hid (hp_new w (.cells (ivA .u8 (zeros 20)) 47) _ rfl)
 have B0 := Lib.hid ((Below.refl w.heap.size w).alloc (Nat.le_refl _) (.cells (ivA .u8 (zeros 20)) 47))
 have V0 := Lib.hid (hv.out.alloc (.cells (ivA .u8 (zeros 20)) 47))
 have hs0 : w.heap.size < (w.alloc (.cells (ivA .u8 (zeros 20)) 47)).heap.size := by simp
 go_upto_region 1 with (refine wpList_alloc_of rfl 47 rfl _ zero20 ?_)
 generalize w.alloc (.cells (ivA .u8 (zeros 20)) 47) = w0 at *
 have R1 := Lib.hid (hp_keep R0.out (.cells #[] 5))
 have V1 := Lib.hid (V0.out.alloc (.cells #[] 5))
 have B1 := Lib.hid (B0.out.alloc B0.out.size (.cells #[] 5))
 have O1 := Lib.hid (OB.new0 w0 w.heap.size B0.out.size)
 have hz1 := B1.out.size
 go_upto_region 2 with (at_builtin; go_must (refine wpList_apOB rfl _ _ rfl w.heap.size _ 0 [] rfl O1.out _ rfl len m V1.out (by omega) hz1 ?_; intro sa1 cp1 w1 hc1 hm1 O2 S2 B2 _; simp only [Nat.zero_add, List.nil_append] at O2 hc1; replace O2 := Lib.hid O2; have R2 := Lib.hid (hp_st S2 R1.out (O1.out.notin R1.out (by decide))); replace B2 := Lib.hid (B1.out.trans B2); clear S2))
 clear R0 R1 V0 V1 B1 O1 B0 hz1 hs0 hm1
 have R3 := Lib.hid (hp_keep R2.out (.cells #[.int .u8 128] 5))
 have hz2 := B2.out.size
 have O3 := Lib.hid (O2.out.alloc (.cells #[.int .u8 128] 5))
 have B3 := Lib.hid (B2.out.alloc hz2 (.cells #[.int .u8 128] 5))
 have hz3 := B3.out.size
 go_wp2_with (at_builtin; go_must (refine wpList_apOB rfl _ _ rfl w.heap.size _ len m rfl O3.out _ rfl 1 [128] (SB.new1 w1 5 128 (by decide)) (by omega) hz3 ?_; intro sa2 cp2 w2 hc2 hm2 O4 S2 B4 _; replace O4 := Lib.hid O4; have R4 := Lib.hid (hp_st S2 R3.out (O3.out.notin R3.out (by decide))); replace B4 := Lib.hid (B3.out.trans B4); clear S2))
 clear R2 R3 B2 B3 O2 O3 hz2 hz3 hm2 hc1
 go_loopg [3] pz (fun m' e wx => ∃ k sk ck, m' = pz - k ∧ k ≤ pz ∧ e = .slice sk (len + 1 + k) ck ∧ len + 1 + k ≤ ck ∧ Hid (Below w.heap.size w wx) ∧ Hid (wx.heap[w.heap.size]? = some (.cells (ivA .u8 (zeros 20)) 47 (0, 0))) ∧ Hid (OB wx w.heap.size 5 e (len + 1 + k) (m ++ [128] ++ List.replicate k 0)))
 case atStart => exact ⟨0, _, _, by omega, by omega, rfl, by simpa using hc2, B4, R4, by simpa using O4⟩
 case round =>
  clear B4 O4 R4 hc2
  obtain ⟨k, sk, ck, rfl, hk, rfl, hck, B5, R5, O5⟩ := hrel
  by_cases hkp : k < pz
  ·have hne := hpl.out k hkp
   have hd : (((len : Int) + 1 + (k : Int)) % 64 != 56) = true := by simp; omega
   have hpz2 := hpz.out.2
   have hsn : Hid (m ++ [128] ++ List.replicate k 0 ++ [0] = m ++ [128] ++ List.replicate (k + 1) 0) := by rw [Hid, List.append_assoc, ← List.replicate_succ']
   have hszw := B5.out.size
   have R6 := Lib.hid (hp_keep R5.out (.cells #[.int .u8 0] 5))
   have O6 := Lib.hid (O5.out.alloc (.cells #[.int .u8 0] 5))
   have B6 := Lib.hid (B5.out.alloc hszw (.cells #[.int .u8 0] 5))
   have hszx := B6.out.size
   go_wp2_with (at_builtin; go_must (refine wpList_apOB rfl _ _ rfl w.heap.size _ (len + 1 + k) _ rfl O6.out _ rfl 1 [0] (SB.new1 wr 5 0 (by decide)) (by omega) hszx ?_; intro sn cn w' hcn hmn h1 S2 L2 _; replace R6 := Lib.hid (hp_st S2 R6.out (O6.out.notin R6.out (by decide))); replace L2 := Lib.hid (B6.out.trans L2); clear S2; replace h1 := Lib.hid h1))
   go_roundg (pz - (k + 1))
   case measure => omega
   case rel => exact ⟨k + 1, _, _, rfl, by omega, rfl, by omega, L2, R6, by rw [← hsn.out]; exact h1.out⟩
  ·obtain rfl : k = pz := by omega
   clear hk hkp hpl
   have hd : (((len : Int) + 1 + (k : Int)) % 64 != 56) = false := by have := hpz.out.1; simp; omega
   have hPn : Hid (P.length = len + 1 + k + 8) := by
    unfold Hid; rw [hP.out]; simp [hml.out, putB_len]; omega
   have hpz2 := hpz.out.2
   go_wp2_with fail
   rw [show ((len : Int) * 8) = ((8 * len : Nat) : Int) by push_cast; omega]
   have h8 : 8 * len < 18446744073709551616 := by omega
   generalize 8 * len = l8 at *
   refine (rput_ok _ (len + 1 + k) (m ++ [128] ++ List.replicate k 0) 8 l8 8 (by omega) (by omega) rfl h8 (by omega) _ O5.out.sb).mono ?_
   rintro e w7 ⟨v7, rfl, O7, B7⟩
   rw [← hP.out, ← hPn.out] at O7
   have L7 := Lib.hid (B5.out.trans (B7.mono B5.out.size))
   have R7 := Lib.hid (hp_bel B7 R5.out (hp_lt R5.out))
   replace O7 := Lib.hid O7.sb
   have hP64 := Lib.hid (Nat.div_mul_cancel (Nat.dvd_of_mod_eq_zero hPl.out))
   clear B7 B5 R5 O5 hd hck
   obtain ⟨s7, c7, rfl, hc7, hm7⟩ := O7.out.len
   unfold maxLen at hm7
   have hPN : Hid (P.length ≤ 2000000000) := by rw [hPn.out, Hid]; omega
   clear hP hPn hml hmb hv hPl hpz hpz2 hmv hcv hlen
   generalize hN : P.length = N at *
   replace hN := Lib.hid hN
   dsimp only
   have hb7 : w.heap.size < w7.heap.size := hp_lt R7.out
   have e5 : (#[Value.int .u32 1732584193, .int .u32 4023233417, .int .u32 2562383102, .int .u32 271733878, .int .u32 3285377520] : Array Value) = ivA .u32 H0 := rfl
   go_wp2_with fail
   clear e5
   have N8 := Lib.hid (hp_new w7 (.cells (ivA .u32 H0) 33) _ rfl)
   have O8 := Lib.hid (O7.out.alloc (.cells (ivA .u32 H0) 33))
   have R8 := Lib.hid (hp_keep R7.out (.cells (ivA .u32 H0) 33))
   have L8 := Lib.hid (L7.out.alloc L7.out.size (.cells (ivA .u32 H0) 33))
   clear O7 R7 L7
   generalize w7.alloc (.cells (ivA .u32 H0) 33) = w8 at *
   generalize w7.heap.size = gh at *
   skip
   have hPb := Lib.hid O8.out.2.1
   go_loopg [5] (N / 64) (fun m' i wx => ∃ q : Nat, m' = N / 64 - q ∧ q ≤ N / 64 ∧ i = .int .i64 (64 * q : Nat) ∧ Hid (Below w.heap.size w wx) ∧ Hid (wx.heap[w.heap.size]? = some (.cells (ivA .u8 (zeros 20)) 47 (0, 0))) ∧ Hid (SB wx (.slice s7 N c7) N P) ∧ Hid (wx.heap[gh]? = some (.cells (ivA .u32 (hfrom H0 P q)) 33 (0, 0))))
   case atStart => exact ⟨0, by omega, by omega, rfl, L8, R8, O8, N8⟩
   case round =>
    clear L8 R8 O8 N8
    obtain ⟨q, rfl, hq, rfl, L9, R9, O9, N9⟩ := hrel
    have hNN := hP64.out
    have hN2 := hPN.out
    have hw5 := Lib.hid (hfrom_w5 H0 P h0_w5 q)
    by_cases hq2 : q < N / 64
    ·have hnx : Hid (hfrom H0 P (q + 1) = addH (vt (wl ((P.drop (64 * q)).take 64) 80) (hfrom H0 P q) 80) (hfrom H0 P q)) := rfl
     have hb4 : Hid (∀ t, t < 16 → ((((P.drop (64 * q)).take 64).drop (4 * t)).take 4) = (P.drop (64 * q + 4 * t)).take 4) := by
      intro t ht
      rw [List.drop_take, List.drop_drop, List.take_take, show min 4 (64 - 4 * t) = 4 by omega]
     have hbb : Hid (ByL ((P.drop (64 * q)).take 64)) := (hPb.out.drop _).take _
     have hwl := Lib.hid (wl_lt _ hbb.out)
     generalize (P.drop (64 * q)).take 64 = bl at *
     generalize hfrom H0 P q = Hq at *
     generalize hat : 64 * q = at_ at *
     replace hat := Lib.hid hat
     have hat2 : at_ + 64 ≤ N := by have := hat.out; omega
     have hb9 : gh < wr.heap.size := hp_lt N9.out
     have hz9 := L9.out.size
     go_wp2_with fail
     have hdn : decide (at_ < N) = true := by simp; omega
     simp only [hdn]
     clear hdn
     obtain ⟨wo, rfl⟩ : ∃ x, x = wr := ⟨_, rfl⟩
     go_loopg [6, 7] 80 (fun m' o i wx => ∃ t sw cw, m' = 80 - t ∧ t ≤ 80 ∧ i = .int .i64 (t : Nat) ∧ o = .slice sw t cw ∧ Hid (OU wx wo.heap.size o t (wl bl t)) ∧ Hid (Below wo.heap.size wo wx))
     case atStart => exact ⟨0, none, 0, by omega, by omega, rfl, rfl, OU.nil _ _, Below.refl _ _⟩
     case round =>
      obtain ⟨t, sw, cw, rfl, ht, rfl, rfl, W9, D9⟩ := hrel
      by_cases ht80 : t < 80
      ·have hsn : Hid (wl bl t ++ [wnext bl (wl bl t) t] = wl bl (t + 1)) := rfl
       have hlt := wnext_lt bl (wl bl t) t hbb.out (hwl.out t)
       have hzr := D9.out.size
       by_cases ht16 : t < 16
       ·have hnx2 : Hid (numB ((P.drop (at_ + 4 * t)).take 4) = wnext bl (wl bl t) t) := by rw [Hid, wnext, if_pos ht16, hb4.out t ht16]
        generalize wnext bl (wl bl t) t = x at *
        replace hlt := Lib.hid hlt
        go_wp2_with fail
        refine (rnum_ok (.slice s7 N c7) N P (at_ + 4 * t) 4 _ _ (by omega) (by omega) (by omega) (by omega) (by push_cast; rfl) rfl _ (O9.out.below D9.out (Nat.le_refl _))).mono ?_
        rw [hnx2.out]
        rintro e w' ⟨rfl, rfl⟩
        have hx2 : (x : Int) < 4294967296 := by have := hlt.out; omega
        dsimp only
        have D10 := Lib.hid (D9.out.alloc hzr (.cells #[.int .u32 (x : Nat)] 33))
        have W10 := Lib.hid (W9.out.alloc (.cells #[.int .u32 (x : Nat)] 33))
        have A10 := Lib.hid (app_u32 _ x _ (cellN0 wr (.int .u32 (x : Nat)) 33) (by simp))
        have hz10 := D10.out.size
        go_wp2_with (at_builtin; go_must (refine wpList_aps slU32 rfl 34 _ _ rfl wo.heap.size _ t (ivs (wl bl t)) rfl W10.out.2 _ rfl 1 (ivs [x]) A10.out (by omega) hz10 ?_; intro v' w' h1 h2 h3; clear h3; have D11 := Lib.hid (D10.out.trans (Ows.grown hz10 (Nat.le_refl _) W10.out.2 h2)); replace h1 := OU.of_app h1 W10.out.1; clear h2; rw [hsn.out] at h1; obtain ⟨s11, c11, rfl, _, _⟩ := h1.len; replace h1 := Lib.hid h1))
        go_roundg (80 - (t + 1))
        case measure => omega
        case rel => exact ⟨t + 1, _, _, rfl, by omega, by go_num, rfl, h1, D11⟩
       ·obtain ⟨gw, ow, cp, he, hbw, hlw, hcp, hmp, hcell⟩ := W9.out.form (by omega)
        cases he
        unfold maxLen at hmp
        have g : ∀ d, 3 ≤ d → d ≤ 16 → ∀ x : LaterS [] wr, x.now.cell? ⟨gw, ow + (t - d), none⟩ = some (.int .u32 ((wl bl t).getD (t - d) 0 : Nat)) := fun d h1 h2 x => x.cell (hcell (t - d) (by omega)) (by simp)
        have g3 := g 3 (by omega) (by omega)
        have g8 := g 8 (by omega) (by omega)
        have g14 := g 14 (by omega) (by omega)
        have g16 := g 16 (by omega) (by omega)
        have l3 := hwl.out t (t - 3)
        have l8 := hwl.out t (t - 8)
        have l14 := hwl.out t (t - 14)
        have l16 := hwl.out t (t - 16)
        have hnx2 : Hid (rol ((wl bl t).getD (t - 3) 0 ^^^ (wl bl t).getD (t - 8) 0 ^^^ (wl bl t).getD (t - 14) 0 ^^^ (wl bl t).getD (t - 16) 0) 1 = wnext bl (wl bl t) t) := by rw [Hid, wnext, if_neg ht16]
        clear g hcell
        generalize wnext bl (wl bl t) t = x at *
        generalize (wl bl t).getD (t - 3) 0 = p3 at *
        generalize (wl bl t).getD (t - 8) 0 = p8 at *
        generalize (wl bl t).getD (t - 14) 0 = p14 at *
        generalize (wl bl t).getD (t - 16) 0 = p16 at *
        have m1 : p3 ^^^ p8 < 4294967296 := Nat.xor_lt_two_pow (n := 32) l3 l8
        have m2 : p3 ^^^ p8 ^^^ p14 < 4294967296 := Nat.xor_lt_two_pow (n := 32) m1 l14
        have m3 : p3 ^^^ p8 ^^^ p14 ^^^ p16 < 4294967296 := Nat.xor_lt_two_pow (n := 32) m2 l16
        have x1 := u32_xor_nat p3 p8 l3 l8
        have x2 := u32_xor_nat (p3 ^^^ p8) p14 m1 l14
        have x3 := u32_xor_nat (p3 ^^^ p8 ^^^ p14) p16 m2 l16
        have hr : Hid (∀ w, Calls Tryz.prog 116 #[.int .u32 (p3 ^^^ p8 ^^^ p14 ^^^ p16 : Nat), .int .u64 1] w fun e w' => e = .returned (.int .u32 (x : Nat)) ∧ w' = w) := fun w => by
         have := left_1 (p3 ^^^ p8 ^^^ p14 ^^^ p16) m3 w
         rw [hnx2.out] at this
         exact this.mono fun e w' ⟨h, h'⟩ => ⟨h, h'.symm⟩
        have s80 : (t : Int) < 80 := by omega
        have s16 : (16 : Int) ≤ t := by omega
        clear m1 m2 m3 l3 l8 l14 l16 hlt hnx2
        go_wp2_with fail
        refine wp_region_gg ([gw]) [26] [] (by kernel_rfl) ?_
        refine hoist [] [26] (a1 := ?_) 0 rfl (by kernel_rfl) (.inl ⟨rfl, rfl⟩) rfl rfl rfl (fun x K hK => ?_) ?_
        rotate_left
        ·go_big_quiet_op
         exact hK
        refine hoist [] [26] (a1 := ?_) 1 rfl (by kernel_rfl) (.inl ⟨rfl, rfl⟩) rfl rfl rfl (fun x K hK => ?_) ?_
        rotate_left
        ·go_big_quiet_op
         exact hK
        refine hoist [] [26] (a1 := ?_) 2 rfl (by kernel_rfl) (.inl ⟨rfl, rfl⟩) rfl rfl rfl (fun x K hK => ?_) ?_
        rotate_left
        ·go_big_quiet_op
         exact hK
        refine hoist [] [26] (a1 := ?_) 3 rfl (by kernel_rfl) (.inl ⟨rfl, rfl⟩) rfl rfl rfl (fun x K hK => ?_) ?_
        rotate_left
        ·go_big_quiet_op
         exact hK
        refine hoist [] [26] (a1 := ?_) 4 rfl (by kernel_rfl) (.inl ⟨rfl, rfl⟩) rfl rfl rfl (fun x K hK => ?_) ?_
        rotate_left
        ·go_big_quiet_op
         exact hK
        refine hoist [] [26] (a1 := ?_) 5 rfl (by kernel_rfl) (.inl ⟨rfl, rfl⟩) rfl rfl rfl (fun x K hK => ?_) ?_
        rotate_left
        ·go_big_quiet_op
         exact hK
        refine hoist [] [26] (a1 := ?_) 6 rfl (by kernel_rfl) (.inl ⟨rfl, rfl⟩) rfl rfl rfl (fun x K hK => ?_) ?_
        rotate_left
        ·go_big_quiet_op
         exact hK
        refine hoist [] [26] (a1 := ?_) 7 rfl (by kernel_rfl) (.inl ⟨rfl, rfl⟩) rfl rfl rfl (fun x K hK => ?_) ?_
        rotate_left
        ·go_big_quiet_op
         exact hK
        refine hoist [] [26] (a1 := ?_) 8 rfl (by kernel_rfl) (.inl ⟨rfl, rfl⟩) rfl rfl rfl (fun x K hK => ?_) ?_
        rotate_left
        ·go_big_quiet_op
         exact hK
        refine hoist [] [26] (a1 := ?_) 9 rfl (by kernel_rfl) (.inl ⟨rfl, rfl⟩) rfl rfl rfl (fun x K hK => ?_) ?_
        rotate_left
        ·go_big_quiet_op
         exact hK
        refine hoist [] [26] (a1 := ?_) 10 rfl (by kernel_rfl) (.inl ⟨rfl, rfl⟩) rfl rfl rfl (fun x K hK => ?_) ?_
        rotate_left
        ·go_big_quiet_op
         exact hK
        refine hoist [] [26] (a1 := ?_) 11 rfl (by kernel_rfl) (.inl ⟨rfl, rfl⟩) rfl rfl rfl (fun x K hK => ?_) ?_
        rotate_left
        ·go_big_quiet_op
         exact hK
        refine hoist [] [26] (a1 := ?_) 12 rfl (by kernel_rfl) (.inl ⟨rfl, rfl⟩) rfl rfl rfl (fun x K hK => ?_) ?_
        rotate_left
        ·go_big_quiet_op
         exact hK
        refine hoist [] [26] (a1 := ?_) 13 rfl (by kernel_rfl) (.inl ⟨rfl, rfl⟩) rfl rfl rfl (fun x K hK => ?_) ?_
        rotate_left
        ·go_big_quiet_op
         exact hK
        refine hoist [] [26] (a1 := ?_) 14 rfl (by kernel_rfl) (.inl ⟨rfl, rfl⟩) rfl rfl rfl (fun x K hK => ?_) ?_
        rotate_left
        ·go_big_quiet_op
         exact hK
        refine hoist [] [26] (a1 := ?_) 15 rfl (by kernel_rfl) (.inl ⟨rfl, rfl⟩) rfl rfl rfl (fun x K hK => ?_) ?_
        rotate_left
        ·go_big_quiet_op
         exact hK
        refine hoist [] [26] (a1 := ?_) 16 rfl (by kernel_rfl) (.inl ⟨rfl, rfl⟩) rfl rfl rfl (fun x K hK => ?_) ?_
        rotate_left
        ·go_big_quiet_op
         exact hK
        refine hoist [] [26] (a1 := ?_) 17 rfl (by kernel_rfl) (.inl ⟨rfl, rfl⟩) rfl rfl rfl (fun x K hK => ?_) ?_
        rotate_left
        ·go_big_quiet_op
         exact hK
        refine hoist [] [26] (a1 := ?_) 18 rfl (by kernel_rfl) (.inl ⟨rfl, rfl⟩) rfl rfl rfl (fun x K hK => ?_) ?_
        rotate_left
        ·go_big_quiet_op
         exact hK
        refine hoist [] [26] (a1 := ?_) 19 rfl (by kernel_rfl) (.inl ⟨rfl, rfl⟩) rfl rfl rfl (fun x K hK => ?_) ?_
        rotate_left
        ·go_big_quiet_op
         exact hK
        refine hoist [] [26] (a1 := ?_) 20 rfl (by kernel_rfl) (.inl ⟨rfl, rfl⟩) rfl rfl rfl (fun x K hK => ?_) ?_
        rotate_left
        ·go_big_quiet_op
         exact hK
        refine hoist [] [26] (a1 := ?_) 21 rfl (by kernel_rfl) (.inl ⟨rfl, rfl⟩) rfl rfl rfl (fun x K hK => ?_) ?_
        rotate_left
        ·go_big_quiet_op
         exact hK
        refine hoist [] [26] (a1 := ?_) 22 rfl (by kernel_rfl) (.inl ⟨rfl, rfl⟩) rfl rfl rfl (fun x K hK => ?_) ?_
        rotate_left
        ·go_big_quiet_op
         exact hK
        refine hoist [] [26] (a1 := ?_) 23 rfl (by kernel_rfl) (.inl ⟨rfl, rfl⟩) rfl rfl rfl (fun x K hK => ?_) ?_
        rotate_left
        ·go_big_quiet_op
         exact hK
        refine hoist_call [] [26] (a1 := ?_) 24 rfl (by kernel_rfl) (.inl ⟨rfl, rfl⟩) rfl rfl rfl (fun x K hK => ?_) ?_
        rotate_left
        ·go_big_quiet_op
         apply Exists.intro
         refine ⟨fun y => ?_, ?_⟩
         ·exact Calls.laterS_same (hr.out _)
         ·exact hK
        refine effect 25 rfl (by kernel_rfl) (by kernel_rfl) rfl (fun x25 K hK => ?_)
        go_simp
        refine hK _ _ (Still.of_below ((Below.refl _ _).alloc (Nat.le_refl _) _)) ?_
        clear hK K
        have N1 : Hid ((x25.now.alloc (.cells #[.int .u32 (x : Nat)] 33)).cell? ⟨x25.now.heap.size, 0, none⟩ = some (.int .u32 (x : Nat))) := cellN0 _ _ _
        have hb1 : x25.now.heap.size < (x25.now.alloc (.cells #[.int .u32 (x : Nat)] 33)).heap.size := by simp
        have S1 := Lib.hid (x25.ok.trans (Still.of_below ((Below.refl _ x25.now).alloc (Nat.le_refl _) (.cells #[.int .u32 (x : Nat)] 33))))
        generalize x25.now.alloc (.cells #[.int .u32 (x : Nat)] 33) = wa at *
        generalize x25.now.heap.size = ba at *
        refine effect 26 rfl (by kernel_rfl) (by kernel_rfl) rfl (fun x26 K hK => ?_)
        skip
        have S2 := Lib.hid (S1.out.trans x26.ok)
        have hz := S2.out.size
        have W2 := Lib.hid (W9.out.still S2.out (by simp))
        refine wp_aps slU32 34 _ _ rfl wo.heap.size _ t (ivs (wl bl t)) rfl W2.out.2 _ rfl 1 (ivs [x]) (app_u32 _ x ba (x26.cell N1.out (by simp)) (Nat.lt_of_lt_of_le hb1 x26.ok.size)) (by omega) (by omega) fun v' w' h1 h2 h3 => hK _ _ (Still.of_row h2) ?_
        simp only [Act.put, List.setIfInBounds_toArray, List.set_cons_succ, List.set_cons_zero]
        replace h1 := OU.of_app h1 W2.out.1
        have S3 : Hid (Still [gw] wr w') := Lib.hid ((show Still [gw] _ _ from S2.out.weaken (List.nil_subset _)).trans (Still.of_row h2))
        rw [hsn.out] at h1
        obtain ⟨s11, c11, rfl, _, _⟩ := h1.len
        replace h1 := Lib.hid h1
        clear S2 W2 hz h2 h3 N1 hb1 S1 hK K
        refine hoist [] [26] (a1 := ?_) 27 rfl (by kernel_rfl) (.inl ⟨rfl, rfl⟩) rfl rfl rfl (fun x K hK => ?_) ?_
        rotate_left
        ·go_big_quiet_op
         exact hK
        refine done (by kernel_rfl) (fun xr => ?_)
        have h2 := Lib.hid (h1.out.still xr.ok (by simp))
        have D11 := Lib.hid (D9.out.trans ((S3.out.trans (xr.ok.weaken (List.nil_subset _))).below hzr (by simpa using hbw)))
        clear h1 S3 g3 g8 g14 g16
        go_wp2_with fail
        go_roundg (80 - (t + 1))
        case measure => omega
        case rel => exact ⟨t + 1, _, _, rfl, by omega, by go_num, rfl, h2, D11⟩
      ·obtain rfl : t = 80 := by omega
       obtain ⟨gw, ow, cp, he, hbw, hlw, hcp, hmp, hcell⟩ := W9.out.form (by omega)
       cases he
       unfold maxLen at hmp
       have hHl := Lib.hid hw5.out.1
       have N10 := Lib.hid (hp_bel D9.out N9.out hb9)
       have O10 := Lib.hid (O9.out.below D9.out (Nat.le_refl _))
       have R10 := Lib.hid (hp_bel D9.out R9.out (hp_lt R9.out))
       have L10 := Lib.hid (L9.out.trans (D9.out.mono hz9))
       have hc0 : ∀ i, i < 5 → wr.cell? ⟨gh, i, none⟩ = some (.int .u32 (Hq.getD i 0 : Nat)) := fun i hi => iv_cell N10.out i (by rw [hHl.out]; exact hi)
       have hvt := Lib.hid (vt_w5 (wl bl 80) Hq hw5.out)
       have hwx := Lib.hid (hwl.out 80)
       clear W9 D9 N9 O9 R9 L9 hwl hb4 hbb
       generalize wl bl 80 = W at *
       have l0 : ∀ x : LaterS [] wr, x.now.cell? ⟨gh, 0, none⟩ = some (.int .u32 (Hq.getD 0 0 : Nat)) := fun x => x.cell (hc0 0 (by omega)) (by simp)
       have l1 : ∀ x : LaterS [] wr, x.now.cell? ⟨gh, 1, none⟩ = some (.int .u32 (Hq.getD 1 0 : Nat)) := fun x => x.cell (hc0 1 (by omega)) (by simp)
       have l2 : ∀ x : LaterS [] wr, x.now.cell? ⟨gh, 2, none⟩ = some (.int .u32 (Hq.getD 2 0 : Nat)) := fun x => x.cell (hc0 2 (by omega)) (by simp)
       have l3 : ∀ x : LaterS [] wr, x.now.cell? ⟨gh, 3, none⟩ = some (.int .u32 (Hq.getD 3 0 : Nat)) := fun x => x.cell (hc0 3 (by omega)) (by simp)
       have l4 : ∀ x : LaterS [] wr, x.now.cell? ⟨gh, 4, none⟩ = some (.int .u32 (Hq.getD 4 0 : Nat)) := fun x => x.cell (hc0 4 (by omega)) (by simp)
       go_wp2_with fail
       refine wp_region_gg [] [] [] (by kernel_rfl) ?_
       refine hoist [] [] (a1 := ?_) 0 rfl (by kernel_rfl) (.inl ⟨rfl, rfl⟩) rfl rfl rfl (fun x K hK => ?_) ?_
       rotate_left
       ·go_big_quiet_op
        exact hK
       refine hoist [] [] (a1 := ?_) 1 rfl (by kernel_rfl) (.inl ⟨rfl, rfl⟩) rfl rfl rfl (fun x K hK => ?_) ?_
       rotate_left
       ·go_big_quiet_op
        exact hK
       refine hoist [] [] (a1 := ?_) 2 rfl (by kernel_rfl) (.inl ⟨rfl, rfl⟩) rfl rfl rfl (fun x K hK => ?_) ?_
       rotate_left
       ·go_big_quiet_op
        exact hK
       refine hoist [] [] (a1 := ?_) 3 rfl (by kernel_rfl) (.inl ⟨rfl, rfl⟩) rfl rfl rfl (fun x K hK => ?_) ?_
       rotate_left
       ·go_big_quiet_op
        exact hK
       refine hoist [] [] (a1 := ?_) 4 rfl (by kernel_rfl) (.inl ⟨rfl, rfl⟩) rfl rfl rfl (fun x K hK => ?_) ?_
       rotate_left
       ·go_big_quiet_op
        exact hK
       refine hoist [] [] (a1 := ?_) 5 rfl (by kernel_rfl) (.inl ⟨rfl, rfl⟩) rfl rfl rfl (fun x K hK => ?_) ?_
       rotate_left
       ·go_big_quiet_op
        exact hK
       refine hoist [] [] (a1 := ?_) 6 rfl (by kernel_rfl) (.inl ⟨rfl, rfl⟩) rfl rfl rfl (fun x K hK => ?_) ?_
       rotate_left
       ·go_big_quiet_op
        exact hK
       refine hoist [] [] (a1 := ?_) 7 rfl (by kernel_rfl) (.inl ⟨rfl, rfl⟩) rfl rfl rfl (fun x K hK => ?_) ?_
       rotate_left
       ·go_big_quiet_op
        exact hK
       refine hoist [] [] (a1 := ?_) 8 rfl (by kernel_rfl) (.inl ⟨rfl, rfl⟩) rfl rfl rfl (fun x K hK => ?_) ?_
       rotate_left
       ·go_big_quiet_op
        exact hK
       refine hoist [] [] (a1 := ?_) 9 rfl (by kernel_rfl) (.inl ⟨rfl, rfl⟩) rfl rfl rfl (fun x K hK => ?_) ?_
       rotate_left
       ·go_big_quiet_op
        exact hK
       refine hoist [] [] (a1 := ?_) 10 rfl (by kernel_rfl) (.inl ⟨rfl, rfl⟩) rfl rfl rfl (fun x K hK => ?_) ?_
       rotate_left
       ·go_big_quiet_op
        exact hK
       refine hoist [] [] (a1 := ?_) 11 rfl (by kernel_rfl) (.inl ⟨rfl, rfl⟩) rfl rfl rfl (fun x K hK => ?_) ?_
       rotate_left
       ·go_big_quiet_op
        exact hK
       refine hoist [] [] (a1 := ?_) 12 rfl (by kernel_rfl) (.inl ⟨rfl, rfl⟩) rfl rfl rfl (fun x K hK => ?_) ?_
       rotate_left
       ·go_big_quiet_op
        exact hK
       refine hoist [] [] (a1 := ?_) 13 rfl (by kernel_rfl) (.inl ⟨rfl, rfl⟩) rfl rfl rfl (fun x K hK => ?_) ?_
       rotate_left
       ·go_big_quiet_op
        exact hK
       refine hoist [] [] (a1 := ?_) 14 rfl (by kernel_rfl) (.inl ⟨rfl, rfl⟩) rfl rfl rfl (fun x K hK => ?_) ?_
       rotate_left
       ·go_big_quiet_op
        exact hK
       refine hoist [] [] (a1 := ?_) 15 rfl (by kernel_rfl) (.inl ⟨rfl, rfl⟩) rfl rfl rfl (fun x K hK => ?_) ?_
       rotate_left
       ·go_big_quiet_op
        exact hK
       refine hoist [] [] (a1 := ?_) 16 rfl (by kernel_rfl) (.inl ⟨rfl, rfl⟩) rfl rfl rfl (fun x K hK => ?_) ?_
       rotate_left
       ·go_big_quiet_op
        exact hK
       refine hoist [] [] (a1 := ?_) 17 rfl (by kernel_rfl) (.inl ⟨rfl, rfl⟩) rfl rfl rfl (fun x K hK => ?_) ?_
       rotate_left
       ·go_big_quiet_op
        exact hK
       refine hoist [] [] (a1 := ?_) 18 rfl (by kernel_rfl) (.inl ⟨rfl, rfl⟩) rfl rfl rfl (fun x K hK => ?_) ?_
       rotate_left
       ·go_big_quiet_op
        exact hK
       refine hoist [] [] (a1 := ?_) 19 rfl (by kernel_rfl) (.inl ⟨rfl, rfl⟩) rfl rfl rfl (fun x K hK => ?_) ?_
       rotate_left
       ·go_big_quiet_op
        exact hK
       refine done (by kernel_rfl) (fun xr => ?_)
       have N11 := Lib.hid (hp_st xr.ok N10.out (by simp))
       have O11 := Lib.hid (O10.out.still xr.ok (by simp))
       have R11 := Lib.hid (hp_st xr.ok R10.out (by simp))
       have L11 := Lib.hid (L10.out.trans (xr.ok.below L10.out.size (by simp)))
       have hwc : Hid (∀ j, j < 80 → xr.now.cell? ⟨gw, ow + j, none⟩ = some (.int .u32 (W.getD j 0 : Nat))) := fun j hj => xr.cell (hcell j hj) (by simp)
       clear l0 l1 l2 l3 l4 hc0 N10 O10 R10 L10 hcell
       generalize xr.now = wv at *
       clear xr
       go_wp2_with fail
       go_loopg [8, 9, 10, 11, 12, 13] 80 (fun m' x y z u v i wx => ∃ t, m' = 80 - t ∧ t ≤ 80 ∧ i = .int .i64 (t : Nat) ∧ x = .int .u32 ((vt W Hq t).getD 0 0 : Nat) ∧ y = .int .u32 ((vt W Hq t).getD 1 0 : Nat) ∧ z = .int .u32 ((vt W Hq t).getD 2 0 : Nat) ∧ u = .int .u32 ((vt W Hq t).getD 3 0 : Nat) ∧ v = .int .u32 ((vt W Hq t).getD 4 0 : Nat) ∧ Hid (Still [] wv wx))
       case atStart => exact ⟨0, by omega, by omega, rfl, rfl, rfl, rfl, rfl, rfl, Still.refl _ _⟩
       case round =>
        obtain ⟨t, rfl, ht, rfl, rfl, rfl, rfl, rfl, rfl, S12⟩ := hrel
        have hV := hvt.out t
        by_cases ht80 : t < 80
        ·have b0 := Lib.hid (hV.2 0)
         have b1 := Lib.hid (hV.2 1)
         have b2 := Lib.hid (hV.2 2)
         have b3 := Lib.hid (hV.2 3)
         have hx := Lib.hid (hwx.out t)
         have hnx2 : Hid (vt W Hq (t + 1) = [(rol ((vt W Hq t).getD 0 0) 5 + fmix t ((vt W Hq t).getD 1 0) ((vt W Hq t).getD 2 0) ((vt W Hq t).getD 3 0) + (vt W Hq t).getD 4 0 + kmix t + W.getD t 0) % 4294967296, (vt W Hq t).getD 0 0, rol ((vt W Hq t).getD 1 0) 30, (vt W Hq t).getD 2 0, (vt W Hq t).getD 3 0]) := rfl
         clear hV
         generalize hVV : vt W Hq (t + 1) = V' at *
         replace hVV := Lib.hid hVV
         generalize vt W Hq t = V at *
         have hwt := Lib.hid (S12.out.cell_ (hwc.out t ht80))
         have hr5 := Lib.hid (left_5 (V.getD 0 0) b0.out)
         have hr30 := Lib.hid (left_30 (V.getD 1 0) b1.out)
         have hmx := Lib.hid (mixfacts t (V.getD 1 0) (V.getD 2 0) (V.getD 3 0) b1.out b2.out b3.out)
         generalize V.getD 0 0 = v0 at *
         generalize V.getD 1 0 = v1 at *
         generalize V.getD 2 0 = v2 at *
         generalize V.getD 3 0 = v3 at *
         generalize V.getD 4 0 = v4 at *
         generalize W.getD t 0 = x at *
         generalize rol v0 5 = r5 at *
         generalize rol v1 30 = r30 at *
         obtain ⟨nb, bc, nd, bxc, bxcd, bd, cd, bcnd, bcbd, maj, e0, e1, e2, e3, e4, e5, e6, e7, e8, e9, f1, f2, f3, f4⟩ := hmx.out
         clear hmx
         generalize fmix t v1 v2 v3 = f at *
         generalize kmix t = k' at *
         have hsg : IntKind.u32.signed = false := rfl
         have hmx : IntKind.u32.max = 4294967295 := rfl
         go_upto_if 113 with (fail)
         go_cut [14, 15] (fun f' k2 wc => f' = .int .u32 (f : Nat) ∧ k2 = .int .u32 (k' : Nat) ∧ wc = wr)
         case first =>
          by_cases t1 : t < 20
          ·obtain ⟨q1, q2⟩ := f1 t1
           subst q1
           subst q2
           have t1' : (t : Int) < 20 := by omega
           clear f1 f2 f3 f4
           go_wp2_with fail
           go_meet
           exact ⟨rfl, rfl, rfl⟩
          ·by_cases t2 : t < 40
           ·obtain ⟨q1, q2⟩ := f2 t1 t2
            subst q1
            subst q2
            have t1' : ¬ (t : Int) < 20 := by omega
            have t2' : (t : Int) < 40 := by omega
            clear f1 f2 f3 f4
            go_wp2_with fail
            go_meet
            exact ⟨rfl, rfl, rfl⟩
           ·by_cases t3 : t < 60
            ·obtain ⟨q1, q2⟩ := f3 t1 t2 t3
             subst q1
             subst q2
             have t1' : ¬ (t : Int) < 20 := by omega
             have t2' : ¬ (t : Int) < 40 := by omega
             have t3' : (t : Int) < 60 := by omega
             clear f1 f2 f3 f4
             go_wp2_with fail
             go_meet
             exact ⟨rfl, rfl, rfl⟩
            ·obtain ⟨q1, q2⟩ := f4 t1 t2 t3
             subst q1
             subst q2
             have t1' : ¬ (t : Int) < 20 := by omega
             have t2' : ¬ (t : Int) < 40 := by omega
             have t3' : ¬ (t : Int) < 60 := by omega
             clear f1 f2 f3 f4
             go_wp2_with fail
             go_meet
             exact ⟨rfl, rfl, rfl⟩
         case rest =>
          obtain ⟨rfl, rfl, rfl⟩ := hcut
          clear e0 e1 e2 e3 e4 e5 e6 e7 e8 e9 f1 f2 f3 f4
          have lw : ∀ x' : LaterS [] wc, x'.now.cell? ⟨gw, ow + t, none⟩ = some (.int .u32 (x : Nat)) := fun x' => x'.cell hwt.out (by simp)
          go_wp2_with fail
          refine wp_region_gg [] [] [] (by kernel_rfl) ?_
          refine hoist [] [] (a1 := ?_) 0 rfl (by kernel_rfl) (.inl ⟨rfl, rfl⟩) rfl rfl rfl (fun x K hK => ?_) ?_
          rotate_left
          ·go_big_quiet_op
           exact hK
          refine hoist_call [] [] (a1 := ?_) 1 rfl (by kernel_rfl) (.inl ⟨rfl, rfl⟩) rfl rfl rfl (fun x K hK => ?_) ?_
          rotate_left
          ·go_big_quiet_op
           apply Exists.intro
           refine ⟨fun y => ?_, ?_⟩
           ·exact Calls.laterS_same ((hr5.out _).mono fun e w' ⟨h, h'⟩ => ⟨h, h'.symm⟩)
           ·exact hK
          refine hoist [] [] (a1 := ?_) 2 rfl (by kernel_rfl) (.inl ⟨rfl, rfl⟩) rfl rfl rfl (fun x K hK => ?_) ?_
          rotate_left
          ·go_big_quiet_op
           exact hK
          refine hoist [] [] (a1 := ?_) 3 rfl (by kernel_rfl) (.inl ⟨rfl, rfl⟩) rfl rfl rfl (fun x K hK => ?_) ?_
          rotate_left
          ·go_big_quiet_op
           exact hK
          refine hoist [] [] (a1 := ?_) 4 rfl (by kernel_rfl) (.inl ⟨rfl, rfl⟩) rfl rfl rfl (fun x K hK => ?_) ?_
          rotate_left
          ·go_big_quiet_op
           exact hK
          refine hoist [] [] (a1 := ?_) 5 rfl (by kernel_rfl) (.inl ⟨rfl, rfl⟩) rfl rfl rfl (fun x K hK => ?_) ?_
          rotate_left
          ·go_big_quiet_op
           exact hK
          refine hoist [] [] (a1 := ?_) 6 rfl (by kernel_rfl) (.inl ⟨rfl, rfl⟩) rfl rfl rfl (fun x K hK => ?_) ?_
          rotate_left
          ·go_big_quiet_op
           exact hK
          refine hoist [] [] (a1 := ?_) 7 rfl (by kernel_rfl) (.inl ⟨rfl, rfl⟩) rfl rfl rfl (fun x K hK => ?_) ?_
          rotate_left
          ·go_big_quiet_op
           exact hK
          refine hoist [] [] (a1 := ?_) 8 rfl (by kernel_rfl) (.inl ⟨rfl, rfl⟩) rfl rfl rfl (fun x K hK => ?_) ?_
          rotate_left
          ·go_big_quiet_op
           exact hK
          refine hoist [] [] (a1 := ?_) 9 rfl (by kernel_rfl) (.inl ⟨rfl, rfl⟩) rfl rfl rfl (fun x K hK => ?_) ?_
          rotate_left
          ·go_big_quiet_op
           exact hK
          refine hoist [] [] (a1 := ?_) 10 rfl (by kernel_rfl) (.inl ⟨rfl, rfl⟩) rfl rfl rfl (fun x K hK => ?_) ?_
          rotate_left
          ·go_big_quiet_op
           exact hK
          refine hoist [] [] (a1 := ?_) 11 rfl (by kernel_rfl) (.inl ⟨rfl, rfl⟩) rfl rfl rfl (fun x K hK => ?_) ?_
          rotate_left
          ·go_big_quiet_op
           exact hK
          refine hoist [] [] (a1 := ?_) 12 rfl (by kernel_rfl) (.inl ⟨rfl, rfl⟩) rfl rfl rfl (fun x K hK => ?_) ?_
          rotate_left
          ·go_big_quiet_op
           exact hK
          refine hoist [] [] (a1 := ?_) 13 rfl (by kernel_rfl) (.inl ⟨rfl, rfl⟩) rfl rfl rfl (fun x K hK => ?_) ?_
          rotate_left
          ·go_big_quiet_op
           exact hK
          refine done (by kernel_rfl) (fun xr => ?_)
          have hs : (((r5 : Int) + (f : Int) + (v4 : Int) + (k' : Int)) % 4294967296 + (x : Int)) % 4294967296 = (((r5 + f + v4 + k' + x) % 4294967296 : Nat) : Int) := by omega
          rw [hs]
          clear hs
          generalize (r5 + f + v4 + k' + x) % 4294967296 = sm at *
          have S13 := Lib.hid (S12.out.trans xr.ok)
          clear S12 lw hwt
          generalize xr.now = wx at *
          go_wp2_with fail
          refine (hr30.out _).mono ?_
          rintro e w' ⟨rfl, rfl⟩
          dsimp only
          go_wp2_with fail
          go_roundg (80 - (t + 1))
          case measure => omega
          case rel =>
           exact ⟨t + 1, rfl, by omega, by go_num, by rw [hVV.out, hnx2.out]; rfl, by rw [hVV.out, hnx2.out]; rfl, by rw [hVV.out, hnx2.out]; rfl, by rw [hVV.out, hnx2.out]; rfl, by rw [hVV.out, hnx2.out]; rfl, S13⟩
        ·obtain rfl : t = 80 := by omega
         clear hvt hwx hwc
         have N12 := Lib.hid (hp_st S12.out N11.out (by simp))
         have O12 := Lib.hid (O11.out.still S12.out (by simp))
         have R12 := Lib.hid (hp_st S12.out R11.out (by simp))
         have L12 := Lib.hid (L11.out.trans (S12.out.below L11.out.size (by simp)))
         clear S12 N11 O11 R11 L11
         have hHb := Lib.hid hw5.out.1
         generalize vt W Hq 80 = V at *
         have hf5 : ∀ i, wr.frozen? ⟨gh, i, none⟩ = false := fun i => hp_frz N12.out i
         have c0 := iv_cell N12.out 0 (by rw [hHb.out]; omega)
         have c1 := iv_cell N12.out 1 (by rw [hHb.out]; omega)
         have c2 := iv_cell N12.out 2 (by rw [hHb.out]; omega)
         have c3 := iv_cell N12.out 3 (by rw [hHb.out]; omega)
         have c4 := iv_cell N12.out 4 (by rw [hHb.out]; omega)
         have f0 := hf5 0
         have f1 := hf5 1
         have f2 := hf5 2
         have f3 := hf5 3
         have f4 := hf5 4
         clear hf5
         have hse := Lib.hid (seth5 V Hq hHb.out)
         have N13 := fun z0 z1 z2 z3 z4 : Nat => Lib.hid (iv_set (iv_set (iv_set (iv_set (iv_set N12.out 0 z0) 1 z1) 2 z2) 3 z3) 4 z4)
         have S13 := fun z0 z1 z2 z3 z4 : Nat => Lib.hid (still_setCells wr gh 0 [.int .u32 (z0 : Nat), .int .u32 (z1 : Nat), .int .u32 (z2 : Nat), .int .u32 (z3 : Nat), .int .u32 (z4 : Nat)])
         have hbg : w.heap.size < gh := hb7
         generalize V.getD 0 0 = v0 at *
         generalize V.getD 1 0 = v1 at *
         generalize V.getD 2 0 = v2 at *
         generalize V.getD 3 0 = v3 at *
         generalize V.getD 4 0 = v4 at *
         generalize hh0 : Hq.getD 0 0 = h0 at *
         generalize hh1 : Hq.getD 1 0 = h1 at *
         generalize hh2 : Hq.getD 2 0 = h2 at *
         generalize hh3 : Hq.getD 3 0 = h3 at *
         generalize hh4 : Hq.getD 4 0 = h4 at *
         clear hh0 hh1 hh2 hh3 hh4
         go_wp2_with fail
         go_roundg (N / 64 - (q + 1))
         case measure => omega
         case rel =>
          have hs : ∀ a b : Nat, ((a : Int) + (b : Int)) % 4294967296 = (((b + a) % 4294967296 : Nat) : Int) := fun a b => by omega
          rw [hs h0 v0, hs h1 v1, hs h2 v2, hs h3 v3, hs h4 v4]
          have N14 := (N13 ((v0 + h0) % 4294967296) ((v1 + h1) % 4294967296) ((v2 + h2) % 4294967296) ((v3 + h3) % 4294967296) ((v4 + h4) % 4294967296)).out
          have S14 := (S13 ((v0 + h0) % 4294967296) ((v1 + h1) % 4294967296) ((v2 + h2) % 4294967296) ((v3 + h3) % 4294967296) ((v4 + h4) % 4294967296)).out
          rw [hse.out, ← hnx.out] at N14
          have hat' := hat.out
          refine ⟨q + 1, rfl, by omega, congrArg _ (by omega), L12.out.trans (S14.below L12.out.size (by simp; omega)), hp_st S14 R12.out (by simp; omega), O12.out.apart N12.out (fun i x hx => by unfold ivA at hx; simp at hx) S14, N14⟩
    ·obtain rfl : q = N / 64 := by omega
     have hDd : Hid (D = digest (hfrom H0 P (N / 64))) := hS.out
     have hDl : Hid (D.length = 20) := by rw [Hid, hDd.out]; exact digest_len _
     have hda : Hid (∀ i, i < 20 → D.getD i 0 = (hfrom H0 P (N / 64)).getD (i / 4) 0 / 256 ^ (3 - i % 4) % 256) := fun i hi => by rw [hDd.out]; exact dig_at _ i hi
     have hFl := Lib.hid hw5.out.1
     clear hS hDd hw5
     generalize hfrom H0 P (N / 64) = HF at *
     have hbg : gh < wr.heap.size := hp_lt N9.out
     have hbg2 : w.heap.size < gh := hb7
     go_wp2_with (refine wpList_alloc_of rfl 47 rfl _ zero20 ?_)
     have A0 := Lib.hid (hp_new wr (.cells (ivA .u8 (zeros 20)) 47) _ rfl)
     have N10 := Lib.hid (hp_keep N9.out (.cells (ivA .u8 (zeros 20)) 47))
     have R10 := Lib.hid (hp_keep R9.out (.cells (ivA .u8 (zeros 20)) 47))
     have L10 := Lib.hid (L9.out.alloc L9.out.size (.cells (ivA .u8 (zeros 20)) 47))
     clear N9 R9 L9 O9
     generalize wr.alloc (.cells (ivA .u8 (zeros 20)) 47) = wa at *
     generalize wr.heap.size = go at *
     go_loopg [18] 20 (fun m' i wx => ∃ j, m' = 20 - j ∧ j ≤ 20 ∧ i = .int .i64 (j : Nat) ∧ Hid (wx.heap[go]? = some (.cells (ivA .u8 (dz D j)) 47 (0, 0))) ∧ Hid (wx.heap[gh]? = some (.cells (ivA .u32 HF) 33 (0, 0))) ∧ Hid (wx.heap[w.heap.size]? = some (.cells (ivA .u8 (zeros 20)) 47 (0, 0))) ∧ Hid (Below w.heap.size w wx))
     case atStart => exact ⟨0, by omega, by omega, rfl, A0, N10, R10, L10⟩
     case round =>
      clear A0 N10 R10 L10
      obtain ⟨j, rfl, hj, rfl, A1, N1, R1, L1⟩ := hrel
      by_cases hj20 : j < 20
      ·have hdl := Lib.hid (dz_len D hDl.out j hj)
       have hds := Lib.hid (dz_set D hDl.out j hj20)
       have hdv := Lib.hid (hda.out j hj20)
       have ca := iv_cell A1.out j (by rw [hdl.out]; exact hj20)
       have fa := hp_frz A1.out j
       have cn := iv_cell N1.out (j / 4) (by rw [hFl.out]; omega)
       have A2 := Lib.hid (iv_set A1.out j (D.getD j 0))
       rw [hds.out] at A2
       have N2 := fun z => Lib.hid ((hp_oth (w := wr) (b := go) (i := j) (v := z) (by omega : gh ≠ go)).trans N1.out)
       have R2 := fun z => Lib.hid ((hp_oth (w := wr) (b := go) (i := j) (v := z) (by omega : w.heap.size ≠ go)).trans R1.out)
       have L2 := fun z => Lib.hid (Below.set3 L1.out (b := go) (o := j) (by omega) z)
       have hj4 : j / 4 < 5 := by omega
       have hq4 : (j : Int) / 4 = ((j / 4 : Nat) : Int) := by omega
       have hbyt : HF.getD (j / 4) 0 / 256 ^ (3 - j % 4) % 256 < 256 := Nat.mod_lt _ (by decide)
       generalize D.getD j 0 = dj at *
       generalize HF.getD (j / 4) 0 = x at *
       generalize j / 4 = a at *
       rcases (show j % 4 = 0 ∨ j % 4 = 1 ∨ j % 4 = 2 ∨ j % 4 = 3 by omega) with hr | hr | hr | hr
       all_goals
        rw [hr] at hdv
        simp only [Nat.reduceSub, Nat.reducePow] at hdv
        clear hbyt
       ·have hm4 : (j : Int) % 4 = 0 := by omega
        go_wp2_with fail
        go_roundg (20 - (j + 1))
        case measure => omega
        case rel =>
         rw [show (x : Int) / 16777216 % 256 = ((dj : Nat) : Int) by rw [hdv.out, Int.natCast_emod, Int.natCast_ediv]; rfl]
         exact ⟨j + 1, rfl, by omega, by go_num, A2, N2 _, R2 _, L2 _⟩
       ·have hm4 : (j : Int) % 4 = 1 := by omega
        go_wp2_with fail
        go_roundg (20 - (j + 1))
        case measure => omega
        case rel =>
         rw [show (x : Int) / 65536 % 256 = ((dj : Nat) : Int) by rw [hdv.out, Int.natCast_emod, Int.natCast_ediv]; rfl]
         exact ⟨j + 1, rfl, by omega, by go_num, A2, N2 _, R2 _, L2 _⟩
       ·have hm4 : (j : Int) % 4 = 2 := by omega
        go_wp2_with fail
        go_roundg (20 - (j + 1))
        case measure => omega
        case rel =>
         rw [show (x : Int) / 256 % 256 = ((dj : Nat) : Int) by rw [hdv.out, Int.natCast_emod, Int.natCast_ediv]; rfl]
         exact ⟨j + 1, rfl, by omega, by go_num, A2, N2 _, R2 _, L2 _⟩
       ·have hm4 : (j : Int) % 4 = 3 := by omega
        go_wp2_with fail
        go_roundg (20 - (j + 1))
        case measure => omega
        case rel =>
         rw [show (x : Int) % 256 = ((dj : Nat) : Int) by rw [hdv.out, Nat.div_one, Int.natCast_emod]; rfl]
         exact ⟨j + 1, rfl, by omega, by go_num, A2, N2 _, R2 _, L2 _⟩
      ·obtain rfl : j = 20 := by omega
       rw [dz_end D hDl.out] at A1
       go_wp2_with (first | (refine wpList_load_row rfl 47 _ rfl _ rfl _ _ _ _ A1.out Tryz.underlying47 rfl (by rw [info20, ivA_size, hDl.out]) ?_) | (refine wpList_store_row rfl 47 _ _ rfl _ _ rfl rfl _ _ R1.out (by rw [info20, ivA_size, hDl.out]) (by rw [ivA_size, ivA_size, zeros_len, hDl.out]) (ivA_one _ _) ?_))
       exact bodyPost_ret (results_cell_row (p := 2) rfl _ _ w.heap.size _ _ _ _ rfl (hp_row R1.out _) Tryz.underlying47 rfl (by rw [info20, ivA_size, hDl.out])) rfl ⟨rfl, Below.setRow L1.out (by omega) _⟩
end Go.Proofs.YtikmhlbpefednaaGreat
