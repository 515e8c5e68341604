/- H.264 in the program: Units, Key. No condition but the size. -/
import Derived.Test.YtojedpahaifjgaaEsB
namespace Go.Proofs.Ytojedpahaifjgaa
open Go.RowKit
set_option maxRecDepth 100000 in
set_option maxHeartbeats 8000000 in
theorem Units_any (sa : Option Addr) (n cp : Nat) (l : List Nat) (w : World) (h : SB w (.slice sa n cp) n l) (hn : n ≤ 100000) :
  Calls Try.prog 85 #[.slice sa n cp] w (UnPost (unitsN l) w) := by
 have hlen := h.1
 have b0 := ByL.get h.2.1 0
 obtain ⟨_, _, he, hcp, hcm⟩ := h.len
 cases he
 unfold maxLen at hcm
 by_cases h2 : n = 0
 ·have hU : unitsN l = none := by unfold unitsN; rw [if_pos (by omega)]
  rw [hU]
  have d : ((n : Int) == 0) = true := by simpa using h2
  clear h
  replace hU := Lib.hid hU
  replace hlen := Lib.hid hlen
  replace h2 := Lib.hid h2
  go_enter Try.func85, Try.ntmps85
  go_wp2_with fail
  go_ret2
  exact UnPost.no rfl (by decide) (BW.refl _)
 have d : ((n : Int) == 0) = false := by simpa using h2
 have hn0 : 0 < n := by omega
 obtain ⟨g, o, cap, hsl, -, -, -, hcell⟩ := h.form (by omega)
 simp only [Value.slice.injEq] at hsl
 obtain ⟨hsa, -, -⟩ := hsl
 have z0 := hcell 0 (by omega)
 rw [Nat.add_zero] at z0
 have cT := Lib.hid (ty_any (l.getD 0 0) b0 w)
 have r1 := fun w => run_cut_l (P := Try.prog) Try.underlying34 info_u8 sa n cp 1 1 rfl .i64 (by omega) w
 have hcut := h.cut 1 n cp (by omega) (Nat.le_refl _) hcp (Nat.le_refl _)
 rw [List.take_of_length_le (by rw [List.length_drop]; omega)] at hcut
 have hU : unitsN l = if l.getD 0 0 % 32 = 24 then unitsW (l.drop 1) else if l.getD 0 0 % 32 = 28 then partN (l.drop 1) else if 1 ≤ l.getD 0 0 % 32 ∧ l.getD 0 0 % 32 ≤ 23 then some [((l.getD 0 0 % 32 : Nat) : Int)] else none := by
  unfold unitsN; rw [if_neg (by omega)]
 have cU := Lib.hid (units_any _ _ _ _ w hcut (by omega))
 have cP := Lib.hid (part_any _ _ _ _ w hcut (by omega))
 obtain ⟨sc, hsc⟩ : ∃ x, x = cutA sa 1 cp 1 := ⟨_, rfl⟩
 rw [← hsc] at r1 cU cP
 subst hsa
 clear hcell h hcut
 have ht : l.getD 0 0 % 32 < 32 := Nat.mod_lt _ (by decide)
 generalize l.getD 0 0 % 32 = t at *
 generalize l.getD 0 0 = y at *
 rw [hU]
 replace hsc := Lib.hid hsc
 replace hlen := Lib.hid hlen
 replace h2 := Lib.hid h2
 replace hU := Lib.hid hU
 by_cases k1 : t = 24
 ·rw [if_pos k1]
  have e1 : ((t : Int) == 24) = true := by simp; omega
  replace k1 := Lib.hid k1
  go_enter Try.func85, Try.ntmps85
  go_wp2_with fail
  refine Calls.mono cT.out ?_
  rintro e w1 ⟨rfl, rfl⟩
  dsimp only
  go_wp2_with fail
  refine Calls.mono cU.out ?_
  rintro e w1 ⟨v, c, rfl, hb, hR⟩
  replace hR := Lib.hid hR
  replace hb := Lib.hid hb
  dsimp only
  go_wp2_with fail
  go_ret2
  exact ⟨v, c, rfl, hb.out, hR.out⟩
 rw [if_neg k1]
 have e1 : ((t : Int) == 24) = false := by simp; omega
 by_cases k2 : t = 28
 ·rw [if_pos k2]
  have e2 : ((t : Int) == 28) = true := by simp; omega
  replace k1 := Lib.hid k1
  replace k2 := Lib.hid k2
  go_enter Try.func85, Try.ntmps85
  go_wp2_with fail
  refine Calls.mono cT.out ?_
  rintro e w1 ⟨rfl, rfl⟩
  dsimp only
  go_wp2_with fail
  refine Calls.mono cP.out ?_
  rintro e w1 ⟨v, c, rfl, hb, hR⟩
  replace hR := Lib.hid hR
  replace hb := Lib.hid hb
  dsimp only
  go_wp2_with fail
  go_ret2
  exact ⟨v, c, rfl, hb.out, hR.out⟩
 rw [if_neg k2]
 have e2 : ((t : Int) == 28) = false := by simp; omega
 have q1 := Lib.hid (one_new w w.heap.size (Nat.le_refl _) (t : Int))
 by_cases k3 : 1 ≤ t
 ·have e3 : decide ((1 : Int) ≤ (t : Int)) = true := by simp; omega
  by_cases k4 : t ≤ 23
  ·have e4 : decide ((t : Int) ≤ 23) = true := by simp; omega
   rw [if_pos ⟨k3, k4⟩]
   replace k1 := Lib.hid k1
   replace k2 := Lib.hid k2
   go_enter Try.func85, Try.ntmps85
   go_wp2_with fail
   refine Calls.mono cT.out ?_
   rintro e w1 ⟨rfl, rfl⟩
   dsimp only
   go_wp2_with fail
   go_ret2
   exact UnPost.yes rfl (BW.refl _).alloc q1.out (by simp)
  ·have e4 : decide ((t : Int) ≤ 23) = false := by simp; omega
   rw [if_neg (fun h => k4 h.2)]
   replace k1 := Lib.hid k1
   replace k2 := Lib.hid k2
   go_enter Try.func85, Try.ntmps85
   go_wp2_with fail
   refine Calls.mono cT.out ?_
   rintro e w1 ⟨rfl, rfl⟩
   dsimp only
   go_wp2_with fail
   go_ret2
   exact UnPost.no rfl (by decide) (BW.refl _)
 ·have e3 : decide ((1 : Int) ≤ (t : Int)) = false := by simp; omega
  rw [if_neg (fun h => k3 h.1)]
  replace k1 := Lib.hid k1
  replace k2 := Lib.hid k2
  replace k3 := Lib.hid k3
  go_enter Try.func85, Try.ntmps85
  go_wp2_with fail
  refine Calls.mono cT.out ?_
  rintro e w1 ⟨rfl, rfl⟩
  dsimp only
  go_wp2_with fail
  go_ret2
  exact UnPost.no rfl (by decide) (BW.refl _)
set_option maxRecDepth 100000 in
set_option maxHeartbeats 8000000 in
theorem isK_any (t : Int) (w : World) : Calls Try.prog 88 #[.int .i64 t] w fun e w' => e = .returned (.bool (isK t)) ∧ w = w' := by
 have q : isK t = (t == 5 || t == 7 || t == 8) := rfl
 cases h1 : (t == 5) with
 | true =>
  rw [h1] at q
  replace q := Lib.hid q
  go_enter Try.func88, Try.ntmps88
  go_wp2_with fail
  go_ret
  exact ⟨by rw [q.out]; rfl, rfl⟩
 | false =>
  cases h2 : (t == 7) with
  | true =>
   rw [h1, h2] at q
   replace q := Lib.hid q
   go_enter Try.func88, Try.ntmps88
   go_wp2_with fail
   go_ret
   exact ⟨by rw [q.out]; rfl, rfl⟩
  | false =>
   rw [h1, h2] at q
   replace q := Lib.hid q
   go_enter Try.func88, Try.ntmps88
   go_wp2_with fail
   go_ret
   exact ⟨by rw [q.out]; rfl, rfl⟩
theorem enterK (args : Array Value) (w : World) : (callFunc 88 args).run Try.prog w = .ok (.enter 88 args) w := by kernel_rfl
set_option maxRecDepth 100000 in
set_option maxHeartbeats 8000000 in
theorem iidx_any (base n : Nat) (v : Value) (L : List Int) (w : World) (h : EQ I1 3 w base v n L) (hn : n ≤ 1000000) :
  Calls Try.prog 100 #[v, .func (.func 88) #[] #[]] w fun e w' => (∃ r : Int, e = .returned (.int .i64 r) ∧ decide (0 ≤ r) = L.any isK) ∧ w = w' := by
 have hN := enterK
 obtain ⟨sa, cap, rfl, hnc, hcm⟩ := h.len
 unfold maxLen at hcm
 have hH := Lib.hid h
 have hdl := Lib.hid h.1
 clear h
 have hA : L.any isK = (L.drop 0).any isK := by rw [List.drop_zero]
 generalize L.any isK = R at *
 replace hA := Lib.hid hA
 go_enter Try.func100, Try.ntmps100
 go_upto_region 2 with (fail)
 go_loopg [8] n (fun m' i wx => ∃ k : Nat, m' = n - k ∧ k ≤ n ∧ i = .int .i64 (k : Nat) ∧ Hid (R = (L.drop k).any isK) ∧ Hid (w = wx))
 case atStart => exact ⟨0, by omega, by omega, rfl, hA, rfl⟩
 case round =>
  clear hA
  obtain ⟨k, rfl, hk, rfl, hA, hw⟩ := hrel
  obtain rfl := hw.out
  by_cases hkn : k < n
  ·have d : decide ((k : Int) < (n : Int)) = true := by simp; omega
   have hkD : k < L.length := by rw [hdl.out]; exact hkn
   obtain ⟨g, o, rfl, hc⟩ := i1_form hH.out (by omega)
   have z0 := hc k hkD
   have hA2 := hA.out
   rw [List.drop_eq_getElem_cons hkD, List.any_cons] at hA2
   generalize L[k] = t at *
   have cF := Lib.hid (isK_any t w)
   clear hc hA
   replace hA2 := Lib.hid hA2
   go_wp2_with fail
   refine Calls.mono cF.out ?_
   rintro e w2 ⟨rfl, rfl⟩
   clear cF z0
   dsimp only
   cases hq : isK t with
   | true =>
    have hR : R = true := by rw [hA2.out, hq]; rfl
    replace hR := Lib.hid hR
    replace hA2 := Lib.hid hA2
    replace hq := Lib.hid hq
    go_wp2_with fail
    go_ret
    exact ⟨⟨_, rfl, by rw [hR.out]; simp⟩, rfl⟩
   | false =>
    have hR : R = (L.drop (k + 1)).any isK := by rw [hA2.out, hq]; rfl
    replace hR := Lib.hid hR
    replace hA2 := Lib.hid hA2
    replace hq := Lib.hid hq
    go_wp2_with fail
    go_roundg (n - (k + 1))
    case measure => omega
    case rel => exact ⟨k + 1, rfl, by omega, by push_cast; rfl, hR, rfl⟩
  ·obtain rfl : k = n := by omega
   have d : decide ((k : Int) < (k : Int)) = false := by simp
   have hR : R = false := by rw [hA.out, List.drop_of_length_le (by rw [hdl.out]; exact Nat.le_refl _)]; rfl
   replace hR := Lib.hid hR
   go_wp2_with fail
   go_ret
   exact ⟨⟨_, rfl, by rw [hR.out]; decide⟩, rfl⟩
set_option maxRecDepth 100000 in
set_option maxHeartbeats 8000000 in
theorem ihas_any (base n : Nat) (v : Value) (L : List Int) (w : World) (h : EQ I1 3 w base v n L) (hn : n ≤ 1000000) :
  Calls Try.prog 87 #[v, .func (.func 88) #[] #[]] w fun e w' => e = .returned (.bool (L.any isK)) ∧ w = w' := by
 have c := Lib.hid (iidx_any base n v L w h hn)
 obtain ⟨sa, cap, rfl, hnc, hcm⟩ := h.len
 clear h
 generalize L.any isK = b at *
 go_enter Try.func87, Try.ntmps87
 go_wp2_with fail
 refine Calls.mono c.out ?_
 rintro e w2 ⟨⟨r, rfl, hr⟩, rfl⟩
 dsimp only
 go_wp2_with fail
 go_ret
 exact ⟨rfl, rfl⟩
set_option maxRecDepth 100000 in
set_option maxHeartbeats 8000000 in
theorem keyA_any (sa : Option Addr) (n cp : Nat) (l : List Nat) (w : World) (h : SB w (.slice sa n cp) n l) (hn : n ≤ 100000) :
  Calls Try.prog 72 #[.slice sa n cp] w fun e w' => e = .returned (.bool (keyA l)) ∧ BW w w' := by
 have cU := Lib.hid (Units_any sa n cp l w h hn)
 have hH := Lib.hid h
 have hlen := Lib.hid h.1
 have hby := Lib.hid h.2.1
 clear h
 obtain ⟨K, hK⟩ : ∃ K, keyA l = K := ⟨_, rfl⟩
 rw [hK]
 replace hK := Lib.hid hK
 go_enter Try.func72, Try.ntmps72
 go_wp2_with fail
 refine Calls.mono cU.out ?_
 rintro e w1 ⟨v, c, rfl, hb, hR⟩
 replace hb := Lib.hid hb
 rcases hR with ⟨hU, hc, rfl⟩ | ⟨ts, hU, rfl, Q, hts⟩
 ·have hK2 : K = false := by rw [← hK.out]; exact keyA_none hU
  replace hU := Lib.hid hU
  replace hK2 := Lib.hid hK2
  dsimp only
  go_wp2_with fail
  go_ret
  exact ⟨by rw [hK2.out]; rfl, hb.out⟩
 have hp := unitsN_pos hU
 have h2 := unitsN_two hU
 obtain ⟨sv, cv, rfl, hcv, hcvm⟩ := Q.len
 unfold maxLen at hcvm
 obtain ⟨g, o, cap, hsl, -, -, -, hcell⟩ := (hH.out.bw hb.out).form (by rw [← hlen.out]; exact hp)
 simp only [Value.slice.injEq] at hsl
 obtain ⟨rfl, -, -⟩ := hsl
 have hl := hlen.out
 have z0 := hcell 0 (by omega)
 rw [Nat.add_zero] at z0
 have hn0 : 0 < n := by omega
 have cT := Lib.hid (ty_any (l.getD 0 0) (ByL.get hby.out 0) w1)
 by_cases k1 : l.getD 0 0 % 32 = 28
 ·have z1 := hcell 1 (by have := h2 k1; omega)
  have e1 := bit128e _ (ByL.get hby.out 1)
  have hn1 : (1 : Int) < n := by have := h2 k1; omega
  by_cases k2 : l.getD 1 0 < 128
  ·have hK2 : K = false := by rw [← hK.out]; exact keyA_no ⟨k1, k2⟩
   have d2 := eq_decide e1 k2
   have d1 : (((l.getD 0 0 % 32 : Nat) : Int) == 28) = true := by rw [k1]; rfl
   generalize l.getD 0 0 % 32 = t at *
   generalize l.getD 0 0 = y at *
   generalize l.getD 1 0 = y1 at *
   clear h2 hcell e1
   replace hU := Lib.hid hU
   replace hK2 := Lib.hid hK2
   replace k1 := Lib.hid k1
   replace hl := Lib.hid hl
   dsimp only
   go_wp2_with fail
   refine Calls.mono cT.out ?_
   rintro e w2 ⟨rfl, rfl⟩
   dsimp only
   go_wp2_with fail
   go_ret
   exact ⟨by rw [hK2.out]; rfl, hb.out⟩
  ·have hK2 : K = ts.any isK := by rw [← hK.out]; exact keyA_some hU (fun h => k2 h.2)
   have d2 := ne_decide e1 k2
   have d1 : (((l.getD 0 0 % 32 : Nat) : Int) == 28) = true := by rw [k1]; rfl
   have cC := Lib.hid (ihas_any _ _ _ _ w1 Q hts)
   generalize l.getD 0 0 % 32 = t at *
   generalize l.getD 0 0 = y at *
   generalize l.getD 1 0 = y1 at *
   generalize ts.any isK = r at *
   clear h2 hcell e1
   replace hU := Lib.hid hU
   replace hK2 := Lib.hid hK2
   replace k1 := Lib.hid k1
   replace hl := Lib.hid hl
   replace Q := Lib.hid Q
   dsimp only
   go_wp2_with fail
   refine Calls.mono cT.out ?_
   rintro e w2 ⟨rfl, rfl⟩
   dsimp only
   go_wp2_with fail
   refine Calls.mono cC.out ?_
   rintro e w2 ⟨rfl, rfl⟩
   dsimp only
   go_wp2_with fail
   go_ret
   exact ⟨by rw [hK2.out]; rfl, hb.out⟩
 ·have hK2 : K = ts.any isK := by rw [← hK.out]; exact keyA_some hU (fun h => k1 h.1)
  have d1 : (((l.getD 0 0 % 32 : Nat) : Int) == 28) = false := beq_eq_false_iff_ne.2 (by omega)
  have cC := Lib.hid (ihas_any _ _ _ _ w1 Q hts)
  generalize l.getD 0 0 % 32 = t at *
  generalize l.getD 0 0 = y at *
  generalize ts.any isK = r at *
  clear h2 hcell
  replace hU := Lib.hid hU
  replace hK2 := Lib.hid hK2
  replace k1 := Lib.hid k1
  replace hl := Lib.hid hl
  replace Q := Lib.hid Q
  dsimp only
  go_wp2_with fail
  refine Calls.mono cT.out ?_
  rintro e w2 ⟨rfl, rfl⟩
  dsimp only
  go_wp2_with fail
  refine Calls.mono cC.out ?_
  rintro e w2 ⟨rfl, rfl⟩
  dsimp only
  go_wp2_with fail
  go_ret
  exact ⟨by rw [hK2.out]; rfl, hb.out⟩
end Go.Proofs.Ytojedpahaifjgaa
