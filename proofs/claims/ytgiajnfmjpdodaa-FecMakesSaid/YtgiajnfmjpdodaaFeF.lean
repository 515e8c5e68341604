/- Covers of packets: xor of rows. No condition but the sizes'. -/
import Derived.Test.YtgiajnfmjpdodaaFeE
namespace Go.Proofs.Ytgiajnfmjpdodaa
open Go.RowKit

/-- A row turned by another one, as far as k. -/
def xz (a b : List Nat) (k : Nat) : List Nat := (List.range a.length).map fun i => if i < k then a.getD i 0 ^^^ b.getD i 0 else a.getD i 0
theorem xz_len (a b : List Nat) (k : Nat) : (xz a b k).length = a.length := by simp [xz]
theorem xz_0 (a b : List Nat) : xz a b 0 = a := by
  apply List.ext_getElem (xz_len _ _ _)
  intro i h1 h2
  simp [xz, List.getD_eq_getElem?_getD, List.getElem?_eq_getElem h2]
theorem xz_getD (a b : List Nat) (k : Nat) (h : k < a.length) : (xz a b k).getD k 0 = a.getD k 0 := by
  rw [List.getD_eq_getElem?_getD, List.getElem?_eq_getElem (by rw [xz_len]; exact h)]
  simp [xz]
theorem xz_set (a b : List Nat) (k : Nat) (h : k < a.length) : (xz a b k).set k (a.getD k 0 ^^^ b.getD k 0) = xz a b (k + 1) := by
  apply List.ext_getElem (by rw [List.length_set, xz_len, xz_len])
  intro i h1 h2
  rw [List.getElem_set]
  by_cases e : k = i
  · subst e
    simp [xz]
  · rw [if_neg e]
    simp only [xz, List.getElem_map, List.getElem_range]
    by_cases q : i < k
    · rw [if_pos q, if_pos (by omega)]
    · rw [if_neg q, if_neg (by omega)]
/-- One row turned by another, as long as the longer one. -/
def xo (a b : List Nat) : List Nat := xz (a ++ List.replicate (b.length - a.length) 0) b b.length
def xorR (rows : List (List Nat)) : List Nat := rows.foldl xo []
theorem xo_len (a b : List Nat) : (xo a b).length = max a.length b.length := by
  unfold xo
  rw [xz_len, List.length_append, List.length_replicate]
  omega
theorem xorR_step (rows : List (List Nat)) (k : Nat) (h : k < rows.length) : xorR (rows.take (k + 1)) = xo (xorR (rows.take k)) (rows.getD k []) := by
  unfold xorR
  rw [List.take_succ_eq_append_getElem h, List.foldl_append, List.getD_eq_getElem?_getD, List.getElem?_eq_getElem h]
  rfl
theorem xo_get (a b : List Nat) (i : Nat) : (xo a b).getD i 0 = a.getD i 0 ^^^ b.getD i 0 := by
  by_cases h : i < max a.length b.length
  · rw [List.getD_eq_getElem?_getD, List.getElem?_eq_getElem (by rw [xo_len]; exact h)]
    simp only [xo, xz, List.getElem_map, List.getElem_range, Option.getD_some]
    have e : (a ++ List.replicate (b.length - a.length) 0).getD i 0 = a.getD i 0 := by
      simp only [List.getD_eq_getElem?_getD]
      by_cases q : i < a.length
      · rw [List.getElem?_append_left q]
      · rw [List.getElem?_append_right (by omega), List.getElem?_eq_none (l := a) (by omega), List.getElem?_replicate]
        split <;> rfl
    rw [e]
    by_cases q : i < b.length
    · rw [if_pos q]
    · rw [if_neg q, List.getD_eq_getElem?_getD (l := b), List.getElem?_eq_none (l := b) (by omega)]
      simp
  · rw [List.getD_eq_getElem?_getD, List.getElem?_eq_none (by rw [xo_len]; omega), List.getD_eq_getElem?_getD, List.getElem?_eq_none (by omega), List.getD_eq_getElem?_getD, List.getElem?_eq_none (by omega)]
    rfl
theorem row_le {rows : List (List Nat)} (hs : ∀ r ∈ rows, r.length ≤ 1000000) (k : Nat) : (rows.getD k []).length ≤ 1000000 := by
  by_cases h : k < rows.length
  · rw [List.getD_eq_getElem?_getD, List.getElem?_eq_getElem h]
    exact hs _ (List.getElem_mem h)
  · rw [List.getD_eq_getElem?_getD, List.getElem?_eq_none (by omega)]
    exact Nat.zero_le _
set_option maxRecDepth 100000 in
set_option maxHeartbeats 8000000 in
theorem xor_any (v : Value) (n : Nat) (rows : List (List Nat)) (w : World) (h : SM w v n rows) (hs : ∀ r ∈ rows, r.length ≤ 1000000) (hn : n ≤ 1000000) :
    Calls Try.prog 78 #[v] w fun e w' => ∃ u, e = .returned u ∧ OB w' w.heap.size 5 u (xorR rows).length (xorR rows) ∧ Below w.heap.size w w' := by
  obtain ⟨sv, cv, rfl, hcv, hmv⟩ := h.len
  unfold maxLen at hmv
  have hH := Lib.hid h
  have hrl := Lib.hid h.1
  clear h
  have hstep := Lib.hid (xorR_step rows)
  have hrow := Lib.hid (row_le hs)
  clear hs
  go_enter Try.func78, Try.ntmps78
  go_upto_region 3 with (fail)
  go_loopg [3, 11] n (fun m' s i wx => ∃ (j : Nat) (so : Option Addr) (L c : Nat), m' = n - j ∧ j ≤ n ∧ s = .slice so L c ∧ L ≤ 1000000 ∧ c ≤ 9223372036854775807 ∧ i = .int .i64 (j : Nat) ∧ Hid (OB wx w.heap.size 5 (.slice so L c) L (xorR (rows.take j))) ∧ Hid (Below w.heap.size w wx))
  case atStart => exact ⟨0, none, 0, 0, by omega, by omega, rfl, by omega, by omega, rfl, OB.nil _ _ _, Below.refl _ _⟩
  case round =>
    obtain ⟨j, so, L, c, rfl, hj, rfl, hL, hcm, rfl, O, B⟩ := hrel
    by_cases hjn : j < n
    · have d : decide ((j : Int) < (n : Int)) = true := by simp; omega
      obtain ⟨b, o, cap, he, _, _, hbw, hcell⟩ := hH.out.form (by omega)
      cases he
      obtain ⟨s, ln, cl, hc, hSB⟩ := hcell j hjn
      have hc1 := B.out.cell (p := ⟨b, o + j, none⟩) hbw
      rw [hc] at hc1
      have S1 := Lib.hid (hSB.below B.out (Nat.le_refl _))
      have hst := hstep.out j (by rw [hrl.out]; exact hjn)
      have hlr := hrow.out j
      rw [hSB.1] at hlr
      clear hcell hc
      generalize rows.getD j [] = r at *
      replace hst := Lib.hid hst
      obtain ⟨wq, rfl⟩ : ∃ y, y = wr := ⟨_, rfl⟩
      have hz0 := B.out.size
      by_cases hm : L < ln
      · have d2 : decide ((0 : Int) < (ln : Int) - (L : Int)) = true := by simp; omega
        have hsb : ((ln : Int) - (L : Int)) = ((ln - L : Nat) : Int) := by omega
        have hs2 : L + (ln - L) = ln := by omega
        have hal : (xorR (rows.take j)).length = L := O.out.1
        have hxo : xorR (rows.take (j + 1)) = xz (xorR (rows.take j) ++ List.replicate (ln - L) 0) r ln := by
          rw [hst.out]; unfold xo; rw [hal, S1.out.1]
        generalize ln - L = dd at *
        have hlm2 : L + dd ≤ 1000000 := by omega
        replace hxo := Lib.hid hxo
        replace hs2 := Lib.hid hs2
        clear hst hal
        go_upto_region 8 with (at_builtin; go_must (refine wpList_apOBz rfl _ _ rfl w.heap.size _ L _ rfl O.out dd (by first | rfl | exact congrArg _ hsb) (by omega) hz0 ?_; intro s5 c5 w5 hc5 hm5 O5 T5 B5 G5; replace O5 := Lib.hid O5; replace B5 := Lib.hid (B.out.trans B5); clear T5 G5))
        have hlm : ln ≤ L + dd := by have := hs2.out; omega
        generalize xorR (rows.take j) ++ List.replicate dd 0 = A at *
        generalize hR1 : xorR (rows.take (j + 1)) = R at *
        replace hR1 := Lib.hid hR1
        clear O B S1 d2 hsb hs2
        unfold maxLen at hm5
        generalize L + dd = m at *
        have hAl := Lib.hid O5.out.1
        have hAb := Lib.hid O5.out.sb.2.1
        have hrb := Lib.hid hSB.2.1
        have H0 := Lib.hid hSB
        clear hSB
        go_upto_region 9 with (fail)
        go_loopg [27] ln (fun m' i wx => ∃ k : Nat, m' = ln - k ∧ k ≤ ln ∧ i = .int .i64 (k : Nat) ∧ Hid (OB wx w.heap.size 5 (.slice s5 m c5) m (xz A r k)) ∧ Hid (Below w.heap.size w wx))
        case atStart => exact ⟨0, by omega, by omega, rfl, by rw [xz_0]; exact O5, B5⟩
        case round =>
          clear O5 B5
          obtain ⟨k, rfl, hk, rfl, O6, B6⟩ := hrel
          by_cases hkn : k < ln
          · have d3 : decide ((k : Int) < (ln : Int)) = true := by simp; omega
            obtain ⟨g, o1, cap1, he, hbg, hlt, _, _, hcell, hfz⟩ := O6.out.form (by omega)
            cases he
            obtain ⟨gs, os, cs, he, _, _, _, hcs⟩ := (H0.out.below B6.out (Nat.le_refl _)).form (by omega)
            cases he
            have hcz := hcs k hkn
            have hcx := hcell k (by omega)
            rw [xz_getD A r k (by rw [hAl.out]; omega)] at hcx
            have hx := xz_set A r k (by rw [hAl.out]; omega)
            have hfx := hfz (o1 + k)
            have hy := ByL.get hAb.out k
            have hz := ByL.get hrb.out k
            generalize A.getD k 0 = y at *
            generalize r.getD k 0 = z at *
            have hxr := u8_xor_nat y z hy hz
            have hyx : y ^^^ z < 256 := Nat.xor_lt_two_pow (n := 8) hy hz
            have O7 := Lib.hid (O6.out.set k (by omega) (y ^^^ z) hyx)
            rw [hx] at O7
            have B7 := Lib.hid (Below.set3 B6.out (b := g) (o := o1 + k) hbg (.int .u8 (y ^^^ z : Nat)))
            clear hcell hfz O6 B6 hx hcs
            go_wp2_with fail
            go_roundg (ln - (k + 1))
            case measure => omega
            case rel => exact ⟨k + 1, by omega, by omega, by go_num, O7, B7⟩
          · obtain rfl : k = ln := by omega
            have d3 : decide ((k : Int) < (k : Int)) = false := by simp
            rw [← hxo.out] at O6
            go_wp2_with fail
            go_roundg (n - (j + 1))
            case measure => omega
            case rel => exact ⟨j + 1, s5, m, c5, by omega, by omega, rfl, by omega, by omega, by go_num, by rw [hR1.out]; exact O6, B6⟩
      · have d2 : decide ((0 : Int) < (ln : Int) - (L : Int)) = false := by simp; omega
        have hal : (xorR (rows.take j)).length = L := O.out.1
        have hxo : xorR (rows.take (j + 1)) = xz (xorR (rows.take j)) r ln := by
          rw [hst.out]; unfold xo; rw [hal, S1.out.1, show ln - L = 0 by omega]; simp
        obtain ⟨_, _, he, hc5, hm5⟩ := O.out.len
        cases he
        unfold maxLen at hm5
        have hlm : ln ≤ L := by omega
        have hlm2 : L ≤ 1000000 := hL
        replace hxo := Lib.hid hxo
        clear hst hal
        go_upto_region 8 with (fail)
        generalize xorR (rows.take j) = A at *
        generalize hR1 : xorR (rows.take (j + 1)) = R at *
        replace hR1 := Lib.hid hR1
        have O5 := O
        have B5 := B
        clear O B S1 d2
        generalize so = s5 at *
        generalize c = c5 at *
        generalize L = m at *
        generalize wq = w5 at *
        have hAl := Lib.hid O5.out.1
        have hAb := Lib.hid O5.out.sb.2.1
        have hrb := Lib.hid hSB.2.1
        have H0 := Lib.hid hSB
        clear hSB
        go_upto_region 9 with (fail)
        go_loopg [27] ln (fun m' i wx => ∃ k : Nat, m' = ln - k ∧ k ≤ ln ∧ i = .int .i64 (k : Nat) ∧ Hid (OB wx w.heap.size 5 (.slice s5 m c5) m (xz A r k)) ∧ Hid (Below w.heap.size w wx))
        case atStart => exact ⟨0, by omega, by omega, rfl, by rw [xz_0]; exact O5, B5⟩
        case round =>
          clear O5 B5
          obtain ⟨k, rfl, hk, rfl, O6, B6⟩ := hrel
          by_cases hkn : k < ln
          · have d3 : decide ((k : Int) < (ln : Int)) = true := by simp; omega
            obtain ⟨g, o1, cap1, he, hbg, hlt, _, _, hcell, hfz⟩ := O6.out.form (by omega)
            cases he
            obtain ⟨gs, os, cs, he, _, _, _, hcs⟩ := (H0.out.below B6.out (Nat.le_refl _)).form (by omega)
            cases he
            have hcz := hcs k hkn
            have hcx := hcell k (by omega)
            rw [xz_getD A r k (by rw [hAl.out]; omega)] at hcx
            have hx := xz_set A r k (by rw [hAl.out]; omega)
            have hfx := hfz (o1 + k)
            have hy := ByL.get hAb.out k
            have hz := ByL.get hrb.out k
            generalize A.getD k 0 = y at *
            generalize r.getD k 0 = z at *
            have hxr := u8_xor_nat y z hy hz
            have hyx : y ^^^ z < 256 := Nat.xor_lt_two_pow (n := 8) hy hz
            have O7 := Lib.hid (O6.out.set k (by omega) (y ^^^ z) hyx)
            rw [hx] at O7
            have B7 := Lib.hid (Below.set3 B6.out (b := g) (o := o1 + k) hbg (.int .u8 (y ^^^ z : Nat)))
            clear hcell hfz O6 B6 hx hcs
            go_wp2_with fail
            go_roundg (ln - (k + 1))
            case measure => omega
            case rel => exact ⟨k + 1, by omega, by omega, by go_num, O7, B7⟩
          · obtain rfl : k = ln := by omega
            have d3 : decide ((k : Int) < (k : Int)) = false := by simp
            rw [← hxo.out] at O6
            go_wp2_with fail
            go_roundg (n - (j + 1))
            case measure => omega
            case rel => exact ⟨j + 1, s5, m, c5, by omega, by omega, rfl, by omega, by omega, by go_num, by rw [hR1.out]; exact O6, B6⟩
    · obtain rfl : j = n := by omega
      have d : decide ((j : Int) < (j : Int)) = false := by simp
      have hR : rows.take j = rows := List.take_of_length_le (by rw [hrl.out]; exact Nat.le_refl _)
      rw [hR] at O
      have hq := O.out.1
      go_wp2_with fail
      go_ret
      rw [hq]
      exact ⟨_, rfl, O.out, B.out⟩
end Go.Proofs.Ytgiajnfmjpdodaa
