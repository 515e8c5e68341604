/- slices.Index of sources and places; slices.Contains of places. No condition but the sizes'. -/
import Derived.Test.YtebeifkgjhgmeaaRmA
import Derived.Lib.Hide
namespace Go.Proofs.Ytebeifkgjhgmeaa
open Go.RowKit
def ixUN : List Nat → Nat → Nat → Int
 | [], _, _ => -1
 | y :: l, x, k => if y = x then (k : Nat) else ixUN l x (k + 1)
set_option maxRecDepth 100000 in
set_option maxHeartbeats 8000000 in
theorem ixU (base n : Nat) (v : Value) (l : List Nat) (x : Nat) (w : World) (h : SQ EU4 w base v n l) (hn : n ≤ 1000000) :
  Calls Try.prog 39 #[v, .int .u32 (x : Nat)] w fun e w' => e = .returned (.int .i64 (ixUN l x 0)) ∧ w = w' := by
 obtain ⟨sa, cap, rfl, hnc, hcm⟩ := h.len
 unfold maxLen at hcm
 have hH := Lib.hid h
 have hdl := Lib.hid h.1
 clear h
 obtain ⟨R, hR⟩ : ∃ R, ixUN l x 0 = R := ⟨_, rfl⟩
 rw [hR]
 have hA : ixUN (l.drop 0) x 0 = R := by rw [List.drop_zero]; exact hR
 replace hA := Lib.hid hA
 replace hR := Lib.hid hR
 go_enter Try.func39, Try.ntmps39
 go_upto_region 2 with (fail)
 go_loopg [8] n (fun m' i wx => ∃ k : Nat, m' = n - k ∧ k ≤ n ∧ i = .int .i64 (k : Nat) ∧ Hid (ixUN (l.drop k) x k = R) ∧ Hid (w = wx))
 case atStart => exact ⟨0, by omega, by omega, rfl, hA, rfl⟩
 case round =>
  clear hA
  obtain ⟨k, rfl, hk, rfl, hA, hw⟩ := hrel
  obtain rfl := hw.out
  by_cases hkn : k < n
  ·have d : decide ((k : Int) < (n : Int)) = true := by simp; omega
   have hkD : k < l.length := by rw [hdl.out]; exact hkn
   obtain ⟨g, o, cap', hsl, -, -, -, hce⟩ := hH.out.form (by omega)
   simp only [Value.slice.injEq] at hsl
   obtain ⟨rfl, -, -⟩ := hsl
   obtain ⟨c, hc, hcc⟩ := hce k hkD
   have hc' : c = [.int .u32 (l[k] : Nat)] := hc
   have z0 := hcc 0 (by decide)
   rw [hc', show (EU4).size = 1 from rfl, Nat.mul_one, Nat.add_zero] at z0
   simp only [List.getElem?_cons_zero] at z0
   have hA2 := hA.out
   rw [List.drop_eq_getElem_cons hkD] at hA2
   have hA3 : (if l[k] = x then ((k : Nat) : Int) else ixUN (l.drop (k + 1)) x (k + 1)) = R := hA2
   clear hce hcc hc hc' hA2
   generalize l[k] = y at *
   by_cases hyx : y = x
   ·rw [if_pos hyx] at hA3
    have d2 : ((x : Int) == (y : Int)) = true := by rw [hyx]; exact beq_self_eq_true _
    replace hA3 := Lib.hid hA3
    replace hyx := Lib.hid hyx
    go_wp2_with fail
    go_ret
    exact ⟨by rw [← hA3.out]; rfl, rfl⟩
   ·rw [if_neg hyx] at hA3
    have d2 : ((x : Int) == (y : Int)) = false := beq_eq_false_iff_ne.2 (by first | omega | (intro e; exact hyx e.symm))
    replace hA3 := Lib.hid hA3
    replace hyx := Lib.hid hyx
    go_wp2_with fail
    go_roundg (n - (k + 1))
    case measure => omega
    case rel => exact ⟨k + 1, rfl, by omega, by push_cast; rfl, hA3, rfl⟩
  ·obtain rfl : k = n := by omega
   have d : decide ((k : Int) < (k : Int)) = false := by simp
   have hA2 := hA.out
   rw [List.drop_of_length_le (by rw [hdl.out]; exact Nat.le_refl _)] at hA2
   have hA3 : (-1 : Int) = R := hA2
   replace hA3 := Lib.hid hA3
   replace hA2 := Lib.hid hA2
   go_wp2_with fail
   go_ret
   exact ⟨by rw [← hA3.out]; rfl, rfl⟩
def ixIN : List Int → Int → Nat → Int
 | [], _, _ => -1
 | y :: l, x, k => if y = x then (k : Nat) else ixIN l x (k + 1)
set_option maxRecDepth 100000 in
set_option maxHeartbeats 8000000 in
theorem ixI (base n : Nat) (v : Value) (l : List Int) (x : Int) (w : World) (h : SQ I1 w base v n l) (hn : n ≤ 1000000) :
  Calls Try.prog 40 #[v, .int .i64 x] w fun e w' => e = .returned (.int .i64 (ixIN l x 0)) ∧ w = w' := by
 obtain ⟨sa, cap, rfl, hnc, hcm⟩ := h.len
 unfold maxLen at hcm
 have hH := Lib.hid h
 have hdl := Lib.hid h.1
 clear h
 obtain ⟨R, hR⟩ : ∃ R, ixIN l x 0 = R := ⟨_, rfl⟩
 rw [hR]
 have hA : ixIN (l.drop 0) x 0 = R := by rw [List.drop_zero]; exact hR
 replace hA := Lib.hid hA
 replace hR := Lib.hid hR
 go_enter Try.func40, Try.ntmps40
 go_upto_region 2 with (fail)
 go_loopg [8] n (fun m' i wx => ∃ k : Nat, m' = n - k ∧ k ≤ n ∧ i = .int .i64 (k : Nat) ∧ Hid (ixIN (l.drop k) x k = R) ∧ Hid (w = wx))
 case atStart => exact ⟨0, by omega, by omega, rfl, hA, rfl⟩
 case round =>
  clear hA
  obtain ⟨k, rfl, hk, rfl, hA, hw⟩ := hrel
  obtain rfl := hw.out
  by_cases hkn : k < n
  ·have d : decide ((k : Int) < (n : Int)) = true := by simp; omega
   have hkD : k < l.length := by rw [hdl.out]; exact hkn
   obtain ⟨g, o, cap', hsl, -, -, -, hce⟩ := hH.out.form (by omega)
   simp only [Value.slice.injEq] at hsl
   obtain ⟨rfl, -, -⟩ := hsl
   obtain ⟨c, hc, hcc⟩ := hce k hkD
   have hc' : c = [.int .i64 l[k]] := hc
   have z0 := hcc 0 (by decide)
   rw [hc', show (I1).size = 1 from rfl, Nat.mul_one, Nat.add_zero] at z0
   simp only [List.getElem?_cons_zero] at z0
   have hA2 := hA.out
   rw [List.drop_eq_getElem_cons hkD] at hA2
   have hA3 : (if l[k] = x then ((k : Nat) : Int) else ixIN (l.drop (k + 1)) x (k + 1)) = R := hA2
   clear hce hcc hc hc' hA2
   generalize l[k] = y at *
   by_cases hyx : y = x
   ·rw [if_pos hyx] at hA3
    have d2 : (x == y) = true := by rw [hyx]; exact beq_self_eq_true _
    replace hA3 := Lib.hid hA3
    replace hyx := Lib.hid hyx
    go_wp2_with fail
    go_ret
    exact ⟨by rw [← hA3.out]; rfl, rfl⟩
   ·rw [if_neg hyx] at hA3
    have d2 : (x == y) = false := beq_eq_false_iff_ne.2 (by first | omega | (intro e; exact hyx e.symm))
    replace hA3 := Lib.hid hA3
    replace hyx := Lib.hid hyx
    go_wp2_with fail
    go_roundg (n - (k + 1))
    case measure => omega
    case rel => exact ⟨k + 1, rfl, by omega, by push_cast; rfl, hA3, rfl⟩
  ·obtain rfl : k = n := by omega
   have d : decide ((k : Int) < (k : Int)) = false := by simp
   have hA2 := hA.out
   rw [List.drop_of_length_le (by rw [hdl.out]; exact Nat.le_refl _)] at hA2
   have hA3 : (-1 : Int) = R := hA2
   replace hA3 := Lib.hid hA3
   replace hA2 := Lib.hid hA2
   go_wp2_with fail
   go_ret
   exact ⟨by rw [← hA3.out]; rfl, rfl⟩
set_option maxRecDepth 100000 in
set_option maxHeartbeats 8000000 in
theorem hasI (base n : Nat) (v : Value) (l : List Int) (x : Int) (w : World) (h : SQ I1 w base v n l) (hn : n ≤ 1000000) :
  Calls Try.prog 30 #[v, .int .i64 x] w fun e w' => e = .returned (.bool (decide (0 ≤ ixIN l x 0))) ∧ w = w' := by
 have c := Lib.hid (ixI base n v l x w h hn)
 obtain ⟨sa, cap, rfl, hnc, hcm⟩ := h.len
 clear h
 generalize ixIN l x 0 = r at *
 go_enter Try.func30, Try.ntmps30
 go_wp2_with fail
 refine Calls.mono c.out ?_
 rintro e w2 ⟨rfl, rfl⟩
 dsimp only
 go_wp2_with fail
 go_ret
 exact ⟨rfl, rfl⟩
end Go.Proofs.Ytebeifkgjhgmeaa
