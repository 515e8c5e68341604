/- Rings: where an index is. No condition but the sizes'. -/
import Derived.Test.YtojedpahaifjgaaRiA
import Derived.Test.YtojedpahaifjgaaIB
namespace Go.Proofs.Ytojedpahaifjgaa
open Go.RowKit

theorem nan_any (x : Int) (w : World) : Calls Try.prog 101 #[.int .i64 x] w fun e w' => e = .returned (.bool false) ∧ w = w' := by
  have d : (x != x) = false := by simp
  go_enter Try.func101, Try.ntmps101
  go_wp2
  go_ret
  exact ⟨rfl, rfl⟩
def cmpI (x y : Int) : Int := if x < y then -1 else if y < x then 1 else 0
theorem cmp_any (x y : Int) (w : World) : Calls Try.prog 92 #[.int .i64 x, .int .i64 y] w fun e w' => e = .returned (.int .i64 (cmpI x y)) ∧ w = w' := by
  unfold cmpI
  by_cases h1 : x < y
  · have d1 : decide (x < y) = true := by simpa using h1
    rw [if_pos h1]
    replace h1 := Lib.hid h1
    go_enter Try.func92, Try.ntmps92
    go_wp2_with fail
    refine Calls.mono (nan_any x _) ?_
    rintro e w' ⟨rfl, rfl⟩
    dsimp only
    go_wp2_with fail
    refine Calls.mono (nan_any y _) ?_
    rintro e w' ⟨rfl, rfl⟩
    dsimp only
    go_wp2_with fail
    go_ret
    exact ⟨rfl, rfl⟩
  have d1 : decide (x < y) = false := by simpa using h1
  rw [if_neg h1]
  by_cases h2 : y < x
  · have d2 : decide (y < x) = true := by simpa using h2
    rw [if_pos h2]
    replace h1 := Lib.hid h1
    replace h2 := Lib.hid h2
    go_enter Try.func92, Try.ntmps92
    go_wp2_with fail
    refine Calls.mono (nan_any x _) ?_
    rintro e w' ⟨rfl, rfl⟩
    dsimp only
    go_wp2_with fail
    refine Calls.mono (nan_any y _) ?_
    rintro e w' ⟨rfl, rfl⟩
    dsimp only
    go_wp2_with fail
    go_ret
    exact ⟨rfl, rfl⟩
  have d2 : decide (y < x) = false := by simpa using h2
  rw [if_neg h2]
  replace h1 := Lib.hid h1
  replace h2 := Lib.hid h2
  go_enter Try.func92, Try.ntmps92
  go_wp2_with fail
  refine Calls.mono (nan_any x _) ?_
  rintro e w' ⟨rfl, rfl⟩
  dsimp only
  go_wp2_with fail
  refine Calls.mono (nan_any y _) ?_
  rintro e w' ⟨rfl, rfl⟩
  dsimp only
  go_wp2_with fail
  go_ret
  exact ⟨rfl, rfl⟩
theorem cmpPk_any (x y : Int) (u : Value) (w : World) : Calls Try.prog 91 #[.agg #[.int .i64 x, u], .int .i64 y] w fun e w' => e = .returned (.int .i64 (cmpI x y)) ∧ BW w w' := by
  go_enter Try.func91, Try.ntmps91
  go_wp2_with fail
  refine Calls.mono (cmp_any x y _) ?_
  rintro e w' ⟨rfl, rfl⟩
  dsimp only
  go_wp2_with fail
  go_ret
  exact ⟨rfl, (by repeat (first | exact BW.refl _ | apply BW.alloc | apply BW.drewN | apply BW.drew))⟩
def Srt (L : PL) : Prop := ∀ i j, i < j → j < L.length → cl L i < cl L j
/-- How many are below an index. -/
def lowN (L : PL) (x : Int) : Nat := (L.takeWhile fun p => decide (p.1 < x)).length
theorem lowN_eq {L : PL} {x : Int} {k : Nat} (h1 : k ≤ L.length) (h2 : ∀ j, j < k → cl L j < x) (h3 : ∀ j, k ≤ j → j < L.length → x ≤ cl L j) : lowN L x = k := by
  induction L generalizing k with
  | nil => simp at h1; subst h1; rfl
  | cons p L ih =>
    unfold lowN
    cases k with
    | zero =>
      have : x ≤ p.1 := h3 0 (Nat.le_refl _) (by simp)
      rw [List.takeWhile_cons, if_neg (by simpa using this)]; rfl
    | succ k =>
      have : p.1 < x := h2 0 (by omega)
      rw [List.takeWhile_cons, if_pos (by simpa using this), List.length_cons]
      have := ih (k := k) (by simpa using h1) (fun j hj => h2 (j + 1) (by omega)) (fun j hj hl => h3 (j + 1) (by omega) (by simpa using hl))
      unfold lowN at this
      rw [this]
/-- The index is there. -/
def isAt (L : PL) (x : Int) : Bool := decide (lowN L x < L.length ∧ cl L (lowN L x) = x)

set_option maxRecDepth 100000 in
set_option maxHeartbeats 8000000 in
theorem search_any (base : Nat) (v : Value) (n : Nat) (L : PL) (x : Int) (w : World) (h : EQ IB 158 w base v n L) (hs : Srt L) (hn : n ≤ 1000000) :
    Calls Try.prog 90 #[v, .int .i64 x, .func (.func 91) #[] #[]] w fun e w' => e = .returned (.tuple #[.int .i64 (lowN L x : Nat), .bool (isAt L x)]) ∧ BW w w' := by
  obtain ⟨sv, cv, rfl, hnc, hcm⟩ := h.len
  unfold maxLen at hcm
  have hQ := Lib.hid h
  have hS := Lib.hid hs
  have hn1 := Lib.hid h.1
  clear h hs
  go_enter Try.func90, Try.ntmps90
  go_upto_region 3 with (fail)
  go_loopg [9, 10] n (fun m' i j wx => ∃ lo hi : Nat, m' = hi - lo ∧ lo ≤ hi ∧ hi ≤ n ∧ i = .int .i64 (lo : Nat) ∧ j = .int .i64 (hi : Nat) ∧ Hid (∀ k, k < lo → cl L k < x) ∧ Hid (∀ k, hi ≤ k → k < L.length → x ≤ cl L k) ∧ Hid (BW w wx))
  case atStart => exact ⟨0, n, by omega, by omega, by omega, rfl, rfl, (fun k hk => by omega), (fun k h1 h2 => by have := hn1.out; omega), BW.refl _⟩
  case round =>
    obtain ⟨lo, hi, rfl, hlh, hhn, rfl, rfl, hlo, hhi, B⟩ := hrel
    by_cases hl : lo < hi
    · have d1 : decide ((lo : Int) < (hi : Int)) = true := by simp; omega
      have hm1 : lo ≤ (lo + hi) / 2 := by omega
      have hm2 : (lo + hi) / 2 < hi := by omega
      obtain ⟨g, o, cap, hsl, _, _, _, _, hce⟩ := (hQ.out.bw B.out).form (by omega)
      simp only [Value.slice.injEq] at hsl
      obtain ⟨rfl, -, rfl⟩ := hsl
      obtain ⟨c, ⟨u, hc, hu⟩, hcc⟩ := hce ((lo + hi) / 2) (by have := hn1.out; omega)
      obtain ⟨su, cu, rfl, hx1, hx2⟩ := hu.len
      clear hx1 hx2
      have z0 := hcc 0 (by decide)
      have z1 := hcc 1 (by decide)
      rw [hc] at z0 z1
      rw [← cl_get] at z0
      have e2 : IB.size = 2 := rfl
      rw [e2] at z0 z1
      clear e2
      simp only [List.getElem?_cons_zero, List.getElem?_cons_succ, Nat.add_zero, ← Nat.add_assoc] at z0 z1
      clear hce hcc hc hu
      generalize (L[(lo + hi) / 2]'(by have := hn1.out; omega)).2.length = bl at *
      go_wp2_with fail
      refine Calls.mono (cmpPk_any (cl L ((lo + hi) / 2)) x _ _) ?_
      rintro e w2 ⟨rfl, hb⟩
      have B2 := Lib.hid (B.out.trans hb)
      have hmI : ((lo : Int) + (hi : Int)) / 2 = (((lo + hi) / 2 : Nat) : Int) := by omega
      rw [hmI]
      clear hb z0 z1 d1 hmI
      generalize (lo + hi) / 2 = m at *
      dsimp only
      have hml : m < L.length := by have := hn1.out; omega
      by_cases hc : cl L m < x
      · have d2 : cmpI (cl L m) x = -1 := by unfold cmpI; rw [if_pos hc]
        rw [d2]
        have d3 : decide ((-1 : Int) < 0) = true := by decide
        have hlo2 : ∀ k, k < m + 1 → cl L k < x := fun k hk => by
          by_cases e : k = m
          · rw [e]; exact hc
          · have := hS.out k m (by omega) hml; omega
        clear d2
        replace hlo2 := Lib.hid hlo2
        replace hc := Lib.hid hc
        go_wp2_with fail
        go_roundg (hi - (m + 1))
        case measure => omega
        case rel => exact ⟨m + 1, hi, rfl, by omega, by omega, by push_cast; rfl, rfl, hlo2, hhi, B2⟩
      · have hc0 : 0 ≤ cmpI (cl L m) x := by unfold cmpI; rw [if_neg hc]; split <;> decide
        generalize cmpI (cl L m) x = cc at *
        have d3 : decide (cc < 0) = false := by simp; omega
        have hhi2 : ∀ k, m ≤ k → k < L.length → x ≤ cl L k := fun k h1 h2 => by
          by_cases e : k = m
          · rw [e]; omega
          · have := hS.out m k (by omega) h2; omega
        replace hhi2 := Lib.hid hhi2
        replace hc := Lib.hid hc
        go_wp2_with fail
        go_roundg (m - lo)
        case measure => omega
        case rel => exact ⟨lo, m, rfl, by omega, by omega, rfl, rfl, hlo, hhi2, B2⟩
    · obtain rfl : lo = hi := by omega
      have d1 : decide ((lo : Int) < (lo : Int)) = false := by simp
      have hk := lowN_eq (L := L) (x := x) (k := lo) (by have := hn1.out; omega) hlo.out hhi.out
      by_cases hln : lo < n
      · have d2 : decide ((lo : Int) < (n : Int)) = true := by simp; omega
        obtain ⟨g, o, cap, hsl, _, _, _, _, hce⟩ := (hQ.out.bw B.out).form (by omega)
        simp only [Value.slice.injEq] at hsl
        obtain ⟨rfl, -, rfl⟩ := hsl
        obtain ⟨c, ⟨u, hc, hu⟩, hcc⟩ := hce lo (by have := hn1.out; omega)
        obtain ⟨su, cu, rfl, _, _⟩ := hu.len
        have z0 := hcc 0 (by decide)
        have z1 := hcc 1 (by decide)
        rw [hc] at z0 z1
        rw [← cl_get] at z0
        have e2 : IB.size = 2 := rfl
        rw [e2] at z0 z1
        clear e2
        simp only [List.getElem?_cons_zero, List.getElem?_cons_succ, Nat.add_zero, ← Nat.add_assoc] at z0 z1
        clear hce hcc hc hu d1
        have hR : isAt L x = (cmpI (cl L lo) x == 0) := by
          unfold isAt
          rw [hk]
          have h1 : lo < L.length := by have := hn1.out; omega
          have h2 := hhi.out lo (Nat.le_refl _) h1
          unfold cmpI
          rw [if_neg (by omega)]
          by_cases e : cl L lo = x
          · rw [if_neg (by omega)]; simp [h1, e]
          · rw [if_pos (by omega)]; simp [e]
        replace hk := Lib.hid hk
        replace hR := Lib.hid hR
        go_wp2_with fail
        refine Calls.mono (cmpPk_any (cl L lo) x _ _) ?_
        rintro e w2 ⟨rfl, hb⟩
        have B2 := Lib.hid (B.out.trans hb)
        clear hb z0 z1
        dsimp only
        go_wp2_with fail
        go_ret2
        rw [hk.out, hR.out]
        exact ⟨rfl, B2.out⟩
      · have d2 : decide ((lo : Int) < (n : Int)) = false := by simp; omega
        have hR : isAt L x = false := by
          unfold isAt
          rw [hk, decide_eq_false (fun h => by have := hn1.out; have := h.1; omega)]
        replace hk := Lib.hid hk
        replace hR := Lib.hid hR
        clear d1
        go_wp2_with fail
        go_ret2
        rw [hk.out, hR.out]
        exact ⟨rfl, B.out⟩
end Go.Proofs.Ytojedpahaifjgaa
