/- The table of tasks: heap.down. No condition but the sizes'. -/
import Derived.Test.YtcempndfbckcaaaSeC
namespace Go.Proofs.Ytcempndfbckcaaa
open Go.RowKit

set_option maxRecDepth 100000 in
set_option maxHeartbeats 8000000 in
theorem tdown_any (base g0 f g o cv n m i0 : Nat) (L : List Tk) (hm : m ≤ n) (hi0 : i0 ≤ n) (hn : n ≤ 1000000) (w : World) (hg : g0 ≠ g) (hc : w.cell? ⟨g0, f, none⟩ = some (.slice (some ⟨g, o, none⟩) n cv)) (h : EQ TN 144 w base (.slice (some ⟨g, o, none⟩) n cv) n L) (hu : HpD m (kT L) i0 i0) :
    Calls Try.prog 105 #[.iface 142 (.pointer (some ⟨g0, f, none⟩)), .int .i64 (i0 : Nat), .int .i64 (m : Nat)] w fun e w' => ∃ r, e = .returned (.bool r) ∧ ∃ L', L.Perm L' ∧ L'.drop m = L.drop m ∧ (r = true → Hp m (kT L')) ∧ (r = false → HpU m (kT L') i0) ∧ EQ TN 144 w' base (.slice (some ⟨g, o, none⟩) n cv) n L' ∧ Still [g] w w' := by
  obtain ⟨_, _, he, hnc, hcm⟩ := h.len
  cases he
  unfold maxLen at hcm
  have hQ := Lib.hid h
  have hU := Lib.hid hu
  clear h hu
  replace hc := Lib.hid hc
  go_enter Try.func105, Try.ntmps105
  go_upto_region 2 with (fail)
  go_loopg [7] (m - i0) (fun m' jv wx => ∃ (i : Nat) (L' : List Tk), m' = m - i ∧ jv = .int .i64 (i : Nat) ∧ i0 ≤ i ∧ i ≤ n ∧ Hid (L.Perm L') ∧ Hid (L'.drop m = L.drop m) ∧ Hid (HpD m (kT L') i0 i) ∧ Hid (EQ TN 144 wx base (.slice (some ⟨g, o, none⟩) n cv) n L') ∧ Hid (Still [g] w wx))
  case atStart => exact ⟨i0, L, rfl, rfl, Nat.le_refl _, hi0, .refl _, rfl, hU, hQ, Still.of_below (Below.refl _ _)⟩
  case round =>
    clear hQ hU hi0
    obtain ⟨i, L', rfl, rfl, hi0, hin, hP, hR, hD, hQ, T⟩ := hrel
    have hcr := T.out.cellN hc.out (by simpa using hg)
    have hLe := Lib.hid (fun (k : Nat) (hk : 0 < k) => tq_less hk hcr)
    have hl' := hQ.out.1
    have hSt := Lib.hid (fun (w1 : World) (hB : BW wr w1) => T.out.trans (hB.still [g]))
    obtain ⟨j1, hj1⟩ : ∃ j1, j1 = 2 * i + 1 := ⟨_, rfl⟩
    have a1 : 2 * (i : Int) + 1 = (j1 : Nat) := by omega
    obtain ⟨j2, hj2⟩ : ∃ j2, j2 = j1 + 1 := ⟨_, rfl⟩
    have a2 : (j1 : Int) + 1 = (j2 : Nat) := by omega
    have a3 : decide ((j1 : Int) < 0) = false := by simp
    clear hj1 hj2
    by_cases b1 : j1 < m
    · have d1 : decide ((m : Int) ≤ (j1 : Int)) = false := by simp; omega
      by_cases b2 : j2 < m
      · have d2 : decide ((j2 : Int) < (m : Int)) = true := by simp; omega
        have hk1 := Lib.hid (kf_get (key := Tk.key) (d := ⟨0, 0, 0, ByteArray.empty⟩) (L := L') (k := j1) (by omega))
        have hk2 := Lib.hid (kf_get (key := Tk.key) (d := ⟨0, 0, 0, ByteArray.empty⟩) (L := L') (k := j2) (by omega))
        by_cases hd : (L'[j2]).key < (L'[j1]).key
        · have hd3 := Lib.hid (decide_eq_true hd)
          have hoj : Hid (∀ c, c < m → 0 < c → (c - 1) / 2 = i → kT L' j2 ≤ kT L' c) := Lib.hid (fun c c1 c2 c3 => by
            obtain e | e : c = j1 ∨ c = j2 := by omega
            · subst e; show kf _ _ _ _ ≤ kf _ _ _ _
              rw [hk1.out, hk2.out]
              omega
            · subst e; exact Int.le_refl _)
          clear hd hk1 hk2
          go_wp2_with (first | (rw [hLe.out]; rotate_left; decide; go_simp) | (go_at_call 176; refine (tless_any base _ n L' j2 j1 (by omega) (by omega) _ hQ.out).mono ?_; rintro e w1 ⟨rfl, B1⟩; rw [hd3.out]; replace hcr := (B1.still [g]).cellN hcr (by simpa using hg); clear hLe; have hLx := Lib.hid (fun (k : Nat) (hk : 0 < k) => tq_less hk hcr); replace hQ := Lib.hid (hQ.out.bw B1); replace T := Lib.hid (hSt.out _ B1); replace hSt := Lib.hid (fun (w2 : World) (hB : BW w1 w2) => T.out.trans (hB.still [g])); clear B1))
          have hLe := hLx
          clear hLx
          clear hd3
          obtain ⟨j, rfl⟩ : ∃ j, j = j2 := ⟨_, rfl⟩
          have hpj : (j - 1) / 2 = i := by omega
          have h0j : 0 < j := by omega
          have hj := b2
          have hkj := Lib.hid (kf_get (key := Tk.key) (d := ⟨0, 0, 0, ByteArray.empty⟩) (L := L') (k := j) (by omega))
          have hki := Lib.hid (kf_get (key := Tk.key) (d := ⟨0, 0, 0, ByteArray.empty⟩) (L := L') (k := i) (by omega))
          have hDs := Lib.hid (hD.out.step hj h0j hpj hi0)
          replace hpj := Lib.hid hpj
          by_cases hd : (L'[j]).key < (L'[i]).key
          · have hdt := Lib.hid (decide_eq_true hd)
            clear hD
            go_wp2_with (first | (rw [hLe.out]; rotate_left; decide; go_simp) | (go_at_call 176; refine (tless_any base _ n L' j i (by omega) (by omega) _ hQ.out).mono ?_; rintro e w1 ⟨rfl, B1⟩; rw [hdt.out]; have hc1 := (B1.still [g]).cellN hcr (by simpa using hg); have hS1 := Lib.hid (fun (k : Nat) (hk : 0 < k) => tq_swap hk hc1); have Q1 := Lib.hid (hQ.out.bw B1); have T1 := Lib.hid (hSt.out _ B1); clear B1) | (rw [hS1.out]; rotate_left; decide; go_simp) | (go_at_call 177; refine (tswap_any base g o cv n L' i j (by omega) (by omega) _ Q1.out).mono ?_; rintro e w2 ⟨rfl, Q2, T2⟩; replace Q2 := Lib.hid Q2; replace T2 := Lib.hid (T1.out.trans T2)))
            go_roundg (m - j)
            case measure => have := hpj.out; omega
            refine ⟨j, swapL L' i j (by omega) (by omega), rfl, rfl, by have := hpj.out; omega, by omega, Lib.hid (hP.out.trans (swapL_perm _ _)), Lib.hid ((swapL_drop _ _ (by omega) hj).trans hR.out), Lib.hid ?_, Q2, T2⟩
            refine (hDs.out ?_ hoj.out).congr hj (fun k _ => swapL_kf _ _ k)
            show kf _ _ _ _ ≤ kf _ _ _ _
            rw [hkj.out, hki.out]
            omega
          · have hdt := Lib.hid (decide_eq_false hd)
            have hf : Hid (∀ c, c < m → 0 < c → (c - 1) / 2 = i → kT L' i ≤ kT L' c) := Lib.hid (fun c c1 c2 c3 => by
              have := hoj.out c c1 c2 c3
              refine Int.le_trans ?_ this
              show kf _ _ _ _ ≤ kf _ _ _ _
              rw [hkj.out, hki.out]
              omega)
            clear hoj
            go_wp2_with (first | (rw [hLe.out]; rotate_left; decide; go_simp) | (go_at_call 176; refine (tless_any base _ n L' j i (by omega) (by omega) _ hQ.out).mono ?_; rintro e w1 ⟨rfl, B1⟩; rw [hdt.out]; have Q1 := Lib.hid (hQ.out.bw B1); have T1 := Lib.hid (hSt.out _ B1); clear B1))
            go_ret
            refine ⟨decide (i0 < i), by simp, L', hP.out, hR.out, fun hd => ?_, fun hd => ?_, Q1.out, T1.out⟩
            · exact hD.out.moved (by simpa using hd) hf.out
            · have : i = i0 := by have := of_decide_eq_false hd; omega
              subst this
              exact hD.out.stay hf.out
        · have hd3 := Lib.hid (decide_eq_false hd)
          have hoj : Hid (∀ c, c < m → 0 < c → (c - 1) / 2 = i → kT L' j1 ≤ kT L' c) := Lib.hid (fun c c1 c2 c3 => by
            obtain e | e : c = j1 ∨ c = j2 := by omega
            · subst e; exact Int.le_refl _
            · subst e; show kf _ _ _ _ ≤ kf _ _ _ _
              rw [hk1.out, hk2.out]
              omega)
          clear hd hk1 hk2
          go_wp2_with (first | (rw [hLe.out]; rotate_left; decide; go_simp) | (go_at_call 176; refine (tless_any base _ n L' j2 j1 (by omega) (by omega) _ hQ.out).mono ?_; rintro e w1 ⟨rfl, B1⟩; rw [hd3.out]; replace hcr := (B1.still [g]).cellN hcr (by simpa using hg); clear hLe; have hLx := Lib.hid (fun (k : Nat) (hk : 0 < k) => tq_less hk hcr); replace hQ := Lib.hid (hQ.out.bw B1); replace T := Lib.hid (hSt.out _ B1); replace hSt := Lib.hid (fun (w2 : World) (hB : BW w1 w2) => T.out.trans (hB.still [g])); clear B1))
          have hLe := hLx
          clear hLx
          clear hd3
          obtain ⟨j, rfl⟩ : ∃ j, j = j1 := ⟨_, rfl⟩
          have hpj : (j - 1) / 2 = i := by omega
          have h0j : 0 < j := by omega
          have hj := b1
          have hkj := Lib.hid (kf_get (key := Tk.key) (d := ⟨0, 0, 0, ByteArray.empty⟩) (L := L') (k := j) (by omega))
          have hki := Lib.hid (kf_get (key := Tk.key) (d := ⟨0, 0, 0, ByteArray.empty⟩) (L := L') (k := i) (by omega))
          have hDs := Lib.hid (hD.out.step hj h0j hpj hi0)
          replace hpj := Lib.hid hpj
          by_cases hd : (L'[j]).key < (L'[i]).key
          · have hdt := Lib.hid (decide_eq_true hd)
            clear hD
            go_wp2_with (first | (rw [hLe.out]; rotate_left; decide; go_simp) | (go_at_call 176; refine (tless_any base _ n L' j i (by omega) (by omega) _ hQ.out).mono ?_; rintro e w1 ⟨rfl, B1⟩; rw [hdt.out]; have hc1 := (B1.still [g]).cellN hcr (by simpa using hg); have hS1 := Lib.hid (fun (k : Nat) (hk : 0 < k) => tq_swap hk hc1); have Q1 := Lib.hid (hQ.out.bw B1); have T1 := Lib.hid (hSt.out _ B1); clear B1) | (rw [hS1.out]; rotate_left; decide; go_simp) | (go_at_call 177; refine (tswap_any base g o cv n L' i j (by omega) (by omega) _ Q1.out).mono ?_; rintro e w2 ⟨rfl, Q2, T2⟩; replace Q2 := Lib.hid Q2; replace T2 := Lib.hid (T1.out.trans T2)))
            go_roundg (m - j)
            case measure => have := hpj.out; omega
            refine ⟨j, swapL L' i j (by omega) (by omega), rfl, rfl, by have := hpj.out; omega, by omega, Lib.hid (hP.out.trans (swapL_perm _ _)), Lib.hid ((swapL_drop _ _ (by omega) hj).trans hR.out), Lib.hid ?_, Q2, T2⟩
            refine (hDs.out ?_ hoj.out).congr hj (fun k _ => swapL_kf _ _ k)
            show kf _ _ _ _ ≤ kf _ _ _ _
            rw [hkj.out, hki.out]
            omega
          · have hdt := Lib.hid (decide_eq_false hd)
            have hf : Hid (∀ c, c < m → 0 < c → (c - 1) / 2 = i → kT L' i ≤ kT L' c) := Lib.hid (fun c c1 c2 c3 => by
              have := hoj.out c c1 c2 c3
              refine Int.le_trans ?_ this
              show kf _ _ _ _ ≤ kf _ _ _ _
              rw [hkj.out, hki.out]
              omega)
            clear hoj
            go_wp2_with (first | (rw [hLe.out]; rotate_left; decide; go_simp) | (go_at_call 176; refine (tless_any base _ n L' j i (by omega) (by omega) _ hQ.out).mono ?_; rintro e w1 ⟨rfl, B1⟩; rw [hdt.out]; have Q1 := Lib.hid (hQ.out.bw B1); have T1 := Lib.hid (hSt.out _ B1); clear B1))
            go_ret
            refine ⟨decide (i0 < i), by simp, L', hP.out, hR.out, fun hd => ?_, fun hd => ?_, Q1.out, T1.out⟩
            · exact hD.out.moved (by simpa using hd) hf.out
            · have : i = i0 := by have := of_decide_eq_false hd; omega
              subst this
              exact hD.out.stay hf.out
      · have d2 : decide ((j2 : Int) < (m : Int)) = false := by simp; omega
        have hoj : Hid (∀ c, c < m → 0 < c → (c - 1) / 2 = i → kT L' j1 ≤ kT L' c) := Lib.hid (fun c c1 c2 c3 => by
          obtain rfl : c = j1 := by omega
          exact Int.le_refl _)
        obtain ⟨j, rfl⟩ : ∃ j, j = j1 := ⟨_, rfl⟩
        have hpj : (j - 1) / 2 = i := by omega
        have h0j : 0 < j := by omega
        have hj := b1
        have hkj := Lib.hid (kf_get (key := Tk.key) (d := ⟨0, 0, 0, ByteArray.empty⟩) (L := L') (k := j) (by omega))
        have hki := Lib.hid (kf_get (key := Tk.key) (d := ⟨0, 0, 0, ByteArray.empty⟩) (L := L') (k := i) (by omega))
        have hDs := Lib.hid (hD.out.step hj h0j hpj hi0)
        replace hpj := Lib.hid hpj
        by_cases hd : (L'[j]).key < (L'[i]).key
        · have hdt := Lib.hid (decide_eq_true hd)
          clear hD
          go_wp2_with (first | (rw [hLe.out]; rotate_left; decide; go_simp) | (go_at_call 176; refine (tless_any base _ n L' j i (by omega) (by omega) _ hQ.out).mono ?_; rintro e w1 ⟨rfl, B1⟩; rw [hdt.out]; have hc1 := (B1.still [g]).cellN hcr (by simpa using hg); have hS1 := Lib.hid (fun (k : Nat) (hk : 0 < k) => tq_swap hk hc1); have Q1 := Lib.hid (hQ.out.bw B1); have T1 := Lib.hid (hSt.out _ B1); clear B1) | (rw [hS1.out]; rotate_left; decide; go_simp) | (go_at_call 177; refine (tswap_any base g o cv n L' i j (by omega) (by omega) _ Q1.out).mono ?_; rintro e w2 ⟨rfl, Q2, T2⟩; replace Q2 := Lib.hid Q2; replace T2 := Lib.hid (T1.out.trans T2)))
          go_roundg (m - j)
          case measure => have := hpj.out; omega
          refine ⟨j, swapL L' i j (by omega) (by omega), rfl, rfl, by have := hpj.out; omega, by omega, Lib.hid (hP.out.trans (swapL_perm _ _)), Lib.hid ((swapL_drop _ _ (by omega) hj).trans hR.out), Lib.hid ?_, Q2, T2⟩
          refine (hDs.out ?_ hoj.out).congr hj (fun k _ => swapL_kf _ _ k)
          show kf _ _ _ _ ≤ kf _ _ _ _
          rw [hkj.out, hki.out]
          omega
        · have hdt := Lib.hid (decide_eq_false hd)
          have hf : Hid (∀ c, c < m → 0 < c → (c - 1) / 2 = i → kT L' i ≤ kT L' c) := Lib.hid (fun c c1 c2 c3 => by
            have := hoj.out c c1 c2 c3
            refine Int.le_trans ?_ this
            show kf _ _ _ _ ≤ kf _ _ _ _
            rw [hkj.out, hki.out]
            omega)
          clear hoj
          go_wp2_with (first | (rw [hLe.out]; rotate_left; decide; go_simp) | (go_at_call 176; refine (tless_any base _ n L' j i (by omega) (by omega) _ hQ.out).mono ?_; rintro e w1 ⟨rfl, B1⟩; rw [hdt.out]; have Q1 := Lib.hid (hQ.out.bw B1); have T1 := Lib.hid (hSt.out _ B1); clear B1))
          go_ret
          refine ⟨decide (i0 < i), by simp, L', hP.out, hR.out, fun hd => ?_, fun hd => ?_, Q1.out, T1.out⟩
          · exact hD.out.moved (by simpa using hd) hf.out
          · have : i = i0 := by have := of_decide_eq_false hd; omega
            subst this
            exact hD.out.stay hf.out
    · have d1 : decide ((m : Int) ≤ (j1 : Int)) = true := by simp; omega
      have Q1 := hQ
      have T1 := T
      have hf : Hid (∀ c, c < m → 0 < c → (c - 1) / 2 = i → kT L' i ≤ kT L' c) := Lib.hid (fun c c1 c2 c3 => absurd c1 (by omega))
      go_wp2_with fail
      go_ret
      refine ⟨decide (i0 < i), by simp, L', hP.out, hR.out, fun hd => ?_, fun hd => ?_, Q1.out, T1.out⟩
      · exact hD.out.moved (by simpa using hd) hf.out
      · have : i = i0 := by have := of_decide_eq_false hd; omega
        subst this
        exact hD.out.stay hf.out
end Go.Proofs.Ytcempndfbckcaaa
