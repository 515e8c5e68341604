/- The table of tasks: heap.up. No condition but the sizes'. -/
import Derived.Test.YtcempndfbckcaaaSeB
import Derived.Test.YtcempndfbckcaaaImv
namespace Go.Proofs.Ytcempndfbckcaaa
open Go.RowKit

def kT : List Tk → Nat → Int := kf Tk.key ⟨0, 0, 0, ByteArray.empty⟩
theorem tagQ (w : World) : (isAgg 139).run Try.prog w = .ok false w := by
  simp [isAgg, run_underlying Try.underlying139]
theorem tq_less {k : Nat} {a : Addr} {v : Value} {w : World} (hk : 0 < k) (hc : w.cell? a = some v) : (method k 142 (.pointer (some a)) "Less").run Try.prog w = .ok (176, v) w :=
  run_method_val (e := 139) hk (by kernel_rfl) Try.underlying142 (tagQ w) hc
theorem tq_swap {k : Nat} {a : Addr} {v : Value} {w : World} (hk : 0 < k) (hc : w.cell? a = some v) : (method k 142 (.pointer (some a)) "Swap").run Try.prog w = .ok (177, v) w :=
  run_method_val (e := 139) hk (by kernel_rfl) Try.underlying142 (tagQ w) hc
theorem tq_len {k : Nat} {a : Addr} {v : Value} {w : World} (hk : 0 < k) (hc : w.cell? a = some v) : (method k 142 (.pointer (some a)) "Len").run Try.prog w = .ok (175, v) w :=
  run_method_val (e := 139) hk (by kernel_rfl) Try.underlying142 (tagQ w) hc
set_option maxRecDepth 100000 in
set_option maxHeartbeats 8000000 in
theorem tup_any (base g0 f g o cv n j : Nat) (L : List Tk) (hj : j < n) (hn : n ≤ 1000000) (w : World) (hg : g0 ≠ g) (hc : w.cell? ⟨g0, f, none⟩ = some (.slice (some ⟨g, o, none⟩) n cv)) (h : EQ TN 144 w base (.slice (some ⟨g, o, none⟩) n cv) n L) (hu : HpU n (kT L) j) :
    Calls Try.prog 103 #[.iface 142 (.pointer (some ⟨g0, f, none⟩)), .int .i64 (j : Nat)] w fun e w' => e = .returned (.tuple #[]) ∧ ∃ L', L.Perm L' ∧ Hp n (kT L') ∧ EQ TN 144 w' base (.slice (some ⟨g, o, none⟩) n cv) n L' ∧ Still [g] w w' := by
  obtain ⟨_, _, he, hnc, hcm⟩ := h.len
  cases he
  unfold maxLen at hcm
  have hQ := Lib.hid h
  have hU := Lib.hid hu
  clear h hu
  replace hc := Lib.hid hc
  go_enter Try.func103, Try.ntmps103
  go_upto_region 0 with (fail)
  go_loopg [1] j (fun m' jv wx => ∃ (j : Nat) (L' : List Tk), j = m' ∧ jv = .int .i64 (j : Nat) ∧ j < n ∧ Hid (L.Perm L') ∧ Hid (HpU n (kT L') j) ∧ Hid (EQ TN 144 wx base (.slice (some ⟨g, o, none⟩) n cv) n L') ∧ Hid (Still [g] w wx))
  case atStart => exact ⟨j, L, rfl, rfl, hj, .refl _, hU, hQ, Still.of_below (Below.refl _ _)⟩
  case round =>
    clear hQ hU hj
    clear j
    obtain ⟨j, L', rfl, rfl, hj, hP, hU, hQ, T⟩ := hrel
    have hcr := T.out.cellN hc.out (by simpa using hg)
    have hLe := Lib.hid (fun (k : Nat) (hk : 0 < k) => tq_less hk hcr)
    have hl' := hQ.out.1
    have hSt := Lib.hid (fun (w1 : World) (hB : BW wr w1) => T.out.trans (hB.still [g]))
    by_cases h0 : j = 0
    · subst h0
      have ht : (((0 : Nat) : Int) - 1).tdiv 2 = 0 := by decide
      go_wp2_with fail
      go_end0
      exact ⟨rfl, L', hP.out, hU.out.zero, hQ.out, T.out⟩
    · have ht : ((j : Int) - 1).tdiv 2 = (((j - 1) / 2 : Nat) : Int) := by
        rw [show (j : Int) - 1 = ((j - 1 : Nat) : Int) by omega, Int.tdiv_eq_ediv_of_nonneg (by omega)]
        rfl
      have hne : (j - 1) / 2 < j := by omega
      have h0' : 0 < j := by omega
      have hUl := Lib.hid (hU.out.fin)
      have hUs := Lib.hid (hU.out.step hj h0')
      clear hU
      generalize hi : (j - 1) / 2 = i at *
      have hi' : i < n := by omega
      have hkj := Lib.hid (kf_get (key := Tk.key) (d := ⟨0, 0, 0, ByteArray.empty⟩) (L := L') (k := j) (by omega))
      have hki := Lib.hid (kf_get (key := Tk.key) (d := ⟨0, 0, 0, ByteArray.empty⟩) (L := L') (k := i) (by omega))
      by_cases hd : (L'[j]).key < (L'[i]).key
      · have hD := Lib.hid (decide_eq_true hd)
        replace hi := Lib.hid hi
        go_wp2_with (first | (rw [hLe.out]; rotate_left; decide; go_simp) | (go_at_call 176; refine (tless_any base _ n L' j i (by omega) (by omega) _ hQ.out).mono ?_; rintro e w1 ⟨rfl, B1⟩; rw [hD.out]; have hc1 := (B1.still [g]).cellN hcr (by simpa using hg); have hS1 := Lib.hid (fun (k : Nat) (hk : 0 < k) => tq_swap hk hc1); have Q1 := Lib.hid (hQ.out.bw B1); have T1 := Lib.hid (hSt.out _ B1); clear B1) | (rw [hS1.out]; rotate_left; decide; go_simp) | (go_at_call 177; refine (tswap_any base g o cv n L' i j (by omega) (by omega) _ Q1.out).mono ?_; rintro e w2 ⟨rfl, Q2, T2⟩; replace Q2 := Lib.hid Q2; replace T2 := Lib.hid (T1.out.trans T2)))
        go_roundg i
        case measure => exact hne
        refine ⟨i, swapL L' i j (by omega) (by omega), rfl, rfl, hi', Lib.hid (hP.out.trans (swapL_perm _ _)), Lib.hid ?_, Q2, T2⟩
        refine (hUs.out ?_).congr hi' (fun k _ => swapL_kf _ _ k)
        show kf _ _ _ _ ≤ kf _ _ _ _
        rw [hkj.out, hki.out]
        omega
      · have hD := Lib.hid (decide_eq_false hd)
        go_wp2_with (first | (rw [hLe.out]; rotate_left; decide; go_simp) | (go_at_call 176; refine (tless_any base _ n L' j i (by omega) (by omega) _ hQ.out).mono ?_; rintro e w1 ⟨rfl, B1⟩; rw [hD.out]; have Q1 := Lib.hid (hQ.out.bw B1); have T1 := Lib.hid (hSt.out _ B1); clear B1))
        go_end0
        refine ⟨rfl, L', hP.out, hUl.out ?_, Q1.out, T1.out⟩
        show kf _ _ _ _ ≤ kf _ _ _ _
        rw [hkj.out, hki.out]
        omega
end Go.Proofs.Ytcempndfbckcaaa
