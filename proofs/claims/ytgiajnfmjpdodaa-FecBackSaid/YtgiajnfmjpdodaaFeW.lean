/- The law FecBack. No condition. -/
import Derived.Test.YtgiajnfmjpdodaaFeV
import Derived.Test.YtgiajnfmjpdodaaFeN
import Derived.Test.YtgiajnfmjpdodaaRtI
namespace Go.Proofs.Ytgiajnfmjpdodaa
open Go.RowKit

theorem slRtp : SlTy Try.prog 65 28 11 104 := SlTy.mk' Try.underlying65 (by kernel_rfl) (by decide)
/-- Packets that are read from a world of before. -/
def RV (w0 : World) : Elt RtpD where
  size := 11
  R := fun w b d c => b = 0 ∧ BW w0 w ∧ ∃ a : Array Value, c = a.toList ∧ RtpV w0 a d
  Ok := fun _ k => w0.heap.size ≤ k
  pos := by decide
  len := fun ⟨_, _, a, e, hv⟩ => by
    obtain ⟨_, _, _, _, _, _, rfl, _⟩ := hv.open
    rw [e]; rfl
  one := fun ⟨_, _, a, e, hv⟩ u hu => by
    obtain ⟨_, _, _, _, _, _, rfl, _⟩ := hv.open
    rw [e] at hu
    simp only [rtpC, List.mem_cons, List.not_mem_nil, or_false] at hu
    rcases hu with rfl | rfl | rfl | rfl | rfl | rfl | rfl | rfl | rfl | rfl | rfl <;> rfl
  bw := fun ⟨h0, h1, h2⟩ hb => ⟨h0, h1.trans hb, h2⟩
  up := fun ⟨h0, h1, h2⟩ hb => ⟨by omega, h1, h2⟩
  still := fun ⟨h0, h1, h2⟩ hs hS => ⟨h0, h1.stP hs hS, h2⟩
  old := fun ⟨h0, h1, h2⟩ hs hS => ⟨h0, h1.stP hs (fun k hk => by have := hS k hk; omega), h2⟩
theorem RL.of_rv {w0 w : World} {v : Value} {n : Nat} {D : List RtpD} (h : EQ (RV w0) 28 w 0 v n D) (hw : ∀ d ∈ D, RtpWf d) : RL w v n D := by
  refine ⟨h.1, h.len, fun h0 => ?_, hw⟩
  obtain ⟨g, o, cap, rfl, _, _, _, _, hc⟩ := h.form h0
  refine ⟨g, o, cap, rfl, fun i hi => ?_⟩
  obtain ⟨c, ⟨_, hb, a, rfl, hv⟩, hcc⟩ := hc i hi
  refine ⟨a, hv.bw hb, fun j hj => ?_⟩
  have h1 := hcc j hj
  rw [Nat.add_assoc, show i * 11 = i * (RV w0).size from rfl, h1]
  exact Array.getElem?_toList
theorem lf_yes {D : List RtpD} {i kx : Nat} (h : i < D.length) (hn : i ≠ kx) : (D.take (i + 1)).eraseIdx kx = (D.take i).eraseIdx kx ++ [D[i]] := by
  rw [List.take_succ_eq_append_getElem h]
  by_cases hk : kx < i
  · rw [List.eraseIdx_append_of_lt_length (by rw [List.length_take]; omega)]
  · rw [List.eraseIdx_of_length_le (by simp; omega), List.eraseIdx_of_length_le (by simp; omega)]
theorem lf_no {D : List RtpD} {kx : Nat} (h : kx < D.length) : (D.take (kx + 1)).eraseIdx kx = (D.take kx).eraseIdx kx := by
  have e1 : (D.take kx).eraseIdx kx = D.take kx := List.eraseIdx_of_length_le (by rw [List.length_take]; omega)
  have e2 : kx - (D.take kx).length = 0 := by rw [List.length_take]; omega
  rw [List.take_succ_eq_append_getElem h, List.eraseIdx_append_of_length_le (by rw [List.length_take]; omega), e2, e1]
  simp
theorem tx_two (d : RtpD) : 2 ≤ (txN d).length := by
  unfold txN
  rw [List.length_append, putB_len]; omega
theorem CovOf.len6 {D : List RtpD} {f m : Nat} (C : CovOf D f m) : 6 ≤ (outN D f m).length := by
  unfold outN
  rw [List.length_append, List.length_append, putB_len, putB_len, xorR_len]
  have h2 := C.two
  match D, h2 with
  | d :: D, _ =>
    have := tx_two d
    show 6 ≤ 2 + 2 + max (txN d).length _
    omega
theorem outN_first (D : List RtpD) {f m : Nat} (hf : f < 65536) (hm : m < 65536) : numB (((outN D f m).drop 0).take 2) = f ∧ numB (((outN D f m).drop 2).take 2) = m := by
  unfold outN
  constructor
  · rw [List.drop_zero, List.append_assoc, takeAt (putB_len _ _), numB_putB]; omega
  · rw [List.append_assoc, dropAt (putB_len _ _), takeAt (putB_len _ _), numB_putB]; omega
theorem CovOf.odd {D : List RtpD} {f m : Nat} (C : CovOf D f m) : m % 2 = 1 := by
  have h := C.bits 0
  obtain ⟨d, hd, e⟩ := C.first
  rw [Nat.testBit_zero, List.any_eq_true.2 ⟨d, hd, by rw [e]; unfold dst; simp⟩] at h
  exact of_decide_eq_true h
/-- What is mended. -/
theorem mended {x : RtpD} {X : List Nat} (hw : RtpWf x) (hy : (writeN x).isSome = true) (h1 : (txN x).length ≤ X.length) (h2 : ∀ i, X.getD i 0 = (txN x).getD i 0) :
    ∃ kk hd, 2 ≤ X.length ∧ numB ((X.drop 0).take 2) = kk ∧ kk ≤ X.length - 2 ∧ (X.drop (2 + kk)).any nzB = false ∧ readN ((X.drop 2).take kk) = (0, hd, x) := by
  obtain ⟨b, hb⟩ := Option.isSome_iff_exists.1 hy
  have hl := write_le hb
  have hbx : b = bytesN x ∧ mayN x = true ∧ (bytesN x).length ≤ 1200 := by
    unfold writeN at hb
    split at hb
    · next hh => cases hb; exact ⟨rfl, hh⟩
    · cases hb
  have ht : txN x = putB 2 b.length ++ b := by unfold txN; rw [hb]; rfl
  have htl : (txN x).length = 2 + b.length := by rw [ht, List.length_append, putB_len]
  have hx2 : 2 ≤ X.length := by omega
  refine ⟨b.length, 12 + 4 * x.others.length + (extN x).length, hx2, ?_, by omega, ?_, ?_⟩
  · rw [two_bytes X 0 (by omega), h2, h2, ← two_bytes (txN x) 0 (by omega), ht, List.drop_zero, takeAt (putB_len _ _), numB_putB]
    omega
  · rw [List.any_eq_false]
    intro y hy
    obtain ⟨i, hi, rfl⟩ := List.mem_iff_getElem.1 hy
    have h3 := h2 (2 + b.length + i)
    rw [List.getD_eq_getElem?_getD (l := txN x), List.getElem?_eq_none (by omega)] at h3
    rw [List.getElem_drop]
    rw [List.length_drop] at hi
    rw [List.getD_eq_getElem?_getD, List.getElem?_eq_getElem (by omega)] at h3
    simp only [Option.getD_some, Option.getD_none] at h3
    rw [h3]; decide
  · have : (X.drop 2).take b.length = b := by
      apply List.ext_getElem (by rw [List.length_take, List.length_drop]; omega)
      intro i hi1 hi2
      rw [List.getElem_take, List.getElem_drop]
      have h3 := h2 (2 + i)
      rw [List.getD_eq_getElem?_getD, List.getElem?_eq_getElem (by omega), ht, List.getD_eq_getElem?_getD, List.getElem?_append_right (by rw [putB_len]; omega), putB_len, show 2 + i - 2 = i by omega, List.getElem?_eq_getElem hi2] at h3
      exact h3
    rw [this, hbx.1]
    exact read_write x hw hbx.2.1 hbx.2.2
end Go.Proofs.Ytgiajnfmjpdodaa
