/- Frames and replies that came in as plain data; the document's example. No condition. -/
import Derived.Test.YtcempndfbckcaaaFrQ
import Derived.Lib.SlBytesConst
namespace Go.Proofs.Ytcempndfbckcaaa
open Go.RowKit

abbrev frTy : Ty := .scope (.seq (.label 3) (.seq (.label 3) (.seq (.label 7) (.seq (.label 3) (.seq (.label 3) (.seq (.label 3) (.seq (.label 3) (.seq (.loop (.label 6)) .skip))))))))
abbrev repTy : Ty := .scope (.seq (.label 7) (.seq (.label 3) (.seq (.label 3) .skip)))
theorem rd_sl {w : World} {e : Ty} {cs : List Value} (h : Rd w (.loop e) cs) : ∃ sa ln cp, cs = [.slice sa ln cp] := by
  rcases h with rfl | ⟨a, len, cap, rfl, _⟩
  · exact ⟨_, _, _, rfl⟩
  · exact ⟨_, _, _, rfl⟩
theorem u32_rd {w : World} {sa : Option Addr} {ln cp : Nat} (h : Rd w (.loop (.label 6)) [.slice sa ln cp]) : ∃ l : List Nat, (∀ x ∈ l, x < 4294967296) ∧ l.length = ln ∧ NB w .u32 (.slice sa ln cp) ln (nzl l) := by
  obtain ⟨h1, h2, h3⟩ := Rd.slice_at h (by decide)
  refine ⟨(List.range ln).map fun i => match sa with | some x => (intOf ((w.cell? ⟨x.block, x.off + i, none⟩).getD undef)).toNat | none => 0, ?_, by simp, by simp [nzl], by rw [nvs_len]; simp [nzl], Nat.le_trans h1 h2, ?_⟩
  · intro x hx
    obtain ⟨i, hi, rfl⟩ := List.mem_map.1 hx
    have hi := List.mem_range.1 hi
    rcases h3 with ⟨_, h, _⟩ | ⟨_, h, _⟩ | ⟨b, o, rfl, hb, hc, hcell⟩
    · omega
    · omega
    · obtain ⟨cs, hl, ⟨n, rfl, hw⟩, hx⟩ := hcell i (by omega)
      have e0 := hx 0 (by decide)
      have e0' : w.cell? ⟨b, o + i, none⟩ = some (.int .u32 n) := by simpa [tsize, kd] using e0
      dsimp only
      rw [e0']
      have hb := bounds_u32 hw
      show n.toNat < 4294967296
      omega
  · rcases h3 with ⟨_, h, h'⟩ | ⟨h', h, hh⟩ | ⟨b, o, rfl, hb, hc, hcell⟩
    · subst h
      exact .inl ⟨rfl, sa, cp, rfl, fun _ => h', h2⟩
    · subst h
      exact .inl ⟨rfl, sa, cp, rfl, fun hn => by (obtain ⟨x, hx⟩ := hh; rw [hx] at hn; cases hn), h2⟩
    · refine .inr ⟨b, o, cp, rfl, h1, h2, hb, fun i hi => ?_⟩
      obtain ⟨cs, hl, ⟨n, rfl, hw⟩, hx⟩ := hcell i (by omega)
      have e0 := hx 0 (by decide)
      have e0' : w.cell? ⟨b, o + i, none⟩ = some (.int .u32 n) := by simpa [tsize, kd] using e0
      have hb := bounds_u32 hw
      have hi' : i < ln := by omega
      rw [e0', nvs_get _ _ _ (by simp [nzl]; omega)]
      simp only [nzl, List.getD_eq_getElem?_getD, List.getElem?_map, List.getElem?_range hi', Option.map_some, Option.getD_some, e0', intOf]
      congr 2
      omega
theorem FrV_of_Rd {w : World} {cs : Array Value} (h : Rd w frTy cs.toList) : ∃ d, FrV w cs d ∧ FrWf d := by
  obtain ⟨c0, r0, e0, ⟨k, rfl, w0⟩, h⟩ := h
  obtain ⟨c1, r1, rfl, ⟨s, rfl, w1⟩, h⟩ := h
  obtain ⟨c2, r2, rfl, ⟨nc, rfl, w2⟩, h⟩ := h
  obtain ⟨c3, r3, rfl, ⟨r, rfl, w3⟩, h⟩ := h
  obtain ⟨c4, r4, rfl, ⟨t, rfl, w4⟩, h⟩ := h
  obtain ⟨c5, r5, rfl, ⟨o, rfl, w5⟩, h⟩ := h
  obtain ⟨c6, r6, rfl, ⟨l, rfl, w6⟩, h⟩ := h
  obtain ⟨c7, r7, rfl, k7, h⟩ := h
  obtain ⟨s1, n1, p1, rfl⟩ := rd_sl k7
  have hr : r7 = [] := h
  subst hr
  have b0 := bounds_i64 w0
  have b1 := bounds_i64 w1
  have b2 := bounds_u64 w2
  have b3 := bounds_i64 w3
  have b4 := bounds_i64 w4
  have b5 := bounds_i64 w5
  have b6 := bounds_i64 w6
  obtain ⟨L, hL, hl, hN⟩ := u32_rd k7
  obtain ⟨nc, rfl⟩ := Int.eq_ofNat_of_zero_le b2.1
  subst hl
  refine ⟨⟨k, s, nc, r, t, o, l, L⟩, ⟨_, ?_, hN⟩, ⟨by unfold I64; omega, by unfold I64; omega, by show nc < 18446744073709551616; omega, by unfold I64; omega, by unfold I64; omega, by unfold I64; omega, by unfold I64; omega, hL⟩⟩
  apply Array.ext'
  rw [e0]
  rfl
theorem rep_of_Rd {w : World} {cs : Array Value} (h : Rd w repTy cs.toList) : ∃ (nc : Nat) (c v : Int), cs = #[.int .u64 (nc : Nat), .int .i64 c, .int .i64 v] ∧ nc < 18446744073709551616 ∧ I64 c ∧ I64 v := by
  obtain ⟨c0, r0, e0, ⟨nc, rfl, w0⟩, h⟩ := h
  obtain ⟨c1, r1, rfl, ⟨c, rfl, w1⟩, h⟩ := h
  obtain ⟨c2, r2, rfl, ⟨v, rfl, w2⟩, h⟩ := h
  have hr : r2 = [] := h
  subst hr
  have b0 := bounds_u64 w0
  have b1 := bounds_i64 w1
  have b2 := bounds_i64 w2
  obtain ⟨nc, rfl⟩ := Int.eq_ofNat_of_zero_le b0.1
  refine ⟨nc, c, v, ?_, by omega, by unfold I64; omega, by unfold I64; omega⟩
  apply Array.ext'
  rw [e0]
  rfl
def d0 : FrD := ⟨1, 0, 0, 5, 0, 0, -1, []⟩
theorem d0_wf : FrWf d0 := ⟨by unfold I64; decide, by unfold I64; decide, by decide, by unfold I64; decide, by unfold I64; decide, by unfold I64; decide, by unfold I64; decide, fun x hx => by cases hx⟩
theorem d0_may : mayF d0 = true := by kernel_rfl
theorem d0_other : ((rdF [108] (frN [107] d0)).1 == 4) = true := by kernel_rfl
theorem d0_other2 : (rdF [108] (frN [107] d0)).1 = 4 := by simpa using d0_other
end Go.Proofs.Ytcempndfbckcaaa
