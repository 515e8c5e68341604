/- Bytes, and ops of a number, two numbers of 64 bits and bytes, read from the arguments. No condition. -/
import Derived.Test.YtcempndfbckcaaaRd
import Derived.Test.YtcempndfbckcaaaApO
namespace Go.Proofs.Ytcempndfbckcaaa
open Go.RowKit

theorem bys_at {w : World} {a : Option Addr} {len cap : Nat} (h : Rd w (.loop (.loop (.label 4))) [.slice a len cap]) :
    len ≤ cap ∧ cap ≤ maxLen ∧ (len = 0 ∨ ∃ b o, a = some ⟨b, o, none⟩ ∧ b < w.heap.size ∧ ∀ i, i < len → ∃ (sa : Option Addr) (n cp : Nat) (l : List Nat), w.cell? ⟨b, o + i, none⟩ = some (.slice sa n cp) ∧ SB w (.slice sa n cp) n l ∧ n ≤ cp ∧ cp ≤ maxLen) := by
  obtain ⟨h1, h2, h3⟩ := Rd.slice_at h (by decide)
  refine ⟨h1, h2, ?_⟩
  rcases h3 with ⟨_, h, _⟩ | ⟨_, h, _⟩ | ⟨b, o, rfl, hb, hc, hi⟩
  · exact .inl h
  · exact .inl h
  · right
    refine ⟨b, o, rfl, hb, fun i hil => ?_⟩
    obtain ⟨cs, hl, hs, hx⟩ := hi i (by omega)
    rcases hs with rfl | ⟨x, ln, cp, rfl, q1, q2, q3⟩
    · have e0 := hx 0 (by decide)
      have hR : Rd w (.loop (.label 4)) [.slice none 0 0] := .inl rfl
      obtain ⟨l, hv⟩ := SB_of_Rd hR
      exact ⟨none, 0, 0, l, by simpa [tsize] using e0, hv, Nat.le_refl _, by decide⟩
    · have e0 := hx 0 (by decide)
      have hR : Rd w (.loop (.label 4)) [.slice (some x) ln cp] := .inr ⟨x, ln, cp, rfl, q1, q2, q3⟩
      obtain ⟨l, hv⟩ := SB_of_Rd hR
      obtain ⟨_, _, he, k1, k2⟩ := hv.len
      cases he
      exact ⟨some x, ln, cp, l, by simpa [tsize] using e0, hv, k1, k2⟩
abbrev ropTy : Ty := .scope (.seq (.label 4) (.seq (.label 3) (.seq (.label 3) (.seq (.loop (.label 4)) .skip))))
theorem rop_at {w : World} {a : Option Addr} {len cap : Nat} (h : Rd w (.loop ropTy) [.slice a len cap]) :
    len ≤ cap ∧ cap ≤ maxLen ∧ (len = 0 ∨ ∃ b o, a = some ⟨b, o, none⟩ ∧ b < w.heap.size ∧ ∀ i, i < len → ∃ (k c t : Int) (sa : Option Addr) (n cp : Nat) (l : List Nat), w.cell? ⟨b, o + i * 4, none⟩ = some (.int .u8 k) ∧ w.cell? ⟨b, o + i * 4 + 1, none⟩ = some (.int .i64 c) ∧ w.cell? ⟨b, o + i * 4 + 2, none⟩ = some (.int .i64 t) ∧ w.cell? ⟨b, o + i * 4 + 3, none⟩ = some (.slice sa n cp) ∧ SB w (.slice sa n cp) n l ∧ n ≤ cp ∧ cp ≤ maxLen ∧ 0 ≤ k ∧ k ≤ 255 ∧ -9223372036854775808 ≤ c ∧ c ≤ 9223372036854775807 ∧ -9223372036854775808 ≤ t ∧ t ≤ 9223372036854775807) := by
  obtain ⟨h1, h2, h3⟩ := Rd.slice_at h (by decide)
  refine ⟨h1, h2, ?_⟩
  rcases h3 with ⟨_, h, _⟩ | ⟨_, h, _⟩ | ⟨b, o, rfl, hb, hc, hi⟩
  · exact .inl h
  · exact .inl h
  · right
    refine ⟨b, o, rfl, hb, fun i hil => ?_⟩
    obtain ⟨cs, hl, hr, hx⟩ := hi i (by omega)
    obtain ⟨c1, r1, rfl, ⟨n1, rfl, hw1⟩, c2, r2, rfl, ⟨n2, rfl, hw2⟩, c3, r3, rfl, ⟨n3, rfl, hw3⟩, c4, r4, rfl, hs, h5⟩ := hr
    have h5' : r4 = [] := h5
    subst h5'
    have b1 := bounds_u8 hw1
    have b2 := bounds_i64 hw2
    have b3 := bounds_i64 hw3
    rcases hs with rfl | ⟨x, ln, cp, rfl, q1, q2, q3⟩
    · have e0 := hx 0 (by decide)
      have e1 := hx 1 (by decide)
      have e2 := hx 2 (by decide)
      have e3 := hx 3 (by decide)
      have hR : Rd w (.loop (.label 4)) [.slice none 0 0] := .inl rfl
      obtain ⟨l, hv⟩ := SB_of_Rd hR
      exact ⟨n1, n2, n3, none, 0, 0, l, e0, e1, e2, e3, hv, Nat.le_refl _, by decide, b1.1, b1.2, b2.1, b2.2, b3.1, b3.2⟩
    · have e0 := hx 0 (by decide)
      have e1 := hx 1 (by decide)
      have e2 := hx 2 (by decide)
      have e3 := hx 3 (by decide)
      have hR : Rd w (.loop (.label 4)) [.slice (some x) ln cp] := .inr ⟨x, ln, cp, rfl, q1, q2, q3⟩
      obtain ⟨l, hv⟩ := SB_of_Rd hR
      obtain ⟨_, _, he, k1, k2⟩ := hv.len
      cases he
      exact ⟨n1, n2, n3, some x, ln, cp, l, e0, e1, e2, e3, hv, k1, k2, b1.1, b1.2, b2.1, b2.2, b3.1, b3.2⟩
end Go.Proofs.Ytcempndfbckcaaa
