/- slices.Clone of bytes. No condition but the sizes'. -/
import Derived.Test.YtojedpahaifjgaaApO
namespace Go.Proofs.Ytojedpahaifjgaa
open Go.RowKit
theorem SB.none {w : World} {ln cp : Nat} {l : List Nat} (h : SB w (.slice none ln cp) ln l) : ln = 0 ∧ cp = 0 ∧ l = [] := by
 obtain ⟨h1, _, _, _, ⟨h5, sa, cp', he, hc, _⟩ | ⟨b, o, cap, he, _⟩⟩ := h
 ·cases he
  exact ⟨h5, hc rfl, List.eq_nil_of_length_eq_zero (by omega)⟩
 ·cases he
end Go.Proofs.Ytojedpahaifjgaa
