/-  -/
import Derived.Test.YtojedpahaifjgaaGBa
import Derived.Laws.BytesArg
namespace Go.Proofs.Ytojedpahaifjgaa
open Go.RowKit
theorem conv_slB {w : World} {sa : Option Addr} {ln cp : Nat} {l : List Int} (h : SlB w sa ln cp l) : (convert 34 9 (.slice sa ln cp)).run Try.prog w = .ok (.string (strOfNums l)) w := by
 obtain ⟨h1, h2, h3, h4, ⟨h5, h6⟩ | ⟨b, o, rfl, hlt, hc⟩⟩ := h
 ·subst h5
  have : l = [] := List.eq_nil_of_length_eq_zero h1.symm
  subst this
  rw [run_convert_bytes_string w 34 9 5 sa 0 cp Try.underlying34 Try.underlying5 Try.underlying9]
  cases sa with
  | none => simp [Conv.bytesToString, strOfNums]; rfl
  | some a => simp [Conv.bytesToString, strOfNums, loadCells, loadCellsFrom]; rfl
 ·exact run_convert_bytes_arg w 34 5 Try.underlying34 Try.underlying5 b o ln cp l h1.symm hc 9 Try.underlying9
end Go.Proofs.Ytojedpahaifjgaa
