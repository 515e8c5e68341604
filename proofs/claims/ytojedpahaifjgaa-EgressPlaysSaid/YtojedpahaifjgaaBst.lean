/- Bytes as a string: string(b). No condition. -/
import Derived.Test.YtojedpahaifjgaaPre
import Derived.Test.YtojedpahaifjgaaGKi
import Derived.Laws.BytesArg
namespace Go.Proofs.Ytojedpahaifjgaa
open Go.RowKit
def bstr (l : List Nat) : ByteArray := strOfNums (l.map fun (n : Nat) => (n : Int))
theorem conv_sb {w : World} {v : Value} {n : Nat} {l : List Nat} (h : SB w v n l) : (convert 34 9 v).run Try.prog w = .ok (.string (bstr l)) w := by
 obtain ⟨h1, h2, h3, h4, ⟨h5, sa, cp, rfl, h6, h7⟩ | ⟨b, o, cap, rfl, hn, hc, hlt, hcell⟩⟩ := h
 ·subst h5
  have : l = [] := List.eq_nil_of_length_eq_zero h1
  subst this
  rw [run_convert_bytes_string w 34 9 5 sa 0 cp Try.underlying34 Try.underlying5 Try.underlying9]
  cases sa with
  | none => simp [Conv.bytesToString, bstr, strOfNums]; rfl
  | some a => simp [Conv.bytesToString, bstr, strOfNums, loadCells, loadCellsFrom]; rfl
 ·refine run_convert_bytes_arg w 34 5 Try.underlying34 Try.underlying5 b o n cap (l.map fun (n : Nat) => (n : Int)) (by simpa using h1) (fun i hi => ?_) 9 Try.underlying9
  rw [hcell i (by omega), bvs_get _ _ (by omega)]
  simp [List.getD_eq_getElem?_getD, List.getElem?_eq_getElem (show i < l.length by omega)]
end Go.Proofs.Ytojedpahaifjgaa
