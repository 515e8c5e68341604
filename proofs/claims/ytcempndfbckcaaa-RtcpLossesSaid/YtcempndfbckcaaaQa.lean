/- Whole arrays (and structs) loaded, in a region that draws. -/
import Derived.Test.YtcempndfbckcaaaRg
import Derived.Laws.Rows
namespace Go.Proofs.Ytcempndfbckcaaa
open Go.RowKit

theorem quiet_load_row {P : Program} {C : World → Prop} {a a1 : Act} {o : Oper} {K : Act → Prop} (T : TypeId) (x : Operand) (ho : o.op = .load T x) (g : Nat) (hx : a.eval x = .pointer (some ⟨g, 0, none⟩)) (t : TypeId) (c : Array Value) (fr : Nat × Nat) (d : TypeDesc)
    (hu : P.underlying T = some d) (hd : (match d with | .struct _ | .array _ _ => true | _ => false) = true) (hi : (P.info? T).map (·.size) = some c.size) (h : ∀ w, C w → w.heap[g]? = some (.cells c t fr)) (ha : a.put o.dst (.agg c) = a1) (hK : K a1) : o.quiet P a C K := by
  refine ⟨.agg c, fun w hw => ?_, by rw [ha]; exact hK⟩
  unfold Oper.quietAt execOp
  simp only [ho, hx, Instr.loadAt, Instr.sureAddr, Sem.run_bind, Sem.run_pure, Result.andThen_ok, run_loadVar_row w g t T c fr d (h w hw) hu hd hi, Oper.quietUpon, and_self]
end Go.Proofs.Ytcempndfbckcaaa
