/- Maps that a call has made: a key that is there gets another value; how many keys there are. -/
import Derived.Test.YtcempndfbckcaaaMp
namespace Go.Proofs.Ytcempndfbckcaaa
open Go.ChangeMaps (setBlock heap_setBlock_same heap_setBlock_other)
section
variable {P : Program} {k t e : TypeId} {w : World} {g : Nat} {s : List (Value × Value)}
theorem MapIn.len (h : MapIn w g s) (ht : P.underlying t = some (.map k e)) (ty : TypeId) : (Builtin.len_ #[t] ty #[.map (some g)]).run P w = .ok (.int .i64 (s.length : Nat)) w := by
 obtain ⟨es, clock, hb, he⟩ := h
 have : es.size = s.length := by rw [← he, List.length_map, Array.length_toList]
 simp [Builtin.len_, run_underlying ht, MapKept.run_getObj_map hb, Result.andThen, goInt, this]
end
end Go.Proofs.Ytcempndfbckcaaa
