/- A call through an interface whose dynamic type is a pointer, of a method that takes the pointed value: which function, and the value. No condition but that the value is known. -/
import Derived.Test.YtcempndfbckcaaaEls
import Derived.Handy
namespace Go.Proofs.Ytcempndfbckcaaa
open Go.RowKit

theorem run_method_val {P : Program} {t e : TypeId} {name : String} {fn : FuncId} {k : Nat} {a : Addr} {v : Value} {w : World} (hk : 0 < k) (hm : (P.info? t).bind (fun i => (i.methods.find? (·.name == name)).map fun m => (m.path, m.func)) = some (#[], some (fn, false))) (hu : P.underlying t = some (.pointer e)) (hag : (isAgg e).run P w = .ok false w) (hc : w.cell? a = some v) :
    (method k t (.pointer (some a)) name).run P w = .ok (fn, v) w := by
  obtain ⟨k, rfl⟩ : ∃ k', k = k' + 1 := ⟨k - 1, by omega⟩
  have hw : ∀ s : String, (Builtin.ssaWrapNilChk_ #[t] t #[.pointer (some a), strVal "", strVal s]).run P w = .ok (.pointer (some a)) w := fun s => by
    rfl
  cases hi : P.info? t with
  | none => rw [hi] at hm; exact absurd hm (by simp)
  | some i =>
    rw [hi] at hm
    cases hf : i.methods.find? (·.name == name) with
    | none => simp [hf] at hm
    | some m =>
      simp [hf] at hm
      obtain ⟨h1, h2⟩ := hm
      unfold method
      simp [typeInfo, hi, hf, h1, h2, follow, receiverAt, run_underlying hu, Place.get, loadVar, asAddr, hw, hag, Result.andThen]
      rw [hc]
end Go.Proofs.Ytcempndfbckcaaa
