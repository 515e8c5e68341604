/- Elements that are numbers of 64 bits. Nothing of the program; no condition. -/
import Derived.Test.YtafhnlnhflehhaaDoorEls
namespace Go.Proofs.YtafhnlnhflehhaaDoor
open Go.RowKit
theorem still_setR (w : World) (g o : Nat) (v : Value) : Still [g] w (w.setCell ⟨g, o, none⟩ v) :=
 ⟨rfl, rfl, rfl, by simp [World.setCell], fun k _ hk => hp_oth (by simpa using hk)⟩
def I1 : Elt Int where
 size := 1
 R := fun _ _ a c => c = [.int .i64 a]
 Ok := fun _ _ => True
 pos := by decide
 len := fun e => by rw [e]; rfl
 one := fun e u hu => by rw [e] at hu; simp at hu; rw [hu]; rfl
 bw := fun e _ => e
 up := fun e _ => e
 still := fun e _ _ => e
 old := fun e _ _ => e
end Go.Proofs.YtafhnlnhflehhaaDoor
