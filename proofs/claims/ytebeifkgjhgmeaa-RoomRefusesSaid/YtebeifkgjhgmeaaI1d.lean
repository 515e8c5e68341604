/- Elements that are numbers of 64 bits. Nothing of the program; no condition. -/
import Derived.Test.YtebeifkgjhgmeaaEls
namespace Go.Proofs.Ytebeifkgjhgmeaa
open Go.RowKit
def I1 : Elt Int where
 size := 1
 R := fun _ _ a c => c = [.int .i64 a]
 Ok := fun _ _ => True
 pos := by decide
 len := fun e => by rw [e]; rfl
 one := fun e u hu => by rw [e] at hu; simp at hu; rw [hu]; rfl
 bw := fun e _ => e
 up := fun e _ => e
 still := fun e _ _ => e
 old := fun e _ _ => e
theorem i1_form {T : TypeId} {w : World} {base : Nat} {sv : Option Addr} {n cap : Nat} {L : List Int} (h : EQ I1 T w base (.slice sv n cap) n L) (h0 : 0 < n) :
  ∃ g o, sv = some ⟨g, o, none⟩ ∧ ∀ i (hi : i < L.length), w.cell? ⟨g, o + i, none⟩ = some (.int .i64 L[i]) := by
 obtain ⟨g, o, cap', hsl, _, _, _, _, hce⟩ := h.form h0
 simp only [Value.slice.injEq] at hsl
 refine ⟨g, o, hsl.1, fun i hi => ?_⟩
 obtain ⟨c, hc, hcc⟩ := hce i hi
 have hc' : c = [.int .i64 L[i]] := hc
 have z0 := hcc 0 (by decide)
 have e2 : I1.size = 1 := rfl
 rw [hc', e2, Nat.mul_one] at z0
 exact z0
end Go.Proofs.Ytebeifkgjhgmeaa
