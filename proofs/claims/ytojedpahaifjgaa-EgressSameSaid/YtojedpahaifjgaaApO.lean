/- append of bytes onto a slice of the call's own: the walk's step. No condition but the sizes'. -/
import Derived.Test.YtojedpahaifjgaaPre
namespace Go.Proofs.Ytojedpahaifjgaa
open Go.RowKit
theorem OB.new (w : World) (base : Nat) (l : List Nat) (n : Nat) (hb : base ≤ w.heap.size) (hl : l.length = n) (hn : n ≤ maxLen) (hby : ByL l) : OB (w.alloc (.cells (ivA .u8 l) 5)) base 5 (.slice (some ⟨w.heap.size, 0, none⟩) n n) n l :=
 ⟨hl, hby, Ows.new w base _ 1 _ _ n hb (by rw [bvs_len]; omega) hn (by simp [ivA, bvs])⟩
end Go.Proofs.Ytojedpahaifjgaa
