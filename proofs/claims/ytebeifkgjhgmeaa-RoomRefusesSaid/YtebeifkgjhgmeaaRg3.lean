/- A region in any order, step by step: several operations that are ready at once, some of which may turn anything. No condition. -/
import Derived.Test.YtebeifkgjhgmeaaRg
namespace Go.Proofs.Ytebeifkgjhgmeaa
open Go.RowKit
section
variable {P : Program} {Q : Exit → Act → World → Prop}
theorem effectM {fl : List Flt} {l : List Oper} {S : List Nat} {row wild loose : List Nat} {listed : List Bool} {a : Act} {w : World} {f : Nat} (rs : List Nat) (hr : Region.ready .any l.toArray listed.toArray = rs) (hn : rs ≠ []) (hwi : rs.all (fun j => !wild.contains j) = true)
  (h : ∀ j ∈ rs, ∃ oj, l[j]? = some oj ∧ Region.wanted oj (yielded l.toArray a.tmps) = true ∧ ∀ (x : LaterS [] w) (K : Act → World → Prop), (∀ a' w', StO (if loose.contains j then none else some (if row.contains j then S else [])) x.now w' → GG P l S row wild loose fl Q f (listed.set j true) a' w' → K a' w') → oj.wp P a x.now K NoQ) : GG P l S row wild loose fl Q (f + 1) listed a w := by
 intro x
 refine ⟨fun h0 => absurd (hr.symm.trans h0) hn, fun j hj => ?_⟩
 rw [hr] at hj
 obtain ⟨oj, hi, hw, hg⟩ := h j hj
 have hwj : wild.contains j = false := by simpa using List.all_eq_true.1 hwi j hj
 rw [if_neg (by show ¬ wild.contains j = true; rw [hwj]; exact Bool.false_ne_true)]
 unfold wpOp
 have hi' : l.toArray[j]? = some oj := by simpa using hi
 simp only [hi', hw, if_true]
 refine .inl (hg x _ fun a' w' hb hg => ⟨hb, fun y => ?_⟩)
 have h5 := hg y
 rw [List.setIfInBounds_toArray]
 exact h5
theorem mem2 {p : Nat → Prop} {i j : Nat} (hi : p i) (hj : p j) : ∀ k ∈ [i, j], p k := fun k hk => by
 rcases (by simpa using hk : k = i ∨ k = j) with rfl | rfl
 ·exact hi
 ·exact hj
theorem mem3 {p : Nat → Prop} {i j m : Nat} (hi : p i) (hj : p j) (hm : p m) : ∀ k ∈ [i, j, m], p k := fun k hk => by
 rcases (by simpa using hk : k = i ∨ k = j ∨ k = m) with rfl | rfl | rfl
 ·exact hi
 ·exact hj
 ·exact hm
end
end Go.Proofs.Ytebeifkgjhgmeaa
