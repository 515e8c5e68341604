/- A region in any order, step by step: for a call that gives up before all is listed. No condition. -/
import Derived.Test.YtebeifkgjhgmeaaRg
namespace Go.Proofs.Ytebeifkgjhgmeaa
open Go.RowKit
section
variable {P : Program} {Q : Exit → Act → World → Prop}
theorem mild_of {l : List Oper} {oi : Oper} {a a1 : Act} {w : World} {d : Nat}
  (hw : Region.wanted oi (yielded l.toArray a.tmps) = true) (hd : oi.dst = some d) (hlt : Nat.ble (d + 1) a.tmps.size = true)
  (h : ∀ (x : LaterS [] w) (K : Act → Prop), K a1 → oi.quiet P a (fun w' => w' = x.now) K) : ∃ v, a.put oi.dst v = a1 ∧ Mild P l.toArray [] oi v a w := by
 obtain ⟨v, hv, he⟩ := h (LaterS.first [] w) (fun a' => a' = a1) rfl
 have hlt' : d < a.tmps.size := Nat.le_of_ble_eq_true hlt
 refine ⟨v, he, .inl ⟨hw, fun x => ?_⟩⟩
 obtain ⟨v', hv', he'⟩ := h x (fun a' => a' = a1) rfl
 have hvv : v' = v := by
  rw [← he] at he'
  have h3 := congrArg (fun b : Act => b.tmps[d]?) he'
  simp only [Act.put, hd, Array.getElem?_setIfInBounds_self_of_lt hlt', Option.some.injEq] at h3
  exact h3
 rw [hvv] at hv'
 have h4 := hv' x.now rfl
 unfold Oper.quietAt at h4
 generalize (execOp a.eval oi).run P x.now = r at *
 cases r with
 | ok n w' =>
  cases n <;> simp only [Oper.quietUpon] at h4 <;> simp only [Oper.mildUpon]
  case enter g args => exact ⟨h4.1, h4.2.mono fun e w'' ⟨h5, h6⟩ => ⟨h5, by rw [h6]; exact Still.refl _ _⟩⟩
  all_goals exact h4
 | halt _ _ => simp only [Oper.quietUpon] at h4
def AnyL (P : Program) (l : List Oper) (Q : Exit → Act → World → Prop) (f : Nat) (listed : List Bool) (a : Act) (w : World) : Prop := ∀ x : LaterS [] w, wpAny P .any l.toArray Q f listed.toArray a x.now
def OpL (P : Program) (l : List Oper) (Q : Exit → Act → World → Prop) (f : Nat) (listed : List Bool) (i : Nat) (a : Act) (w : World) : Prop := ∀ x : LaterS [] w, wpOp P l.toArray Q i (wpAny P .any l.toArray Q f (listed.set i true).toArray) a x.now
theorem OpL.quiet {l : List Oper} {f : Nat} {listed : List Bool} (i : Nat) {oi : Oper} {a a1 : Act} {w : World} {d : Nat} (hi : l[i]? = some oi) (hw : Region.wanted oi (yielded l.toArray a.tmps) = true) (hd : oi.dst = some d) (hlt : Nat.ble (d + 1) a.tmps.size = true)
  (h : ∀ (x : LaterS [] w) (K : Act → Prop), K a1 → oi.quiet P a (fun w' => w' = x.now) K) (next : AnyL P l Q f (listed.set i true) a1 w) : OpL P l Q f listed i a w := fun x => by
 obtain ⟨v, he, hm⟩ := mild_of (l := l) hw hd hlt h
 refine wpOp_noQ (hm.op (by simpa using hi) x fun w' hs => ?_)
 rw [he]
 exact next (x.up ⟨w', hs⟩)
theorem OpL.wp {l : List Oper} {f : Nat} {listed : List Bool} (i : Nat) {oi : Oper} {a : Act} {w : World} (hi : l[i]? = some oi) (hw : Region.wanted oi (yielded l.toArray a.tmps) = true)
  (h : ∀ (x : LaterS [] w) (K : Act → World → Prop), oi.wp P a x.now K Q) : OpL P l Q f listed i a w := fun x => by
 have hi' : l.toArray[i]? = some oi := by simpa using hi
 unfold wpOp
 simp only [hi', hw, if_true]
 exact .inl (h x _)
end
end Go.Proofs.Ytebeifkgjhgmeaa
