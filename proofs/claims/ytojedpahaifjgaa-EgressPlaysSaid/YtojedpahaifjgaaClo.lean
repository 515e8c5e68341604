/-  -/
import Derived.Test.YtojedpahaifjgaaAp
import Derived.WalkSpells
namespace Go.Proofs.Ytojedpahaifjgaa
open Go.RowKit
theorem clone_any (l : List Int) (sa : Option Addr) (ln cp : Nat) (w : World) (hl : SlB w sa ln cp l) (hn : l.length ≤ 140737488355328) :
  Calls Try.prog 77 #[.slice sa ln cp] w fun e w' => ∃ v, e = .returned v ∧ OwnB w' w.heap.size v l ∧ Below w.heap.size w w' ∧ (sa = none → v = .slice none 0 0) ∧ (sa ≠ none → v ≠ .slice none 0 0) := by
 cases sa with
 | none =>
  have hn : l = [] := by
   obtain ⟨h1, _, _, _, h5 | ⟨b, o, h, _⟩⟩ := hl
   ·exact List.eq_nil_of_length_eq_zero (by omega)
   ·cases h
  subst hn
  have heq := fun (w : World) => Lib.run_eql_slice_nil (P := Try.prog) w 34 5 none ln cp 0 0 Try.underlying34
  go_enter Try.func77, Try.ntmps77
  go_wp2
  go_ret
  exact ⟨_, rfl, OwnB.nil _ _, Below.refl _ _, fun _ => rfl, fun h => (h rfl).elim⟩
 | some ad =>
  have heq := fun (w : World) => Lib.run_eql_slice_nil (P := Try.prog) w 34 5 (some ad) ln cp 0 0 Try.underlying34
  have hlen := hl.len
  replace hl := Lib.hid hl
  go_enter Try.func77, Try.ntmps77
  go_wp2_with (at_builtin; go_must (refine wp_app rfl _ _ rfl w.heap.size _ [] l rfl (OwnB.new w _ #[] [] 0 (Nat.le_refl _) rfl (by decide) rfl) _ _ _ rfl (hl.out.below ((Below.refl _ _).alloc (Nat.le_refl _) _)) (by simpa using hn) (by simp) ?_; intro v' w' h1 h2 h3))
  have hb : Below w.heap.size w w' := ((Below.refl _ _).alloc (Nat.le_refl _) (.cells #[] 5)).trans (OwnB.grown (by simp) (OwnB.new w _ #[] [] 0 (Nat.le_refl _) rfl (by decide) rfl) h2)
  replace h1 := Lib.hid h1
  have h3' : v' ≠ .slice none 0 0 := fun e => by have := (h3.1 e).1; cases this
  clear h2 h3
  go_wp2
  go_ret
  exact ⟨_, rfl, by simpa using h1.out, hb, fun h => (by cases h), fun _ => h3'⟩
end Go.Proofs.Ytojedpahaifjgaa
