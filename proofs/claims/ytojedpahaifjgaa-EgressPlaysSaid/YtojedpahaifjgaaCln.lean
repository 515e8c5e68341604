/- slices.Clone of bytes. No condition but the sizes'. -/
import Derived.Test.YtojedpahaifjgaaApO
namespace Go.Proofs.Ytojedpahaifjgaa
open Go.RowKit
theorem SB.none {w : World} {ln cp : Nat} {l : List Nat} (h : SB w (.slice none ln cp) ln l) : ln = 0 ∧ cp = 0 ∧ l = [] := by
 obtain ⟨h1, _, _, _, ⟨h5, sa, cp', he, hc, _⟩ | ⟨b, o, cap, he, _⟩⟩ := h
 ·cases he
  exact ⟨h5, hc rfl, List.eq_nil_of_length_eq_zero (by omega)⟩
 ·cases he
set_option maxRecDepth 100000 in
set_option maxHeartbeats 2000000 in
theorem clone_ok (sa : Option Addr) (ln cp : Nat) (l : List Nat) (hn : ln ≤ 1000000000000) (w : World) (hv : SB w (.slice sa ln cp) ln l) :
  Calls Try.prog 77 #[.slice sa ln cp] w fun e w' => ∃ v, e = .returned v ∧ OB w' w.heap.size 5 v ln l ∧ Below w.heap.size w w' := by
 cases sa with
 | none =>
  obtain ⟨rfl, rfl, rfl⟩ := hv.none
  have heq := fun (w : World) => Lib.run_eql_slice_nil (P := Try.prog) w 34 5 none 0 0 0 0 Try.underlying34
  go_enter Try.func77, Try.ntmps77
  go_wp2_with fail
  go_ret
  exact ⟨_, rfl, OB.nil _ _ _, Below.refl _ _⟩
 | some ad =>
  have heq := fun (w : World) => Lib.run_eql_slice_nil (P := Try.prog) w 34 5 (some ad) ln cp 0 0 Try.underlying34
  have V1 := Lib.hid (hv.alloc (.cells #[] 5))
  have O1 := Lib.hid (OB.new0 w w.heap.size (Nat.le_refl _))
  have B1 := Lib.hid ((Below.refl w.heap.size w).alloc (Nat.le_refl _) (.cells #[] 5))
  have hz1 := B1.out.size
  clear hv
  go_enter Try.func77, Try.ntmps77
  go_wp2_with (at_builtin; go_must (refine wpList_apOB rfl _ _ rfl w.heap.size _ 0 [] rfl O1.out _ rfl ln l V1.out (by omega) hz1 ?_; intro s4 c4 w4 hc4 hm4 O4 T4 B4 G4; simp only [Nat.zero_add, List.nil_append] at O4; replace O4 := Lib.hid O4; replace B4 := Lib.hid (B1.out.trans B4); clear T4 G4))
  go_ret
  exact ⟨_, rfl, by simpa using O4.out, B4.out⟩
end Go.Proofs.Ytojedpahaifjgaa
