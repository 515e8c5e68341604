/- slices.Clone of subscriptions, places and sources. No condition but the sizes'. -/
import Derived.Test.YtebeifkgjhgmeaaRmA
import Derived.Lib.Hide
namespace Go.Proofs.Ytebeifkgjhgmeaa
open Go.RowKit
set_option maxRecDepth 100000 in
set_option maxHeartbeats 8000000 in
theorem clsub (base n c : Nat) (sa : Option Addr) (l : List Sbs) (w : World) (h : SQ ESb w base (.slice sa n c) n l) (hn : n ≤ 1000000) :
  Calls Try.prog 15 #[.slice sa n c] w fun e w' => ∃ s' c', e = .returned (.slice s' n c') ∧ EQ ESb 50 w' w.heap.size (.slice s' n c') n l ∧ BW w w' := by
 cases sa with
 | none =>
  have hn0 : n = 0 := by
   by_cases h0 : n = 0
   ·exact h0
   ·obtain ⟨g, o, cap, e, -⟩ := h.form (by omega)
    cases e
  subst hn0
  have hl : l = [] := List.eq_nil_of_length_eq_zero h.1
  have hc : c = 0 := by
   obtain ⟨-, xs, ⟨-, -, ⟨-, sa', cp', e, k, -⟩ | ⟨b, o, cap, e, -⟩⟩, -⟩ := h
   ·cases e; exact k rfl
   ·cases e
  subst hl hc
  have heq := fun (w : World) => Lib.run_eql_slice_nil (P := Try.prog) w 43 50 none 0 0 0 0 Try.underlying43
  clear h
  go_enter Try.func15, Try.ntmps15
  go_wp2_with fail
  go_ret
  exact ⟨_, _, rfl, EQ.nil _ _ _ _, BW.refl _⟩
 | some ad =>
  have heq := fun (w : World) => Lib.run_eql_slice_nil (P := Try.prog) w 43 50 (some ad) n c 0 0 Try.underlying43
  obtain ⟨_, _, he, hnc, hcm⟩ := h.len
  cases he
  unfold maxLen at hcm
  obtain ⟨hl, xs, hS, hE⟩ := h
  have V1 := Lib.hid (hS.bw (b := w.alloc (.cells #[] 50)) (BW.refl w).alloc)
  have hE1 : Hid (EL ESb (w.alloc (.cells #[] 50)) w.heap.size l xs) := Lib.hid (EL.mono (w := w) (base := base) (w' := w.alloc (.cells #[] 50)) (base' := w.heap.size) (fun _ _ k => k) hE)
  have O1 : Hid (EQ ESb 50 (w.alloc (.cells #[] 50)) w.heap.size (.slice (some ⟨w.heap.size, 0, none⟩) 0 0) 0 []) := Lib.hid ⟨rfl, [], Ows.new w w.heap.size 50 _ #[] [] 0 (Nat.le_refl _) (by simp) (by decide) rfl, rfl⟩
  have B1 := Lib.hid (show BW w (w.alloc (.cells #[] 50)) from (BW.refl w).alloc)
  have hz1 := Lib.hid B1.out.size
  clear hS hE
  replace hl := Lib.hid hl
  go_enter Try.func15, Try.ntmps15
  go_wp2_with (at_builtin; go_must (refine wpList_apEQ slSb rfl _ _ rfl w.heap.size _ 0 [] rfl O1.out _ rfl n l xs V1.out hE1.out hl.out (by omega) hz1.out (fun _ _ => trivial) ?_; intro s4 c4 w4 hc4 hm4 O4 T4 B4 G4; simp only [Nat.zero_add, List.nil_append] at O4; replace O4 := Lib.hid O4; replace B4 := Lib.hid (show BW w w4 from (B1.out.up (Nat.le_refl _)).trans B4); clear T4 G4))
  go_ret
  exact ⟨_, _, by simp only [Nat.zero_add]; rfl, O4.out, B4.out⟩
set_option maxRecDepth 100000 in
set_option maxHeartbeats 8000000 in
theorem clint (base n c : Nat) (sa : Option Addr) (l : List Int) (w : World) (h : SQ I1 w base (.slice sa n c) n l) (hn : n ≤ 1000000) :
  Calls Try.prog 16 #[.slice sa n c] w fun e w' => ∃ s' c', e = .returned (.slice s' n c') ∧ EQ I1 3 w' w.heap.size (.slice s' n c') n l ∧ BW w w' := by
 cases sa with
 | none =>
  have hn0 : n = 0 := by
   by_cases h0 : n = 0
   ·exact h0
   ·obtain ⟨g, o, cap, e, -⟩ := h.form (by omega)
    cases e
  subst hn0
  have hl : l = [] := List.eq_nil_of_length_eq_zero h.1
  have hc : c = 0 := by
   obtain ⟨-, xs, ⟨-, -, ⟨-, sa', cp', e, k, -⟩ | ⟨b, o, cap, e, -⟩⟩, -⟩ := h
   ·cases e; exact k rfl
   ·cases e
  subst hl hc
  have heq := fun (w : World) => Lib.run_eql_slice_nil (P := Try.prog) w 39 3 none 0 0 0 0 Try.underlying39
  clear h
  go_enter Try.func16, Try.ntmps16
  go_wp2_with fail
  go_ret
  exact ⟨_, _, rfl, EQ.nil _ _ _ _, BW.refl _⟩
 | some ad =>
  have heq := fun (w : World) => Lib.run_eql_slice_nil (P := Try.prog) w 39 3 (some ad) n c 0 0 Try.underlying39
  obtain ⟨_, _, he, hnc, hcm⟩ := h.len
  cases he
  unfold maxLen at hcm
  obtain ⟨hl, xs, hS, hE⟩ := h
  have V1 := Lib.hid (hS.bw (b := w.alloc (.cells #[] 3)) (BW.refl w).alloc)
  have hE1 : Hid (EL I1 (w.alloc (.cells #[] 3)) w.heap.size l xs) := Lib.hid (EL.mono (w := w) (base := base) (w' := w.alloc (.cells #[] 3)) (base' := w.heap.size) (fun _ _ k => k) hE)
  have O1 : Hid (EQ I1 3 (w.alloc (.cells #[] 3)) w.heap.size (.slice (some ⟨w.heap.size, 0, none⟩) 0 0) 0 []) := Lib.hid ⟨rfl, [], Ows.new w w.heap.size 3 _ #[] [] 0 (Nat.le_refl _) (by simp) (by decide) rfl, rfl⟩
  have B1 := Lib.hid (show BW w (w.alloc (.cells #[] 3)) from (BW.refl w).alloc)
  have hz1 := Lib.hid B1.out.size
  clear hS hE
  replace hl := Lib.hid hl
  go_enter Try.func16, Try.ntmps16
  go_wp2_with (at_builtin; go_must (refine wpList_apEQ slIn rfl _ _ rfl w.heap.size _ 0 [] rfl O1.out _ rfl n l xs V1.out hE1.out hl.out (by omega) hz1.out (fun _ _ => trivial) ?_; intro s4 c4 w4 hc4 hm4 O4 T4 B4 G4; simp only [Nat.zero_add, List.nil_append] at O4; replace O4 := Lib.hid O4; replace B4 := Lib.hid (show BW w w4 from (B1.out.up (Nat.le_refl _)).trans B4); clear T4 G4))
  go_ret
  exact ⟨_, _, by simp only [Nat.zero_add]; rfl, O4.out, B4.out⟩
set_option maxRecDepth 100000 in
set_option maxHeartbeats 8000000 in
theorem clu32 (base n c : Nat) (sa : Option Addr) (l : List Nat) (w : World) (h : SQ EU4 w base (.slice sa n c) n l) (hn : n ≤ 1000000) :
  Calls Try.prog 12 #[.slice sa n c] w fun e w' => ∃ s' c', e = .returned (.slice s' n c') ∧ EQ EU4 48 w' w.heap.size (.slice s' n c') n l ∧ BW w w' := by
 cases sa with
 | none =>
  have hn0 : n = 0 := by
   by_cases h0 : n = 0
   ·exact h0
   ·obtain ⟨g, o, cap, e, -⟩ := h.form (by omega)
    cases e
  subst hn0
  have hl : l = [] := List.eq_nil_of_length_eq_zero h.1
  have hc : c = 0 := by
   obtain ⟨-, xs, ⟨-, -, ⟨-, sa', cp', e, k, -⟩ | ⟨b, o, cap, e, -⟩⟩, -⟩ := h
   ·cases e; exact k rfl
   ·cases e
  subst hl hc
  have heq := fun (w : World) => Lib.run_eql_slice_nil (P := Try.prog) w 30 48 none 0 0 0 0 Try.underlying30
  clear h
  go_enter Try.func12, Try.ntmps12
  go_wp2_with fail
  go_ret
  exact ⟨_, _, rfl, EQ.nil _ _ _ _, BW.refl _⟩
 | some ad =>
  have heq := fun (w : World) => Lib.run_eql_slice_nil (P := Try.prog) w 30 48 (some ad) n c 0 0 Try.underlying30
  obtain ⟨_, _, he, hnc, hcm⟩ := h.len
  cases he
  unfold maxLen at hcm
  obtain ⟨hl, xs, hS, hE⟩ := h
  have V1 := Lib.hid (hS.bw (b := w.alloc (.cells #[] 48)) (BW.refl w).alloc)
  have hE1 : Hid (EL EU4 (w.alloc (.cells #[] 48)) w.heap.size l xs) := Lib.hid (EL.mono (w := w) (base := base) (w' := w.alloc (.cells #[] 48)) (base' := w.heap.size) (fun _ _ k => k) hE)
  have O1 : Hid (EQ EU4 48 (w.alloc (.cells #[] 48)) w.heap.size (.slice (some ⟨w.heap.size, 0, none⟩) 0 0) 0 []) := Lib.hid ⟨rfl, [], Ows.new w w.heap.size 48 _ #[] [] 0 (Nat.le_refl _) (by simp) (by decide) rfl, rfl⟩
  have B1 := Lib.hid (show BW w (w.alloc (.cells #[] 48)) from (BW.refl w).alloc)
  have hz1 := Lib.hid B1.out.size
  clear hS hE
  replace hl := Lib.hid hl
  go_enter Try.func12, Try.ntmps12
  go_wp2_with (at_builtin; go_must (refine wpList_apEQ slU4 rfl _ _ rfl w.heap.size _ 0 [] rfl O1.out _ rfl n l xs V1.out hE1.out hl.out (by omega) hz1.out (fun _ _ => trivial) ?_; intro s4 c4 w4 hc4 hm4 O4 T4 B4 G4; simp only [Nat.zero_add, List.nil_append] at O4; replace O4 := Lib.hid O4; replace B4 := Lib.hid (show BW w w4 from (B1.out.up (Nat.le_refl _)).trans B4); clear T4 G4))
  go_ret
  exact ⟨_, _, by simp only [Nat.zero_add]; rfl, O4.out, B4.out⟩
end Go.Proofs.Ytebeifkgjhgmeaa
