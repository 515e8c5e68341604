/- The laws' guards: sources, Great. No condition but the sizes'. -/
import Derived.Test.YtebeifkgjhgmeaaRnH
namespace Go.Proofs.Ytebeifkgjhgmeaa
open Go.RowKit
def SrcP (X : List (List Nat)) (w : World) (e : Ending) (w' : World) : Prop := ∃ b : Bool, e = .returned (.bool b) ∧ (b = true → ∀ x ∈ X, x.length ≤ 20) ∧ w = w'
set_option maxRecDepth 100000 in
set_option maxHeartbeats 8000000 in
theorem src_ok (sa : Option Addr) (n cap : Nat) (X : List (List Nat)) (hX : X.length = n) (hnc : n ≤ cap) (hcap : cap ≤ 9223372036854775807) (w : World) (hS : SeatsV w sa X) :
  Calls Try.prog 6 #[.slice sa n cap] w (SrcP X w) := by
 have hXh := Lib.hid hX
 have hSh := Lib.hid hS
 clear hX hS
 go_enter Try.func6, Try.ntmps6
 go_upto_region 2 with (fail)
 go_loopg [3] n (fun m' ix wx => ∃ k : Nat, m' = n - k ∧ k ≤ n ∧ ix = .int .i64 (k : Nat) ∧ Hid (∀ i (hi : i < X.length), i < k → X[i].length ≤ 20) ∧ Hid (w = wx))
 case atStart => exact ⟨0, by omega, by omega, rfl, fun i hi h => absurd h (Nat.not_lt_zero i), rfl⟩
 case round =>
  obtain ⟨k, rfl, hk, rfl, hA, hw⟩ := hrel
  obtain rfl := hw.out
  by_cases hkn : k < n
  ·have d1 : decide ((k : Int) < (n : Int)) = true := by simp; omega
   have hkX : k < X.length := by rw [hXh.out]; exact hkn
   obtain ⟨b, o, s, c, cs, rfl, h2, h3, h4, h5, h6⟩ := hSh.out.at_ k hkX
   have z31 := h4 31 (.slice s X[k].length c) (by rw [Array.getElem?_toList]; exact h5)
   obtain ⟨_, _, he, hc1, hc2⟩ := h6.len
   cases he
   unfold maxLen at hc2
   have hA2 : Hid (X[k].length ≤ 20 → ∀ i (hi : i < X.length), i < k + 1 → X[i].length ≤ 20) := Lib.hid (fun h i hi hik => by
    by_cases e : i = k
    ·subst e; exact h
    ·exact hA.out i hi (by omega))
   generalize X[k].length = nx at *
   clear h2 h3 h4 h5 h6
   by_cases h20 : 20 < nx
   ·have d2 : decide ((20 : Int) < (nx : Int)) = true := by simp; omega
    clear h20
    go_wp2_with fail
    go_ret
    exact ⟨false, rfl, (fun h => by cases h), rfl⟩
   ·have d2 : decide ((20 : Int) < (nx : Int)) = false := by simp; omega
    have hA3 := Lib.hid (hA2.out (by omega))
    clear h20 hA hA2
    go_wp2_with fail
    go_roundg (n - (k + 1))
    case measure => omega
    case rel => exact ⟨k + 1, rfl, by omega, by first | rfl | (push_cast; rfl), hA3, rfl⟩
  ·obtain rfl : k = n := by omega
   have d1 : decide ((k : Int) < (k : Int)) = false := by simp
   go_wp2_with fail
   go_ret
   refine ⟨_, rfl, fun _ x hx => ?_, rfl⟩
   obtain ⟨i, hi, rfl⟩ := List.mem_iff_getElem.1 hx
   exact hA.out i hi (by rw [← hXh.out]; exact hi)
set_option maxRecDepth 100000 in
set_option maxHeartbeats 8000000 in
theorem great_ok (kd st nn rm tr ow ly : Int) (sf : Option Addr) (nf cf : Nat) (w : World) :
  Calls Try.prog 8 #[.agg (frA kd st nn rm tr ow ly sf nf cf)] w fun e w' => e = .returned (.bool (decide ((40 : Int) < (nf : Int)))) ∧ BW w w' := by
 have B1 := Lib.hid (show BW w (w.alloc (.cells (frA kd st nn rm tr ow ly sf nf cf) 32)) from (BW.refl w).alloc)
 unfold frA at *
 go_enter Try.func8, Try.ntmps8
 go_wp2_with fail
 go_ret
 exact ⟨rfl, B1.out⟩
end Go.Proofs.Ytebeifkgjhgmeaa
