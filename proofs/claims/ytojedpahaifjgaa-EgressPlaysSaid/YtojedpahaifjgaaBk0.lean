/- Buckets: Take, Give, Tick, New. No condition but the numbers' own bounds. -/
import Derived.Test.YtojedpahaifjgaaPre
import Derived.Test.YtojedpahaifjgaaGKi
import Derived.WalkKit
import Derived.WalkSpells
import Derived.WalkLawsBesides
import Derived.Deep.RegionWith
import Derived.Deep.QuietTactic
import Derived.BigQuiet
import Derived.Lib.Hide
import Derived.Deep.RegionHeld3
import Derived.Deep.RegionLaw
namespace Go.Proofs.Ytojedpahaifjgaa
open Go.RowKit
def Bk (w : World) (b : Nat) (r u h : Int) : Prop := w.heap[b]? = some (.cells #[.int .u64 r, .int .u64 u, .int .u64 h] 142 (0, 0))
theorem Bk.c0 {w : World} {b : Nat} {r u h : Int} (H : Bk w b r u h) : w.cell? ⟨b, 0, none⟩ = some (.int .u64 r) := by unfold Bk at H; simp [World.cell?, H]
theorem Bk.c1 {w : World} {b : Nat} {r u h : Int} (H : Bk w b r u h) : w.cell? ⟨b, 1, none⟩ = some (.int .u64 u) := by unfold Bk at H; simp [World.cell?, H]
theorem Bk.c2 {w : World} {b : Nat} {r u h : Int} (H : Bk w b r u h) : w.cell? ⟨b, 2, none⟩ = some (.int .u64 h) := by unfold Bk at H; simp [World.cell?, H]
theorem Bk.fz {w : World} {b : Nat} {r u h : Int} (H : Bk w b r u h) (i : Nat) : w.frozen? ⟨b, i, none⟩ = false := by unfold Bk at H; simp [World.frozen?, H]
theorem Bk.set {w : World} {b : Nat} {r u h : Int} (H : Bk w b r u h) (v : Int) : Bk (w.setCell ⟨b, 2, none⟩ (.int .u64 v)) b r u v := by
 unfold Bk at *; simp [World.setCell, Array.getElem?_modify, H]
theorem Bk.lt {w : World} {b : Nat} {r u h : Int} (H : Bk w b r u h) : b < w.heap.size := by
 unfold Bk at H; rcases Nat.lt_or_ge b w.heap.size with h | h
 ·exact h
 ·simp [h] at H
theorem take_yes (b : Nat) (r u h n : Int) (w : World) (H : Bk w b r u h) (hn : n ≤ h) (hn0 : 0 ≤ n) (hh : h ≤ 18446744073709551615) :
  Calls Try.prog 49 #[.pointer (some ⟨b, 0, none⟩), .int .u64 n] w fun e w' => e = .returned (.bool true) ∧ w' = w.setCell ⟨b, 2, none⟩ (.int .u64 (h - n)) := by
 have h0 := H.c2
 have h1 := H.fz 2
 clear H
 go_enter Try.func49, Try.ntmps49
 go_wp2
 go_ret
 exact ⟨rfl, rfl⟩
theorem take_no (b : Nat) (r u h n : Int) (w : World) (H : Bk w b r u h) (hn : h < n) :
  Calls Try.prog 49 #[.pointer (some ⟨b, 0, none⟩), .int .u64 n] w fun e w' => e = .returned (.bool false) ∧ w' = w := by
 have h0 := H.c2
 have h1 := H.fz 2
 clear H
 go_enter Try.func49, Try.ntmps49
 go_wp2
 go_ret
 exact ⟨rfl, rfl⟩
theorem new_any (r u : Int) (w : World) :
  Calls Try.prog 35 #[.int .u64 r, .int .u64 u] w fun e w' => e = .returned (.pointer (some ⟨w.heap.size, 0, none⟩)) ∧ w' = w.alloc (.cells #[.int .u64 r, .int .u64 u, .int .u64 u] 142) := by
 go_enter Try.func35, Try.ntmps35
 go_wp2
 go_ret
 exact ⟨rfl, rfl⟩
theorem min2 (b o c : Nat) (x y : Int) (w : World) (hx : w.cell? ⟨b, o, none⟩ = some (.int .u64 x)) (hy : w.cell? ⟨b, o+1, none⟩ = some (.int .u64 y)) :
  Calls Try.prog 103 #[.slice (some ⟨b, o, none⟩) 2 c] w fun e w' => e = .returned (.int .u64 (min x y)) ∧ w' = w := by
 go_enter Try.func103, Try.ntmps103
 go_wp2
 refine wp_loop_rounds 2 ?_
 repeat any_goals (rw [rounds_succ]; go_wp2)
 all_goals go_ret
 all_goals exact ⟨by simp only [Array.getD]; refine congrArg Ending.returned ?_; simp; omega, rfl⟩
theorem least_any (x y : Int) (b : Nat) (w : World) (hb : b < w.heap.size) (hx : w.cell? ⟨b, 0, none⟩ = some (.int .u64 x)) :
  Calls Try.prog 96 #[.int .u64 y, .slice (some ⟨b, 0, none⟩) 1 1] w fun e w' => e = .returned (.int .u64 (min x y)) ∧ Below w.heap.size w w' := by
 go_enter Try.func96, Try.ntmps96
 go_wp2_with (fail)
 refine (min2 _ _ _ x y _ (by simp [go_sem]; rw [Array.getElem?_append_left (by simp)]; rfl) (by simp [go_sem]; rw [Array.getElem?_append_left (by simp)]; rfl)).mono ?_
 rintro e w' ⟨rfl, rfl⟩
 go_wp2
 go_ret
 exact ⟨rfl, (((Below.refl _ _).alloc (Nat.le_refl _) _).alloc (by simp) _).drew⟩
def satN (a b : Int) : Int := if 18446744073709551615 - a < b then 18446744073709551615 else a + b
theorem sat_any (a b : Int) (w : World) (ha : 0 ≤ a) (ha' : a ≤ 18446744073709551615) (hb : 0 ≤ b) :
  Calls Try.prog 97 #[.int .u64 a, .int .u64 b] w fun e w' => e = .returned (.int .u64 (satN a b)) ∧ w' = w := by
 unfold satN
 by_cases h : 18446744073709551615 - a < b
 ·rw [if_pos h]
  go_enter Try.func97, Try.ntmps97
  go_wp2
  go_ret
  exact ⟨rfl, rfl⟩
 ·rw [if_neg h]
  go_enter Try.func97, Try.ntmps97
  go_wp2
  go_ret
  exact ⟨rfl, rfl⟩
def giveN (u h n : Int) : Int := min (satN h n) u
set_option maxHeartbeats 4000000 in
theorem give_any (b : Nat) (r u h n : Int) (w : World) (H : Bk w b r u h)
  (hs : 0 ≤ h) (hs' : h ≤ 18446744073709551615) (hn : 0 ≤ n) :
  Calls Try.prog 82 #[.pointer (some ⟨b, 0, none⟩), .int .u64 n] w fun e w' => e = .returned (.tuple #[]) ∧ ∃ w1, Below w.heap.size w w1 ∧ w' = w1.setCell ⟨b, 2, none⟩ (.int .u64 (giveN u h n)) := by
 have hb := H.lt
 have h1 := H.c1
 have h2 := H.c2
 have hfz := H.fz 2
 clear H
 go_enter Try.func82, Try.ntmps82
 go_wp2_with (fail)
 go_region_law (first | (go_simp; go_at_call 97; refine (sat_any _ _ _ (by omega) (by omega) (by omega)).mono ?_; rintro e w' ⟨rfl, rfl⟩) | (go_simp; go_at_call 96; go_must (refine (least_any (satN h n) u w.heap.size _ (by simp [go_sem]) (by simp [go_sem])).mono ?_; rintro e w1 ⟨rfl, hbl⟩; have hq := hbl.mono (B' := w.heap.size) (by simp [go_sem]); have hz2 := (hq.cell (p := ⟨b, 2, none⟩) hb).trans (by simp (disch := omega) [go_sem]; exact h2); have hz3 := (hq.frozen (p := ⟨b, 2, none⟩) hb).trans (by simp (disch := omega) [go_sem]; exact hfz))))
 all_goals go_end0
 all_goals exact ⟨rfl, _, (((Below.refl _ _).alloc (Nat.le_refl _) _).drew).trans hq, rfl⟩
theorem tick_any (b : Nat) (r u h : Int) (w : World) (H : Bk w b r u h) (hr : 0 ≤ r)
  (hs : 0 ≤ h) (hs' : h ≤ 18446744073709551615) :
  Calls Try.prog 50 #[.pointer (some ⟨b, 0, none⟩)] w fun e w' => e = .returned (.tuple #[]) ∧ ∃ w1, Below w.heap.size w w1 ∧ w' = w1.setCell ⟨b, 2, none⟩ (.int .u64 (giveN u h r)) := by
 have h0 := H.c0
 have hg := give_any b r u h r w H hs hs' hr
 clear H
 go_enter Try.func50, Try.ntmps50
 go_wp2_with (fail)
 refine hg.mono ?_
 rintro e w' ⟨rfl, w1, hb, rfl⟩
 go_wp2
 go_end0
 exact ⟨rfl, _, hb, rfl⟩
end Go.Proofs.Ytojedpahaifjgaa
