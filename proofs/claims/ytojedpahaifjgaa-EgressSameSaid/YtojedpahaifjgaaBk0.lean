/- Buckets: Take, Give, Tick, New. No condition but the numbers' own bounds. -/
import Derived.Test.YtojedpahaifjgaaPre
import Derived.Test.YtojedpahaifjgaaGKi
import Derived.WalkKit
import Derived.WalkSpells
import Derived.WalkLawsBesides
import Derived.Deep.RegionWith
import Derived.Deep.QuietTactic
import Derived.BigQuiet
import Derived.Lib.Hide
import Derived.Deep.RegionHeld3
import Derived.Deep.RegionLaw
namespace Go.Proofs.Ytojedpahaifjgaa
open Go.RowKit
def Bk (w : World) (b : Nat) (r u h : Int) : Prop := w.heap[b]? = some (.cells #[.int .u64 r, .int .u64 u, .int .u64 h] 142 (0, 0))
theorem Bk.c0 {w : World} {b : Nat} {r u h : Int} (H : Bk w b r u h) : w.cell? ⟨b, 0, none⟩ = some (.int .u64 r) := by unfold Bk at H; simp [World.cell?, H]
theorem Bk.c1 {w : World} {b : Nat} {r u h : Int} (H : Bk w b r u h) : w.cell? ⟨b, 1, none⟩ = some (.int .u64 u) := by unfold Bk at H; simp [World.cell?, H]
theorem Bk.c2 {w : World} {b : Nat} {r u h : Int} (H : Bk w b r u h) : w.cell? ⟨b, 2, none⟩ = some (.int .u64 h) := by unfold Bk at H; simp [World.cell?, H]
theorem Bk.set {w : World} {b : Nat} {r u h : Int} (H : Bk w b r u h) (v : Int) : Bk (w.setCell ⟨b, 2, none⟩ (.int .u64 v)) b r u v := by
 unfold Bk at *; simp [World.setCell, Array.getElem?_modify, H]
theorem Bk.lt {w : World} {b : Nat} {r u h : Int} (H : Bk w b r u h) : b < w.heap.size := by
 unfold Bk at H; rcases Nat.lt_or_ge b w.heap.size with h | h
 ·exact h
 ·simp [h] at H
theorem new_any (r u : Int) (w : World) :
  Calls Try.prog 35 #[.int .u64 r, .int .u64 u] w fun e w' => e = .returned (.pointer (some ⟨w.heap.size, 0, none⟩)) ∧ w' = w.alloc (.cells #[.int .u64 r, .int .u64 u, .int .u64 u] 142) := by
 go_enter Try.func35, Try.ntmps35
 go_wp2
 go_ret
 exact ⟨rfl, rfl⟩
end Go.Proofs.Ytojedpahaifjgaa
