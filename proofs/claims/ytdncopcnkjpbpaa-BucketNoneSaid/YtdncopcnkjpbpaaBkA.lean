import Derived.Test.YtdncopcnkjpbpaaRows
import Derived.WalkKit
import Derived.WalkSpells
import Derived.WalkLawsBesides
import Derived.Deep.RegionWith
import Derived.Deep.QuietTactic
import Derived.BigQuiet
namespace Go.Proofs.Ytdncopcnkjpbpaa
open Go.RowKit

def Bk (w : World) (b : Nat) (r u h : Int) : Prop := w.heap[b]? = some (.cells #[.int .u64 r, .int .u64 u, .int .u64 h] 52 (0, 0))
theorem Bk.c0 {w : World} {b : Nat} {r u h : Int} (H : Bk w b r u h) : w.cell? ⟨b, 0, none⟩ = some (.int .u64 r) := by unfold Bk at H; simp [World.cell?, H]
theorem Bk.c1 {w : World} {b : Nat} {r u h : Int} (H : Bk w b r u h) : w.cell? ⟨b, 1, none⟩ = some (.int .u64 u) := by unfold Bk at H; simp [World.cell?, H]
theorem Bk.c2 {w : World} {b : Nat} {r u h : Int} (H : Bk w b r u h) : w.cell? ⟨b, 2, none⟩ = some (.int .u64 h) := by unfold Bk at H; simp [World.cell?, H]
theorem Bk.fz {w : World} {b : Nat} {r u h : Int} (H : Bk w b r u h) (i : Nat) : w.frozen? ⟨b, i, none⟩ = false := by unfold Bk at H; simp [World.frozen?, H]
theorem Bk.set {w : World} {b : Nat} {r u h : Int} (H : Bk w b r u h) (v : Int) : Bk (w.setCell ⟨b, 2, none⟩ (.int .u64 v)) b r u v := by
  unfold Bk at *; simp [World.setCell, Array.getElem?_modify, H]
theorem Bk.lt {w : World} {b : Nat} {r u h : Int} (H : Bk w b r u h) : b < w.heap.size := by
  unfold Bk at H; rcases Nat.lt_or_ge b w.heap.size with h | h
  · exact h
  · simp [h] at H

theorem have_any (b : Nat) (r u h : Int) (w : World) (H : Bk w b r u h) :
    Calls Try.prog 16 #[.pointer (some ⟨b, 0, none⟩)] w fun e w' => e = .returned (.int .u64 h) ∧ w' = w := by
  have h0 := H.c2
  clear H
  go_enter Try.func16, Try.ntmps16
  go_wp2
  go_ret
  exact ⟨rfl, rfl⟩
theorem take_yes (b : Nat) (r u h n : Int) (w : World) (H : Bk w b r u h) (hn : n ≤ h) (hn0 : 0 ≤ n) (hh : h ≤ 18446744073709551615) :
    Calls Try.prog 14 #[.pointer (some ⟨b, 0, none⟩), .int .u64 n] w fun e w' => e = .returned (.bool true) ∧ w' = w.setCell ⟨b, 2, none⟩ (.int .u64 (h - n)) := by
  have h0 := H.c2
  have h1 := H.fz 2
  clear H
  go_enter Try.func14, Try.ntmps14
  go_wp2
  go_ret
  exact ⟨rfl, rfl⟩
theorem take_no (b : Nat) (r u h n : Int) (w : World) (H : Bk w b r u h) (hn : h < n) :
    Calls Try.prog 14 #[.pointer (some ⟨b, 0, none⟩), .int .u64 n] w fun e w' => e = .returned (.bool false) ∧ w' = w := by
  have h0 := H.c2
  have h1 := H.fz 2
  clear H
  go_enter Try.func14, Try.ntmps14
  go_wp2
  go_ret
  exact ⟨rfl, rfl⟩
theorem take_nil (n : Int) (w : World) :
    Calls Try.prog 14 #[.pointer none, .int .u64 n] w fun e w' => e = .returned (.bool false) ∧ w' = w := by
  go_enter Try.func14, Try.ntmps14
  go_wp2
  go_ret
  exact ⟨rfl, rfl⟩
theorem have_nil (w : World) :
    Calls Try.prog 16 #[.pointer none] w fun e w' => e = .returned (.int .u64 0) ∧ w' = w := by
  go_enter Try.func16, Try.ntmps16
  go_wp2
  go_ret
  exact ⟨rfl, rfl⟩
theorem wait_nil (n : Int) (w : World) :
    Calls Try.prog 15 #[.pointer none, .int .u64 n] w fun e w' => e = .returned (.int .i64 (-1)) ∧ w' = w := by
  go_enter Try.func15, Try.ntmps15
  go_wp2
  go_ret
  exact ⟨rfl, rfl⟩
theorem give_nil (n : Int) (w : World) :
    Calls Try.prog 17 #[.pointer none, .int .u64 n] w fun e w' => e = .returned (.tuple #[]) ∧ w' = w := by
  go_enter Try.func17, Try.ntmps17
  go_wp2
  go_end0
  exact ⟨rfl, rfl⟩
theorem tick_nil (w : World) :
    Calls Try.prog 13 #[.pointer none] w fun e w' => e = .returned (.tuple #[]) ∧ w' = w := by
  go_enter Try.func13, Try.ntmps13
  go_wp2
  go_end0
  exact ⟨rfl, rfl⟩
theorem copy_nil (w : World) :
    Calls Try.prog 18 #[.pointer none] w fun e w' => e = .returned (.pointer none) ∧ w' = w := by
  go_enter Try.func18, Try.ntmps18
  go_wp2
  go_ret
  exact ⟨rfl, rfl⟩
theorem new_any (r u : Int) (w : World) :
    Calls Try.prog 12 #[.int .u64 r, .int .u64 u] w fun e w' => e = .returned (.pointer (some ⟨w.heap.size, 0, none⟩)) ∧ w' = w.alloc (.cells #[.int .u64 r, .int .u64 u, .int .u64 u] 52) := by
  go_enter Try.func12, Try.ntmps12
  go_wp2
  go_ret
  exact ⟨rfl, rfl⟩
end Go.Proofs.Ytdncopcnkjpbpaa
