/- Packets put into order: New, and what is asked. No condition but the sizes'. -/
import Derived.Test.YtcempndfbckcaaaReO
namespace Go.Proofs.Ytcempndfbckcaaa
open Go.RowKit

set_option maxRecDepth 100000 in
set_option maxHeartbeats 8000000 in
theorem next_any (base g0 cv : Nat) (sa : Option Addr) (S : BS) (H : List Ent) (w : World) (h : BufI w base g0 sa cv S H) :
    Calls Try.prog 39 #[.pointer (some ⟨g0, 0, none⟩)] w fun e w' => e = .returned (.int .i64 S.next) ∧ w' = w := by
  have z := (hp_cell h.hp 2).trans (show _ = some (.int .i64 S.next) from rfl)
  clear h
  go_enter Try.func39, Try.ntmps39
  go_wp2_with fail
  go_ret
  exact ⟨rfl, rfl⟩
set_option maxRecDepth 100000 in
set_option maxHeartbeats 8000000 in
theorem waits_any (base g0 cv : Nat) (sa : Option Addr) (S : BS) (H : List Ent) (w : World) (h : BufI w base g0 sa cv S H) :
    Calls Try.prog 37 #[.pointer (some ⟨g0, 0, none⟩)] w fun e w' => e = .returned (.int .i64 (S.L.length : Nat)) ∧ w' = w := by
  have z := (hp_cell h.hp 3).trans (show _ = some (.slice sa S.L.length cv) from rfl)
  clear h
  go_enter Try.func37, Try.ntmps37
  go_wp2_with fail
  go_ret
  exact ⟨rfl, rfl⟩
set_option maxRecDepth 100000 in
set_option maxHeartbeats 8000000 in
theorem passed_any (base g0 cv : Nat) (sa : Option Addr) (S : BS) (H : List Ent) (w : World) (h : BufI w base g0 sa cv S H) :
    Calls Try.prog 38 #[.pointer (some ⟨g0, 0, none⟩)] w fun e w' => e = .returned (.int .i64 S.passed) ∧ w' = w := by
  have z := (hp_cell h.hp 4).trans (show _ = some (.int .i64 S.passed) from rfl)
  clear h
  go_enter Try.func38, Try.ntmps38
  go_wp2_with fail
  go_ret
  exact ⟨rfl, rfl⟩
set_option maxRecDepth 100000 in
set_option maxHeartbeats 8000000 in
theorem dropped_any (base g0 cv : Nat) (sa : Option Addr) (S : BS) (H : List Ent) (w : World) (h : BufI w base g0 sa cv S H) :
    Calls Try.prog 40 #[.pointer (some ⟨g0, 0, none⟩)] w fun e w' => e = .returned (.int .i64 S.dropped) ∧ w' = w := by
  have z := (hp_cell h.hp 5).trans (show _ = some (.int .i64 S.dropped) from rfl)
  clear h
  go_enter Try.func40, Try.ntmps40
  go_wp2_with fail
  go_ret
  exact ⟨rfl, rfl⟩
def newS (many wait : Int) : BS := ⟨many, wait, -1, [], 0, 0⟩
set_option maxRecDepth 100000 in
set_option maxHeartbeats 8000000 in
theorem bnew_ok (many wait : Int) (h : 1 ≤ many ∧ many ≤ 64) (hw : 0 ≤ wait) (w : World) :
    Calls Try.prog 35 #[.int .i64 many, .int .i64 wait] w fun e w' => e = .returned (.pointer (some ⟨w.heap.size, 0, none⟩)) ∧ BufI w' w.heap.size w.heap.size none 0 (newS many wait) [] ∧ BW w w' := by
  have d0 : decide (many < 1) = false := by simp; omega
  have d1 : decide (64 < many) = false := by simp; omega
  have d2 : decide (wait < 0) = false := by simp; omega
  go_enter Try.func35, Try.ntmps35
  go_wp2_with fail
  go_ret
  refine ⟨rfl, ⟨HpB.new w _, EQ.nil _ _ _ _, fun k h1 => absurd h1 (by simp [newS]), .refl _, ⟨?_, ?_, ?_, ?_, ?_, ?_⟩, by simp [Value.ownBlock]⟩, (BW.refl w).alloc⟩
  · intro x hx; simp [newS] at hx
  · intro x hx; simp [newS] at hx
  · simp [newS]
  · simp [newS]
  · intro h; simp [newS] at h
  · show (0 : Int) ≤ 0 ∧ (0 : Int) ≤ max (-1) 0
    omega
end Go.Proofs.Ytcempndfbckcaaa
