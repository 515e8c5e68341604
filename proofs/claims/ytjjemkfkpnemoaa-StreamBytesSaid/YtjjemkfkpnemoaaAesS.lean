/-  -/
import Derived.Test.YtjjemkfkpnemoaaAesR
namespace Go.Proofs.Ytjjemkfkpnemoaa
open Go.RowKit

set_option maxRecDepth 100000 in
set_option maxHeartbeats 4000000 in
theorem rbox_any (c : Nat) (hc : c < 256) (w : World) :
    Calls Try.prog 20 #[.int .u8 (c : Nat)] w fun e w' => e = .returned (.int .u8 (sbox.getD c 0 : Nat)) ∧ w' = w := by
  have hfin := Lib.hid (sbox_aff c hc)
  go_enter Try.func20, Try.ntmps20
  go_wp2_with fail
  go_loopg [3, 4] 255 (fun n inv i wx => ∃ k : Nat, n = 255 - k ∧ k ≤ 255 ∧ inv = .int .u8 (invT c k : Nat) ∧ i = .int .i64 (1 + (k : Nat) : Int) ∧ wx = w)
  case atStart => exact ⟨0, by omega, by omega, rfl, rfl, rfl⟩
  case round =>
    obtain ⟨k, rfl, hk, rfl, rfl, rfl⟩ := hrel
    by_cases hk2 : k < 255
    · have hw1 : IntKind.u8.wrap (1 + (k : Int)) = 1 + (k : Int) := IntWalk.u8_in _ (by omega)
      have hr := rtimes_any c (k + 1) hc (by omega)
      rw [show ((k + 1 : Nat) : Int) = 1 + (k : Int) by push_cast; omega] at hr
      replace hr := Lib.hid hr
      have hnext : Hid (invT c (k + 1) = if timesP c (k + 1) = 1 then k + 1 else invT c k) := rfl
      have ht := timesP_lt c (k + 1) hc
      generalize invT c k = v at *
      generalize timesP c (k + 1) = t at *
      go_wp2_with fail
      refine (hr.out _).mono ?_
      rintro e w' ⟨rfl, rfl⟩
      by_cases h1 : t = 1
      · subst h1
        go_wp2_with fail
        go_roundg (255 - (k + 1))
        case measure => omega
        case rel => exact ⟨k + 1, rfl, by omega, congrArg (Value.int .u8) (by rw [hnext.out, if_pos (by trivial)]; push_cast; omega), congrArg (Value.int .i64) (by push_cast; omega), rfl⟩
      · have h1' : ((t : Int) == 1) = false := by simp; omega
        go_wp2_with fail
        go_roundg (255 - (k + 1))
        case measure => omega
        case rel => exact ⟨k + 1, rfl, by omega, congrArg (Value.int .u8) (by rw [hnext.out, if_neg h1]), congrArg (Value.int .i64) (by push_cast; omega), rfl⟩
    · obtain rfl : k = 255 := by omega
      have hm := Lib.hid (mix_any (invT c 255) (by have := invT_le c 255; omega))
      generalize invT c 255 = v at *
      go_wp2_with fail
      refine (hm.out _).mono ?_
      rintro e w' ⟨rfl, rfl⟩
      go_wp2_with fail
      go_ret
      exact ⟨by rw [hfin.out]; rfl, rfl⟩
end Go.Proofs.Ytjjemkfkpnemoaa
