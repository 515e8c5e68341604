/-  -/
import Derived.Test.YtikmhlbpefednaaGreatGAa
import Derived.Deep.LoopGhost
namespace Go.Proofs.YtikmhlbpefednaaGreat
open Go.RowKit
def bt (x j : Nat) : Nat := x / 2 ^ j % 2
def mn (x i : Nat) : Nat → Nat
 | 0 => bt 99 i + bt x i
 | k + 1 => mn x i k + bt x ((i + (4 + k)) % 8)
def mo (x : Nat) : Nat → Nat
 | 0 => 0
 | i + 1 => mo x i + (mn x i 4 % 2) * 2 ^ i
theorem bt_lt (x j : Nat) : bt x j < 2 := Nat.mod_lt _ (by omega)
theorem mn_le (x i : Nat) : ∀ k, mn x i k ≤ 2 + k
 | 0 => by have := bt_lt 99 i; have := bt_lt x i; rw [mn]; omega
 | k + 1 => by have := mn_le x i k; have := bt_lt x ((i + (4 + k)) % 8); rw [mn]; omega
theorem mo_lt (x : Nat) : ∀ i, mo x i < 2 ^ i
 | 0 => by simp [mo]
 | i + 1 => by
  have := mo_lt x i
  rw [mo, Nat.pow_succ]
  have h : mn x i 4 % 2 < 2 := Nat.mod_lt _ (by omega)
  have : mn x i 4 % 2 = 0 ∨ mn x i 4 % 2 = 1 := by omega
  rcases this with h | h <;> rw [h] <;> omega
theorem and_bt (x j : Nat) (hx : x < 256) : bits .and .u8 ((x : Int) / ((2 ^ j : Nat) : Int)) 1 = ((bt x j : Nat) : Int) := by
 have e : (x : Int) / ((2 ^ j : Nat) : Int) = ((x / 2 ^ j : Nat) : Int) := by simp
 rw [e, show (1 : Int) = ((1 : Nat) : Int) from rfl, u8_and_nat _ 1 (Nat.lt_of_le_of_lt (Nat.div_le_self _ _) hx) (by omega), Nat.and_one_is_mod]
 rfl
set_option maxRecDepth 100000 in
set_option maxHeartbeats 4000000 in
theorem mix_any (x : Nat) (hx : x < 256) (w : World) :
  Calls Tryz.prog 145 #[.int .u8 (x : Nat)] w fun e w' => e = .returned (.int .u8 (mo x 8 : Nat)) ∧ w' = w := by
 have hx2 : (x : Int) ≤ 255 := by omega
 have A0 : bits .and .u8 (x : Int) 1 = ((bt x 0 : Nat) : Int) := by simpa using and_bt x 0 hx
 have A1 : bits .and .u8 ((x : Int) / 2) 1 = ((bt x 1 : Nat) : Int) := and_bt x 1 hx
 have A2 : bits .and .u8 ((x : Int) / 4) 1 = ((bt x 2 : Nat) : Int) := and_bt x 2 hx
 have A3 : bits .and .u8 ((x : Int) / 8) 1 = ((bt x 3 : Nat) : Int) := and_bt x 3 hx
 have A4 : bits .and .u8 ((x : Int) / 16) 1 = ((bt x 4 : Nat) : Int) := and_bt x 4 hx
 have A5 : bits .and .u8 ((x : Int) / 32) 1 = ((bt x 5 : Nat) : Int) := and_bt x 5 hx
 have A6 : bits .and .u8 ((x : Int) / 64) 1 = ((bt x 6 : Nat) : Int) := and_bt x 6 hx
 have A7 : bits .and .u8 ((x : Int) / 128) 1 = ((bt x 7 : Nat) : Int) := and_bt x 7 hx
 have z99 : bits .and .u8 99 1 = 1 := by decide
 have z49 : bits .and .u8 49 1 = 1 := by decide
 have z24 : bits .and .u8 24 1 = 0 := by decide
 have z12 : bits .and .u8 12 1 = 0 := by decide
 have z6 : bits .and .u8 6 1 = 0 := by decide
 have z3 : bits .and .u8 3 1 = 1 := by decide
 have z1 : bits .and .u8 1 1 = 1 := by decide
 have z0 : bits .and .u8 0 1 = 0 := by decide
 have b0 := bt_lt x 0
 have b1 := bt_lt x 1
 have b2 := bt_lt x 2
 have b3 := bt_lt x 3
 have b4 := bt_lt x 4
 have b5 := bt_lt x 5
 have b6 := bt_lt x 6
 have b7 := bt_lt x 7
 go_enter Tryz.func145, Tryz.ntmps145
 go_wp2_with fail
 go_loopg [3, 4, 5, 6] 8 (fun n out i n5 n6 wx => ∃ k : Nat, n = 8 - k ∧ k ≤ 8 ∧ out = .int .u8 (mo x k : Nat) ∧ i = .int .i64 (k : Nat) ∧ wx = w)
 case atStart => exact ⟨0, by omega, by omega, rfl, rfl, rfl⟩
 case round =>
  obtain ⟨i, rfl, hi, rfl, rfl, rfl⟩ := hrel
  by_cases hi8 : i < 8
  ·have hn0 : Hid (mn x i 0 = bt 99 i + bt x i) := rfl
   have hnk : ∀ k, Hid (mn x i (k + 1) = mn x i k + bt x ((i + (4 + k)) % 8)) := fun k => rfl
   obtain rfl | rfl | rfl | rfl | rfl | rfl | rfl | rfl : i = 0 ∨ i = 1 ∨ i = 2 ∨ i = 3 ∨ i = 4 ∨ i = 5 ∨ i = 6 ∨ i = 7 := by omega
   ·have hc : bt 99 0 = 1 := by decide
    have ho := mo_lt x 0
    have hoo : Hid (mo x 1 = mo x 0 + (mn x 0 4 % 2) * 2 ^ 0) := rfl
    generalize mo x 0 = o at *
    go_wp2_with fail
    go_loopg [5, 6] 4 (fun n s5 s6 wx => ∃ k : Nat, n = 4 - k ∧ k ≤ 4 ∧ s5 = .int .u8 (mn x 0 k : Nat) ∧ s6 = .int .i64 (4 + (k : Nat) : Int) ∧ wx = wr)
    case atStart =>
     refine ⟨0, by omega, by omega, congrArg (Value.int .u8) ?_, rfl, rfl⟩
     rw [hn0.out, hc]; push_cast; omega
    case round =>
     obtain ⟨k, rfl, hk, rfl, rfl, rfl⟩ := hrel
     have hm := mn_le x 0 k
     by_cases hk4 : k < 4
     ·have hq := hnk k
      obtain rfl | rfl | rfl | rfl : k = 0 ∨ k = 1 ∨ k = 2 ∨ k = 3 := by omega
      ·generalize mn x 0 0 = m at *
       replace hq : Hid (mn x 0 1 = m + bt x 4) := hq
       go_wp2_with fail
       go_roundg 3
       case measure => omega
       case rel => exact ⟨1, rfl, by omega, by rw [hq.out]; push_cast; rfl, rfl, rfl⟩
      ·generalize mn x 0 1 = m at *
       replace hq : Hid (mn x 0 2 = m + bt x 5) := hq
       go_wp2_with fail
       go_roundg 2
       case measure => omega
       case rel => exact ⟨2, rfl, by omega, by rw [hq.out]; push_cast; rfl, rfl, rfl⟩
      ·generalize mn x 0 2 = m at *
       replace hq : Hid (mn x 0 3 = m + bt x 6) := hq
       go_wp2_with fail
       go_roundg 1
       case measure => omega
       case rel => exact ⟨3, rfl, by omega, by rw [hq.out]; push_cast; rfl, rfl, rfl⟩
      ·generalize mn x 0 3 = m at *
       replace hq : Hid (mn x 0 4 = m + bt x 7) := hq
       go_wp2_with fail
       go_roundg 0
       case measure => omega
       case rel => exact ⟨4, rfl, by omega, by rw [hq.out]; push_cast; rfl, rfl, rfl⟩
     ·obtain rfl : k = 4 := by omega
      generalize mn x 0 4 = m at *
      obtain ⟨q, hq⟩ : ∃ q : Nat, q = m % 2 := ⟨_, rfl⟩
      have hq2 : (m : Int) % 2 = (q : Int) := by rw [hq]; simp
      have hq3 : (m : Int).tmod 2 = (q : Int) := by rw [Int.tmod_eq_emod_of_nonneg (by omega)]; exact hq2
      have hq4 : q < 2 := by omega
      rw [← hq] at hoo
      clear hq
      have hq01 : q = 0 ∨ q = 1 := by omega
      have e1 : Hid (mo x 1 = o + q * 1) := hoo
      go_wp2_with fail
      go_roundg 7
      case measure => omega
      case rel => exact ⟨1, rfl, by omega, congrArg (Value.int .u8) (by rw [e1.out]; push_cast; omega), rfl, rfl⟩
   ·have hc : bt 99 1 = 1 := by decide
    have ho := mo_lt x 1
    have hoo : Hid (mo x 2 = mo x 1 + (mn x 1 4 % 2) * 2 ^ 1) := rfl
    generalize mo x 1 = o at *
    go_wp2_with fail
    go_loopg [5, 6] 4 (fun n s5 s6 wx => ∃ k : Nat, n = 4 - k ∧ k ≤ 4 ∧ s5 = .int .u8 (mn x 1 k : Nat) ∧ s6 = .int .i64 (4 + (k : Nat) : Int) ∧ wx = wr)
    case atStart =>
     refine ⟨0, by omega, by omega, congrArg (Value.int .u8) ?_, rfl, rfl⟩
     rw [hn0.out, hc]; push_cast; omega
    case round =>
     obtain ⟨k, rfl, hk, rfl, rfl, rfl⟩ := hrel
     have hm := mn_le x 1 k
     by_cases hk4 : k < 4
     ·have hq := hnk k
      obtain rfl | rfl | rfl | rfl : k = 0 ∨ k = 1 ∨ k = 2 ∨ k = 3 := by omega
      ·generalize mn x 1 0 = m at *
       replace hq : Hid (mn x 1 1 = m + bt x 5) := hq
       go_wp2_with fail
       go_roundg 3
       case measure => omega
       case rel => exact ⟨1, rfl, by omega, by rw [hq.out]; push_cast; rfl, rfl, rfl⟩
      ·generalize mn x 1 1 = m at *
       replace hq : Hid (mn x 1 2 = m + bt x 6) := hq
       go_wp2_with fail
       go_roundg 2
       case measure => omega
       case rel => exact ⟨2, rfl, by omega, by rw [hq.out]; push_cast; rfl, rfl, rfl⟩
      ·generalize mn x 1 2 = m at *
       replace hq : Hid (mn x 1 3 = m + bt x 7) := hq
       go_wp2_with fail
       go_roundg 1
       case measure => omega
       case rel => exact ⟨3, rfl, by omega, by rw [hq.out]; push_cast; rfl, rfl, rfl⟩
      ·generalize mn x 1 3 = m at *
       replace hq : Hid (mn x 1 4 = m + bt x 0) := hq
       go_wp2_with fail
       go_roundg 0
       case measure => omega
       case rel => exact ⟨4, rfl, by omega, by rw [hq.out]; push_cast; rfl, rfl, rfl⟩
     ·obtain rfl : k = 4 := by omega
      generalize mn x 1 4 = m at *
      obtain ⟨q, hq⟩ : ∃ q : Nat, q = m % 2 := ⟨_, rfl⟩
      have hq2 : (m : Int) % 2 = (q : Int) := by rw [hq]; simp
      have hq3 : (m : Int).tmod 2 = (q : Int) := by rw [Int.tmod_eq_emod_of_nonneg (by omega)]; exact hq2
      have hq4 : q < 2 := by omega
      rw [← hq] at hoo
      clear hq
      have hq01 : q = 0 ∨ q = 1 := by omega
      have e1 : Hid (mo x 2 = o + q * 2) := hoo
      go_wp2_with fail
      go_roundg 6
      case measure => omega
      case rel => exact ⟨2, rfl, by omega, congrArg (Value.int .u8) (by rw [e1.out]; push_cast; omega), rfl, rfl⟩
   ·have hc : bt 99 2 = 0 := by decide
    have ho := mo_lt x 2
    have hoo : Hid (mo x 3 = mo x 2 + (mn x 2 4 % 2) * 2 ^ 2) := rfl
    generalize mo x 2 = o at *
    go_wp2_with fail
    go_loopg [5, 6] 4 (fun n s5 s6 wx => ∃ k : Nat, n = 4 - k ∧ k ≤ 4 ∧ s5 = .int .u8 (mn x 2 k : Nat) ∧ s6 = .int .i64 (4 + (k : Nat) : Int) ∧ wx = wr)
    case atStart =>
     refine ⟨0, by omega, by omega, congrArg (Value.int .u8) ?_, rfl, rfl⟩
     rw [hn0.out, hc]; push_cast; omega
    case round =>
     obtain ⟨k, rfl, hk, rfl, rfl, rfl⟩ := hrel
     have hm := mn_le x 2 k
     by_cases hk4 : k < 4
     ·have hq := hnk k
      obtain rfl | rfl | rfl | rfl : k = 0 ∨ k = 1 ∨ k = 2 ∨ k = 3 := by omega
      ·generalize mn x 2 0 = m at *
       replace hq : Hid (mn x 2 1 = m + bt x 6) := hq
       go_wp2_with fail
       go_roundg 3
       case measure => omega
       case rel => exact ⟨1, rfl, by omega, by rw [hq.out]; push_cast; rfl, rfl, rfl⟩
      ·generalize mn x 2 1 = m at *
       replace hq : Hid (mn x 2 2 = m + bt x 7) := hq
       go_wp2_with fail
       go_roundg 2
       case measure => omega
       case rel => exact ⟨2, rfl, by omega, by rw [hq.out]; push_cast; rfl, rfl, rfl⟩
      ·generalize mn x 2 2 = m at *
       replace hq : Hid (mn x 2 3 = m + bt x 0) := hq
       go_wp2_with fail
       go_roundg 1
       case measure => omega
       case rel => exact ⟨3, rfl, by omega, by rw [hq.out]; push_cast; rfl, rfl, rfl⟩
      ·generalize mn x 2 3 = m at *
       replace hq : Hid (mn x 2 4 = m + bt x 1) := hq
       go_wp2_with fail
       go_roundg 0
       case measure => omega
       case rel => exact ⟨4, rfl, by omega, by rw [hq.out]; push_cast; rfl, rfl, rfl⟩
     ·obtain rfl : k = 4 := by omega
      generalize mn x 2 4 = m at *
      obtain ⟨q, hq⟩ : ∃ q : Nat, q = m % 2 := ⟨_, rfl⟩
      have hq2 : (m : Int) % 2 = (q : Int) := by rw [hq]; simp
      have hq3 : (m : Int).tmod 2 = (q : Int) := by rw [Int.tmod_eq_emod_of_nonneg (by omega)]; exact hq2
      have hq4 : q < 2 := by omega
      rw [← hq] at hoo
      clear hq
      have hq01 : q = 0 ∨ q = 1 := by omega
      have e1 : Hid (mo x 3 = o + q * 4) := hoo
      go_wp2_with fail
      go_roundg 5
      case measure => omega
      case rel => exact ⟨3, rfl, by omega, congrArg (Value.int .u8) (by rw [e1.out]; push_cast; omega), rfl, rfl⟩
   ·have hc : bt 99 3 = 0 := by decide
    have ho := mo_lt x 3
    have hoo : Hid (mo x 4 = mo x 3 + (mn x 3 4 % 2) * 2 ^ 3) := rfl
    generalize mo x 3 = o at *
    go_wp2_with fail
    go_loopg [5, 6] 4 (fun n s5 s6 wx => ∃ k : Nat, n = 4 - k ∧ k ≤ 4 ∧ s5 = .int .u8 (mn x 3 k : Nat) ∧ s6 = .int .i64 (4 + (k : Nat) : Int) ∧ wx = wr)
    case atStart =>
     refine ⟨0, by omega, by omega, congrArg (Value.int .u8) ?_, rfl, rfl⟩
     rw [hn0.out, hc]; push_cast; omega
    case round =>
     obtain ⟨k, rfl, hk, rfl, rfl, rfl⟩ := hrel
     have hm := mn_le x 3 k
     by_cases hk4 : k < 4
     ·have hq := hnk k
      obtain rfl | rfl | rfl | rfl : k = 0 ∨ k = 1 ∨ k = 2 ∨ k = 3 := by omega
      ·generalize mn x 3 0 = m at *
       replace hq : Hid (mn x 3 1 = m + bt x 7) := hq
       go_wp2_with fail
       go_roundg 3
       case measure => omega
       case rel => exact ⟨1, rfl, by omega, by rw [hq.out]; push_cast; rfl, rfl, rfl⟩
      ·generalize mn x 3 1 = m at *
       replace hq : Hid (mn x 3 2 = m + bt x 0) := hq
       go_wp2_with fail
       go_roundg 2
       case measure => omega
       case rel => exact ⟨2, rfl, by omega, by rw [hq.out]; push_cast; rfl, rfl, rfl⟩
      ·generalize mn x 3 2 = m at *
       replace hq : Hid (mn x 3 3 = m + bt x 1) := hq
       go_wp2_with fail
       go_roundg 1
       case measure => omega
       case rel => exact ⟨3, rfl, by omega, by rw [hq.out]; push_cast; rfl, rfl, rfl⟩
      ·generalize mn x 3 3 = m at *
       replace hq : Hid (mn x 3 4 = m + bt x 2) := hq
       go_wp2_with fail
       go_roundg 0
       case measure => omega
       case rel => exact ⟨4, rfl, by omega, by rw [hq.out]; push_cast; rfl, rfl, rfl⟩
     ·obtain rfl : k = 4 := by omega
      generalize mn x 3 4 = m at *
      obtain ⟨q, hq⟩ : ∃ q : Nat, q = m % 2 := ⟨_, rfl⟩
      have hq2 : (m : Int) % 2 = (q : Int) := by rw [hq]; simp
      have hq3 : (m : Int).tmod 2 = (q : Int) := by rw [Int.tmod_eq_emod_of_nonneg (by omega)]; exact hq2
      have hq4 : q < 2 := by omega
      rw [← hq] at hoo
      clear hq
      have hq01 : q = 0 ∨ q = 1 := by omega
      have e1 : Hid (mo x 4 = o + q * 8) := hoo
      go_wp2_with fail
      go_roundg 4
      case measure => omega
      case rel => exact ⟨4, rfl, by omega, congrArg (Value.int .u8) (by rw [e1.out]; push_cast; omega), rfl, rfl⟩
   ·have hc : bt 99 4 = 0 := by decide
    have ho := mo_lt x 4
    have hoo : Hid (mo x 5 = mo x 4 + (mn x 4 4 % 2) * 2 ^ 4) := rfl
    generalize mo x 4 = o at *
    go_wp2_with fail
    go_loopg [5, 6] 4 (fun n s5 s6 wx => ∃ k : Nat, n = 4 - k ∧ k ≤ 4 ∧ s5 = .int .u8 (mn x 4 k : Nat) ∧ s6 = .int .i64 (4 + (k : Nat) : Int) ∧ wx = wr)
    case atStart =>
     refine ⟨0, by omega, by omega, congrArg (Value.int .u8) ?_, rfl, rfl⟩
     rw [hn0.out, hc]; push_cast; omega
    case round =>
     obtain ⟨k, rfl, hk, rfl, rfl, rfl⟩ := hrel
     have hm := mn_le x 4 k
     by_cases hk4 : k < 4
     ·have hq := hnk k
      obtain rfl | rfl | rfl | rfl : k = 0 ∨ k = 1 ∨ k = 2 ∨ k = 3 := by omega
      ·generalize mn x 4 0 = m at *
       replace hq : Hid (mn x 4 1 = m + bt x 0) := hq
       go_wp2_with fail
       go_roundg 3
       case measure => omega
       case rel => exact ⟨1, rfl, by omega, by rw [hq.out]; push_cast; rfl, rfl, rfl⟩
      ·generalize mn x 4 1 = m at *
       replace hq : Hid (mn x 4 2 = m + bt x 1) := hq
       go_wp2_with fail
       go_roundg 2
       case measure => omega
       case rel => exact ⟨2, rfl, by omega, by rw [hq.out]; push_cast; rfl, rfl, rfl⟩
      ·generalize mn x 4 2 = m at *
       replace hq : Hid (mn x 4 3 = m + bt x 2) := hq
       go_wp2_with fail
       go_roundg 1
       case measure => omega
       case rel => exact ⟨3, rfl, by omega, by rw [hq.out]; push_cast; rfl, rfl, rfl⟩
      ·generalize mn x 4 3 = m at *
       replace hq : Hid (mn x 4 4 = m + bt x 3) := hq
       go_wp2_with fail
       go_roundg 0
       case measure => omega
       case rel => exact ⟨4, rfl, by omega, by rw [hq.out]; push_cast; rfl, rfl, rfl⟩
     ·obtain rfl : k = 4 := by omega
      generalize mn x 4 4 = m at *
      obtain ⟨q, hq⟩ : ∃ q : Nat, q = m % 2 := ⟨_, rfl⟩
      have hq2 : (m : Int) % 2 = (q : Int) := by rw [hq]; simp
      have hq3 : (m : Int).tmod 2 = (q : Int) := by rw [Int.tmod_eq_emod_of_nonneg (by omega)]; exact hq2
      have hq4 : q < 2 := by omega
      rw [← hq] at hoo
      clear hq
      have hq01 : q = 0 ∨ q = 1 := by omega
      have e1 : Hid (mo x 5 = o + q * 16) := hoo
      go_wp2_with fail
      go_roundg 3
      case measure => omega
      case rel => exact ⟨5, rfl, by omega, congrArg (Value.int .u8) (by rw [e1.out]; push_cast; omega), rfl, rfl⟩
   ·have hc : bt 99 5 = 1 := by decide
    have ho := mo_lt x 5
    have hoo : Hid (mo x 6 = mo x 5 + (mn x 5 4 % 2) * 2 ^ 5) := rfl
    generalize mo x 5 = o at *
    go_wp2_with fail
    go_loopg [5, 6] 4 (fun n s5 s6 wx => ∃ k : Nat, n = 4 - k ∧ k ≤ 4 ∧ s5 = .int .u8 (mn x 5 k : Nat) ∧ s6 = .int .i64 (4 + (k : Nat) : Int) ∧ wx = wr)
    case atStart =>
     refine ⟨0, by omega, by omega, congrArg (Value.int .u8) ?_, rfl, rfl⟩
     rw [hn0.out, hc]; push_cast; omega
    case round =>
     obtain ⟨k, rfl, hk, rfl, rfl, rfl⟩ := hrel
     have hm := mn_le x 5 k
     by_cases hk4 : k < 4
     ·have hq := hnk k
      obtain rfl | rfl | rfl | rfl : k = 0 ∨ k = 1 ∨ k = 2 ∨ k = 3 := by omega
      ·generalize mn x 5 0 = m at *
       replace hq : Hid (mn x 5 1 = m + bt x 1) := hq
       go_wp2_with fail
       go_roundg 3
       case measure => omega
       case rel => exact ⟨1, rfl, by omega, by rw [hq.out]; push_cast; rfl, rfl, rfl⟩
      ·generalize mn x 5 1 = m at *
       replace hq : Hid (mn x 5 2 = m + bt x 2) := hq
       go_wp2_with fail
       go_roundg 2
       case measure => omega
       case rel => exact ⟨2, rfl, by omega, by rw [hq.out]; push_cast; rfl, rfl, rfl⟩
      ·generalize mn x 5 2 = m at *
       replace hq : Hid (mn x 5 3 = m + bt x 3) := hq
       go_wp2_with fail
       go_roundg 1
       case measure => omega
       case rel => exact ⟨3, rfl, by omega, by rw [hq.out]; push_cast; rfl, rfl, rfl⟩
      ·generalize mn x 5 3 = m at *
       replace hq : Hid (mn x 5 4 = m + bt x 4) := hq
       go_wp2_with fail
       go_roundg 0
       case measure => omega
       case rel => exact ⟨4, rfl, by omega, by rw [hq.out]; push_cast; rfl, rfl, rfl⟩
     ·obtain rfl : k = 4 := by omega
      generalize mn x 5 4 = m at *
      obtain ⟨q, hq⟩ : ∃ q : Nat, q = m % 2 := ⟨_, rfl⟩
      have hq2 : (m : Int) % 2 = (q : Int) := by rw [hq]; simp
      have hq3 : (m : Int).tmod 2 = (q : Int) := by rw [Int.tmod_eq_emod_of_nonneg (by omega)]; exact hq2
      have hq4 : q < 2 := by omega
      rw [← hq] at hoo
      clear hq
      have hq01 : q = 0 ∨ q = 1 := by omega
      have e1 : Hid (mo x 6 = o + q * 32) := hoo
      go_wp2_with fail
      go_roundg 2
      case measure => omega
      case rel => exact ⟨6, rfl, by omega, congrArg (Value.int .u8) (by rw [e1.out]; push_cast; omega), rfl, rfl⟩
   ·have hc : bt 99 6 = 1 := by decide
    have ho := mo_lt x 6
    have hoo : Hid (mo x 7 = mo x 6 + (mn x 6 4 % 2) * 2 ^ 6) := rfl
    generalize mo x 6 = o at *
    go_wp2_with fail
    go_loopg [5, 6] 4 (fun n s5 s6 wx => ∃ k : Nat, n = 4 - k ∧ k ≤ 4 ∧ s5 = .int .u8 (mn x 6 k : Nat) ∧ s6 = .int .i64 (4 + (k : Nat) : Int) ∧ wx = wr)
    case atStart =>
     refine ⟨0, by omega, by omega, congrArg (Value.int .u8) ?_, rfl, rfl⟩
     rw [hn0.out, hc]; push_cast; omega
    case round =>
     obtain ⟨k, rfl, hk, rfl, rfl, rfl⟩ := hrel
     have hm := mn_le x 6 k
     by_cases hk4 : k < 4
     ·have hq := hnk k
      obtain rfl | rfl | rfl | rfl : k = 0 ∨ k = 1 ∨ k = 2 ∨ k = 3 := by omega
      ·generalize mn x 6 0 = m at *
       replace hq : Hid (mn x 6 1 = m + bt x 2) := hq
       go_wp2_with fail
       go_roundg 3
       case measure => omega
       case rel => exact ⟨1, rfl, by omega, by rw [hq.out]; push_cast; rfl, rfl, rfl⟩
      ·generalize mn x 6 1 = m at *
       replace hq : Hid (mn x 6 2 = m + bt x 3) := hq
       go_wp2_with fail
       go_roundg 2
       case measure => omega
       case rel => exact ⟨2, rfl, by omega, by rw [hq.out]; push_cast; rfl, rfl, rfl⟩
      ·generalize mn x 6 2 = m at *
       replace hq : Hid (mn x 6 3 = m + bt x 4) := hq
       go_wp2_with fail
       go_roundg 1
       case measure => omega
       case rel => exact ⟨3, rfl, by omega, by rw [hq.out]; push_cast; rfl, rfl, rfl⟩
      ·generalize mn x 6 3 = m at *
       replace hq : Hid (mn x 6 4 = m + bt x 5) := hq
       go_wp2_with fail
       go_roundg 0
       case measure => omega
       case rel => exact ⟨4, rfl, by omega, by rw [hq.out]; push_cast; rfl, rfl, rfl⟩
     ·obtain rfl : k = 4 := by omega
      generalize mn x 6 4 = m at *
      obtain ⟨q, hq⟩ : ∃ q : Nat, q = m % 2 := ⟨_, rfl⟩
      have hq2 : (m : Int) % 2 = (q : Int) := by rw [hq]; simp
      have hq3 : (m : Int).tmod 2 = (q : Int) := by rw [Int.tmod_eq_emod_of_nonneg (by omega)]; exact hq2
      have hq4 : q < 2 := by omega
      rw [← hq] at hoo
      clear hq
      have hq01 : q = 0 ∨ q = 1 := by omega
      have e1 : Hid (mo x 7 = o + q * 64) := hoo
      go_wp2_with fail
      go_roundg 1
      case measure => omega
      case rel => exact ⟨7, rfl, by omega, congrArg (Value.int .u8) (by rw [e1.out]; push_cast; omega), rfl, rfl⟩
   ·have hc : bt 99 7 = 0 := by decide
    have ho := mo_lt x 7
    have hoo : Hid (mo x 8 = mo x 7 + (mn x 7 4 % 2) * 2 ^ 7) := rfl
    generalize mo x 7 = o at *
    go_wp2_with fail
    go_loopg [5, 6] 4 (fun n s5 s6 wx => ∃ k : Nat, n = 4 - k ∧ k ≤ 4 ∧ s5 = .int .u8 (mn x 7 k : Nat) ∧ s6 = .int .i64 (4 + (k : Nat) : Int) ∧ wx = wr)
    case atStart =>
     refine ⟨0, by omega, by omega, congrArg (Value.int .u8) ?_, rfl, rfl⟩
     rw [hn0.out, hc]; push_cast; omega
    case round =>
     obtain ⟨k, rfl, hk, rfl, rfl, rfl⟩ := hrel
     have hm := mn_le x 7 k
     by_cases hk4 : k < 4
     ·have hq := hnk k
      obtain rfl | rfl | rfl | rfl : k = 0 ∨ k = 1 ∨ k = 2 ∨ k = 3 := by omega
      ·generalize mn x 7 0 = m at *
       replace hq : Hid (mn x 7 1 = m + bt x 3) := hq
       go_wp2_with fail
       go_roundg 3
       case measure => omega
       case rel => exact ⟨1, rfl, by omega, by rw [hq.out]; push_cast; rfl, rfl, rfl⟩
      ·generalize mn x 7 1 = m at *
       replace hq : Hid (mn x 7 2 = m + bt x 4) := hq
       go_wp2_with fail
       go_roundg 2
       case measure => omega
       case rel => exact ⟨2, rfl, by omega, by rw [hq.out]; push_cast; rfl, rfl, rfl⟩
      ·generalize mn x 7 2 = m at *
       replace hq : Hid (mn x 7 3 = m + bt x 5) := hq
       go_wp2_with fail
       go_roundg 1
       case measure => omega
       case rel => exact ⟨3, rfl, by omega, by rw [hq.out]; push_cast; rfl, rfl, rfl⟩
      ·generalize mn x 7 3 = m at *
       replace hq : Hid (mn x 7 4 = m + bt x 6) := hq
       go_wp2_with fail
       go_roundg 0
       case measure => omega
       case rel => exact ⟨4, rfl, by omega, by rw [hq.out]; push_cast; rfl, rfl, rfl⟩
     ·obtain rfl : k = 4 := by omega
      generalize mn x 7 4 = m at *
      obtain ⟨q, hq⟩ : ∃ q : Nat, q = m % 2 := ⟨_, rfl⟩
      have hq2 : (m : Int) % 2 = (q : Int) := by rw [hq]; simp
      have hq3 : (m : Int).tmod 2 = (q : Int) := by rw [Int.tmod_eq_emod_of_nonneg (by omega)]; exact hq2
      have hq4 : q < 2 := by omega
      rw [← hq] at hoo
      clear hq
      have hq01 : q = 0 ∨ q = 1 := by omega
      have e1 : Hid (mo x 8 = o + q * 128) := hoo
      go_wp2_with fail
      go_roundg 0
      case measure => omega
      case rel => exact ⟨8, rfl, by omega, congrArg (Value.int .u8) (by rw [e1.out]; push_cast; omega), rfl, rfl⟩
  ·obtain rfl : i = 8 := by omega
   have := mo_lt x 8
   go_wp2
   go_ret
   exact ⟨rfl, rfl⟩
end Go.Proofs.YtikmhlbpefednaaGreat
