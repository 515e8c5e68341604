/- The reference's likely index. No condition but the sizes'. -/
import Derived.Test.YtikmhlbpefednaaGreatGS2
namespace Go.Proofs.YtikmhlbpefednaaGreat
open Go.RowKit
theorem idxN_is {n s : Nat} {x : Int} (hs : s < 65536) (h0 : 0 ≤ x) (h1 : x % 65536 = s) (h2 : (n : Int) - 32767 ≤ x) (h3 : x ≤ (n : Int) + 32768) : idxN n s = x := by
 unfold idxN
 rw [if_neg (by omega)]
 dsimp only
 split <;> split <;> omega
theorem idxN_lo {n s : Nat} {x : Int} (hs : s < 65536) (h0 : x < 0) (h1 : x % 65536 = s) (h2 : (n : Int) - 32767 ≤ x) (h3 : x ≤ (n : Int) + 32768) : idxN n s = x + 65536 := by
 unfold idxN
 rw [if_neg (by omega)]
 dsimp only
 split <;> split <;> omega
set_option maxRecDepth 100000 in
set_option maxHeartbeats 8000000 in
theorem ridx_ok (h : Int) (s : Nat) (hh : -1 ≤ h ∧ h ≤ 1152921504606846976) (hs : s < 65536) (w : World) :
  Calls Tryz.prog 45 #[.int .i64 h, .int .u16 (s : Nat)] w fun e w' => e = .returned (.int .i64 (idxN h s)) ∧ w = w' := by
 by_cases h0 : h < 0
 ·have d : decide (h < 0) = true := by simpa using h0
  have hR : idxN h s = s := if_pos h0
  rw [hR]
  clear hR h0
  go_enter Tryz.func45, Tryz.ntmps45
  go_wp2_with fail
  go_ret
  exact ⟨rfl, rfl⟩
 obtain ⟨n, rfl⟩ := Int.eq_ofNat_of_zero_le (show 0 ≤ h by omega)
 have d : decide ((n : Int) < 0) = false := by simp
 obtain ⟨q, hq, r, hr, hr2⟩ : ∃ q : Nat, (n : Int) / 65536 = (q : Int) ∧ ∃ r : Nat, r < 65536 ∧ n = 65536 * q + r := ⟨n / 65536, by omega, n % 65536, by omega, by omega⟩
 have hqb : (q : Int) ≤ 17592186044416 := by omega
 have hx1 : Hid (((q : Int) * 65536 + (s : Int)) % 65536 = (s : Int)) := by show _ = _; omega
 have hx2 : Hid ((n : Int) - 65536 < (q : Int) * 65536 + (s : Int) ∧ (q : Int) * 65536 + (s : Int) < (n : Int) + 65536) := by show _ ∧ _; omega
 have hi := Lib.hid fun x => @idxN_is n s x hs
 have hl := Lib.hid fun x => @idxN_lo n s x hs
 have hnb : (n : Int) ≤ 1152921504606846976 := hh.2
 clear h0 hh hr2
 go_enter Tryz.func45, Tryz.ntmps45
 go_upto_region 4 with (fail)
 clear d hq
 generalize (q : Int) * 65536 + (s : Int) = x at *
 clear hqb
 go_loopg [5] (if (n : Int) + 32768 < x then 1 else 0) (fun m' a wx => ∃ y : Int, m' = (if (n : Int) + 32768 < y then 1 else 0) ∧ a = .int .i64 y ∧ Hid (y % 65536 = (s : Int)) ∧ (n : Int) - 65536 < y ∧ y < (n : Int) + 65536 ∧ wx = w)
 case atStart => exact ⟨x, rfl, rfl, hx1, hx2.out.1, hx2.out.2, rfl⟩
 case round =>
  clear hx1 hx2
  obtain ⟨y, rfl, rfl, hy1, hy2, hy3, rfl⟩ := hrel
  by_cases c1 : (n : Int) + 32768 < y
  ·have d1 : decide ((n : Int) + 32768 < y) = true := by simpa using c1
   go_wp2_with fail
   go_roundg 0
   case measure => omega
   case rel => exact ⟨y - 65536, by rw [if_neg (by omega)], rfl, by have := hy1.out; show _ = _; omega, by omega, by omega, rfl⟩
  have d1 : decide ((n : Int) + 32768 < y) = false := by simpa using c1
  go_upto_region 6 with (fail)
  clear d1
  rename World => wo
  go_loopg [5] (if y < (n : Int) - 32767 then 1 else 0) (fun m' a wx => ∃ z : Int, m' = (if z < (n : Int) - 32767 then 1 else 0) ∧ a = .int .i64 z ∧ Hid (z % 65536 = (s : Int)) ∧ (n : Int) - 65536 < z ∧ z ≤ (n : Int) + 32768 ∧ wx = wo)
  case atStart => exact ⟨y, rfl, rfl, hy1, hy2, by omega, rfl⟩
  case round =>
   obtain ⟨z, rfl, rfl, hz1, hz2, hz3, rfl⟩ := hrel
   by_cases c2 : z < (n : Int) - 32767
   ·have d2 : decide (z < (n : Int) - 32767) = true := by simpa using c2
    go_wp2_with fail
    go_roundg 0
    case measure => omega
    case rel => exact ⟨z + 65536, by rw [if_neg (by omega)], rfl, by have := hz1.out; show _ = _; omega, by omega, by omega, rfl⟩
   have d2 : decide (z < (n : Int) - 32767) = false := by simpa using c2
   by_cases c3 : z < 0
   ·have d3 : decide (z < 0) = true := by simpa using c3
    have e := Lib.hid (hl.out z c3 hz1.out (by omega) (by omega))
    go_wp2_with fail
    go_ret
    exact ⟨by rw [e.out]; rfl, rfl⟩
   ·have d3 : decide (z < 0) = false := by simpa using c3
    have e := Lib.hid (hi.out z (by omega) hz1.out (by omega) (by omega))
    go_wp2_with fail
    go_ret
    exact ⟨by rw [e.out]; rfl, rfl⟩
end Go.Proofs.YtikmhlbpefednaaGreat
