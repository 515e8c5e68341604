/- The reference's rate, and its put. No condition but the sizes'. -/
import Derived.Test.YtcempndfbckcaaaGX2
import Derived.Test.YtcempndfbckcaaaRfB
namespace Go.Proofs.Ytcempndfbckcaaa
open Go.RowKit
theorem man_big (x j : Nat) (h : j < expN x) : 262144 ≤ x / 2 ^ j := by
 unfold expN at h
 have h0 : bitLen x ≠ 0 := by omega
 have hx : x ≠ 0 := by
  intro e
  subst e
  exact h0 (by decide)
 have h1 := (bitLen_spec x).2 hx
 have h2 : 262144 * 2 ^ j ≤ x := by
  refine Nat.le_trans ?_ h1
  rw [show (262144 : Nat) = 2 ^ 18 from rfl, ← Nat.pow_add]
  exact Nat.pow_le_pow_right (by decide) (by omega)
 exact (Nat.le_div_iff_mul_le (Nat.pow_pos (by decide))).2 h2
set_option maxRecDepth 100000 in
set_option maxHeartbeats 8000000 in
theorem rrate_ok (x : Nat) (hx : x < 18446744073709551616) (w : World) :
  Calls Try.prog 87 #[.int .u64 (x : Nat)] w fun e w' => e = .returned (.tuple #[.int .u64 (manN x : Nat), .int .i64 (expN x : Nat)]) ∧ w = w' := by
 have hbig := fun j h => man_big x j h
 have hm : x / 2 ^ expN x < 262144 := manN_lt x
 have hM : Hid (manN x = x / 2 ^ expN x) := rfl
 have hE := expN_le x hx
 have hst : ∀ j, x / 2 ^ (j + 1) = x / 2 ^ j / 2 := fun j => by rw [Nat.pow_succ, Nat.div_div_eq_div_mul]
 have hle : ∀ j, x / 2 ^ j < 18446744073709551616 := fun j => Nat.lt_of_le_of_lt (Nat.div_le_self _ _) hx
 have h0 : Hid (x / 2 ^ 0 = x) := by show _ = _; simp
 generalize manN x = mn at *
 generalize expN x = p at *
 replace hbig := Lib.hid hbig
 replace hm := Lib.hid hm
 replace hst := Lib.hid hst
 replace hle := Lib.hid hle
 clear hx
 go_enter Try.func87, Try.ntmps87
 go_upto_region 2 with (fail)
 go_loopg [0, 4] p (fun m' a b wx => ∃ j : Nat, m' = p - j ∧ j ≤ p ∧ a = .int .u64 (x / 2 ^ j : Nat) ∧ b = .int .i64 (j : Nat) ∧ Hid (w = wx))
 case atStart => exact ⟨0, rfl, by omega, by rw [h0.out], rfl, rfl⟩
 case round =>
  obtain ⟨j, rfl, hj, rfl, rfl, hw⟩ := hrel
  obtain rfl := hw.out
  have hs1 := hst.out j
  have hl1 := hle.out j
  by_cases hjp : j < p
  ·have hb1 := hbig.out j hjp
   generalize x / 2 ^ j = q at *
   have d : decide ((262144 : Int) ≤ (q : Int)) = true := by simp; omega
   have hq2 : (q : Int) ≤ 18446744073709551615 := by omega
   have hs2 : Hid (((q / 2 : Nat) : Int) = (q : Int) / 2) := by show _ = _; push_cast; rfl
   replace hs1 := Lib.hid hs1
   clear hl1 hb1
   go_wp2_with fail
   go_roundg (p - (j + 1))
   case measure => omega
   case rel => exact ⟨j + 1, rfl, by omega, by rw [hs1.out, hs2.out], by push_cast; rfl, rfl⟩
  ·obtain rfl : j = p := by omega
   have hb1 := hm.out
   have hM2 := hM.out
   generalize x / 2 ^ j = q at *
   have d : decide ((262144 : Int) ≤ (q : Int)) = false := by simp; omega
   replace hM2 := Lib.hid hM2
   clear hs1 hl1 hb1
   go_wp2_with fail
   go_ret2
   exact ⟨by rw [hM2.out]; rfl, rfl⟩
set_option maxRecDepth 100000 in
set_option maxHeartbeats 8000000 in
theorem rpw_ok (v : Value) (len : Nat) (l : List Nat) (n x : Nat) (b : Int) (hn1 : 1 ≤ n) (hn8 : n ≤ 8) (hb : b = n) (hx : x < 18446744073709551616) (hlen : len ≤ 1000000) (w : World) (hv : SB w v len l) :
  Calls Try.prog 118 #[v, .int .i64 b, .int .u64 (x : Nat)] w fun e w' => ∃ s c, e = .returned (.slice s (len + n) c) ∧ (len + n ≤ c ∧ c ≤ 9223372036854775807) ∧ OB w' w.heap.size 5 (.slice s (len + n) c) (len + n) (l ++ putB n x) ∧ BW w w' := by
 have c := Lib.hid (rput_ok v len l n x b hn1 hn8 hb hx (by omega) w hv)
 clear hv hn1 hn8 hb hx hlen
 generalize l ++ putB n x = m at *
 go_enter Try.func118, Try.ntmps118
 go_wp2_with fail
 refine Calls.mono c.out ?_
 rintro e w1 ⟨v', rfl, O, hB⟩
 obtain ⟨s1, c1, rfl, h1, h2⟩ := O.len
 unfold maxLen at h2
 replace O := Lib.hid O
 replace hB := Lib.hid hB
 dsimp only
 go_wp2_with fail
 go_ret
 exact ⟨s1, c1, rfl, ⟨h1, h2⟩, O.out, hB.out⟩
end Go.Proofs.Ytcempndfbckcaaa
