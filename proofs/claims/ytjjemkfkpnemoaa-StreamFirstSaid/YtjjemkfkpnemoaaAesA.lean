import Derived.Test.YtjjemkfkpnemoaaAesP
import Derived.Test.YtjjemkfkpnemoaaBs
import Derived.Laws.BitsAllLaws
import Derived.Laws.Rows
import Derived.Laws.Tables
namespace Go.Proofs.Ytjjemkfkpnemoaa
open Go.RowKit

theorem byte_all (p : Int → Bool) (h : (List.range 256).all (fun n => p (n : Nat)) = true) (x : Int) (h0 : 0 ≤ x) (h1 : x ≤ 255) : p x = true := by
  obtain ⟨n, rfl⟩ := Int.eq_ofNat_of_zero_le h0
  exact List.all_eq_true.1 h n (List.mem_range.2 (by omega))

theorem double_any (a : Nat) (ha : a < 256) (w : World) :
    Calls Try.prog 54 #[.int .u8 (a : Nat)] w fun e w' => e = .returned (.int .u8 (dbl a : Nat)) ∧ w' = w := by
  by_cases h : a.testBit 7 = true
  · have hb : (bits .and .u8 (a : Int) 128 != 0) = true := by
      rw [show (128 : Int) = ((128 : Nat) : Int) from rfl, u8_and_nat a 128 ha (by omega)]
      have := byte_all (fun x => !(x.toNat.testBit 7) || (((x.toNat &&& 128 : Nat) : Int) != 0)) (by decide +kernel) a (by omega) (by omega)
      simpa [h] using this
    have hv : bits .xor .u8 ((a : Int) * 2 % 256) 27 = (dbl a : Nat) := by
      have e : ((a : Int) * 2 % 256) = ((2 * a % 256 : Nat) : Int) := by omega
      rw [e, show (27 : Int) = ((27 : Nat) : Int) from rfl, u8_xor_nat _ _ (by omega) (by omega)]
      unfold dbl; rw [if_pos h]
    go_enter Try.func54, Try.ntmps54
    go_wp2
    go_ret
    exact ⟨rfl, rfl⟩
  · have hb : (bits .and .u8 (a : Int) 128 != 0) = false := by
      rw [show (128 : Int) = ((128 : Nat) : Int) from rfl, u8_and_nat a 128 ha (by omega)]
      have := byte_all (fun x => (x.toNat.testBit 7) || (((x.toNat &&& 128 : Nat) : Int) == 0)) (by decide +kernel) a (by omega) (by omega)
      simpa [h] using this
    have hv : (a : Int) * 2 % 256 = (dbl a : Nat) := by
      unfold dbl; rw [if_neg h]; omega
    go_enter Try.func54, Try.ntmps54
    go_wp2
    go_ret
    exact ⟨by show Ending.returned (.int .u8 ((a : Int) * 2 % 256)) = _; rw [hv], rfl⟩

theorem bit0 (b : Nat) (hb : b < 256) : (bits .and .u8 (b : Int) 1 != 0) = b.testBit 0 := by
  rw [show (1 : Int) = ((1 : Nat) : Int) from rfl, u8_and_nat b 1 hb (by omega), Nat.and_one_is_mod, Nat.testBit_zero]
  have h2 := Nat.mod_two_eq_zero_or_one b
  rcases h2 with h | h <;> simp [h]

set_option maxHeartbeats 1000000 in
theorem times_any (a b : Nat) (ha : a < 256) (hb : b < 256) (w : World) :
    Calls Try.prog 18 #[.int .u8 (a : Nat), .int .u8 (b : Nat)] w fun e w' => e = .returned (.int .u8 (timesP a b : Nat)) ∧ w' = w := by
  go_enter Try.func18, Try.ntmps18
  go_wp2_with fail
  go_loop [5, 0, 1] (fun o x y => ∃ k : Nat, k ≤ 8 ∧ o = .int .u8 (sumP k a b : Nat) ∧ x = .int .u8 (dpow k a : Nat) ∧ y = .int .u8 (b >>> k : Nat)) (fun _ _ y => (intOf y).toNat)
  case atStart => exact ⟨0, by omega, rfl, rfl, rfl⟩
  case round =>
    obtain ⟨k, hk, rfl, rfl, rfl⟩ := hrel
    by_cases hz : b >>> k = 0
    · have hst := Lib.hid (timesP_stop a b k hk hz)
      rw [titer_eq] at hst
      have hz' : ((b >>> k : Nat) : Int) = 0 := by rw [hz]; rfl
      generalize ((b >>> k : Nat) : Int) = q at *
      go_wp2
      go_ret
      refine ⟨?_, rfl⟩
      rw [hst.out]; rfl
    · have hk8 : k < 8 := by
        rcases Nat.lt_or_ge k 8 with h | h
        · exact h
        · have : k = 8 := by omega
          subst this
          exact (hz (by rw [Nat.shiftRight_eq_div_pow]; omega)).elim
      have hq : b >>> k < 256 := by rw [Nat.shiftRight_eq_div_pow]; exact Nat.lt_of_le_of_lt (Nat.div_le_self _ _) hb
      have hb0 := bit0 (b >>> k) hq
      have hn : b >>> (k + 1) = (b >>> k) / 2 := Nat.shiftRight_succ b k
      have ht : (b >>> k).testBit 0 = b.testBit k := by rw [Nat.testBit_shiftRight]; simp
      have hd := dpow_lt a ha k
      have hs := sumP_lt a b ha k
      have hx := Lib.hid (show ∀ x, x = bits .xor .u8 (sumP k a b : Nat) (dpow k a : Nat) → x = ((sumP k a b ^^^ dpow k a : Nat) : Int) from fun x hx => by rw [hx]; exact u8_xor_nat _ _ hs hd)
      have hp : Hid (sumP (k + 1) a b = if b.testBit k then sumP k a b ^^^ dpow k a else sumP k a b) := rfl
      have hpd : Hid (dpow (k + 1) a = dbl (dpow k a)) := rfl
      rw [ht] at hb0
      replace hn := Lib.hid hn
      generalize hqq : b >>> k = q at *
      have hq1 : 1 ≤ (q : Int) := by omega
      have hq2 : (q : Int) ≤ 255 := by omega
      replace hqq := Lib.hid hqq
      clear ht
      by_cases hbit : b.testBit k = true
      · rw [hbit] at hb0
        replace hbit := Lib.hid hbit
        go_wp2_with fail
        refine (double_any (dpow k a) hd w).mono ?_
        rintro e w' ⟨rfl, rfl⟩
        go_wp2
        refine ⟨⟨k + 1, by omega, ?_, ?_, ?_⟩, by simp [intOf]; omega⟩
        · rw [hp.out, hbit.out, if_pos rfl, hx.out _ rfl]
        · rw [hpd.out]
        · rw [hn.out]; rfl
      · replace hbit : b.testBit k = false := by simpa using hbit
        rw [hbit] at hb0
        replace hbit := Lib.hid hbit
        go_wp2_with fail
        refine (double_any (dpow k a) hd w).mono ?_
        rintro e w' ⟨rfl, rfl⟩
        go_wp2
        refine ⟨⟨k + 1, by omega, ?_, ?_, ?_⟩, by simp [intOf]; omega⟩
        · rw [hp.out, hbit.out]; rfl
        · rw [hpd.out]
        · rw [hn.out]; rfl
end Go.Proofs.Ytjjemkfkpnemoaa
