import Derived.Test.YtdncopcnkjpbpaaBkL
import Derived.OpenShut
namespace Go.Proofs.Ytdncopcnkjpbpaa
open Go.RowKit

theorem give_small (u h r : Int) (k : Nat) (hh : 0 ≤ h) (hr : 0 ≤ r) (hr' : r ≤ 65535) (hu : u ≤ 65535) (hu0 : 0 ≤ u) : giveN u (min (h + k * r) u) r = min (h + ((k + 1 : Nat) : Int) * r) u := by
  have e : ((k + 1 : Nat) : Int) * r = (k : Int) * r + r := by rw [Int.natCast_add, Int.add_mul]; simp
  rw [e]
  have : 0 ≤ (k : Int) * r := Int.mul_nonneg (by omega) hr
  generalize (k : Int) * r = q at *
  unfold giveN satN
  split <;> omega

theorem wait_plain (r u h n : Int) (hr : 0 ≤ r) (hh : 0 ≤ h) (hu : h ≤ u) (hu' : u ≤ 255) :
    (∀ k : Nat, (waitN r u h n < 0 ∨ (k : Int) < waitN r u h n) → min (h + k * r) u < n) ∧ (∀ k : Nat, (k : Int) = waitN r u h n → n ≤ min (h + k * r) u) ∧ waitN r u h n ≤ 255 := by
  unfold waitN
  by_cases h1 : n ≤ h
  · rw [if_pos h1]
    refine ⟨fun k hk => by omega, fun k hk => ?_, by omega⟩
    have : 0 ≤ (k : Int) * r := Int.mul_nonneg (by omega) hr
    omega
  rw [if_neg h1]
  by_cases h2 : u < n ∨ r = 0
  · rw [if_pos h2]
    refine ⟨fun k _ => ?_, fun k hk => by omega, by omega⟩
    rcases h2 with h2 | h2
    · omega
    · subst h2; simp; omega
  rw [if_neg h2]
  have hr1 : 1 ≤ r := by omega
  have hm := Int.mul_ediv_add_emod (n - h) r
  have hm1 := Int.emod_nonneg (n - h) (b := r) (by omega)
  have hm2 := Int.emod_lt_of_pos (n - h) (b := r) (by omega)
  have hq : 0 ≤ (n - h) / r := Int.ediv_nonneg (by omega) (by omega)
  have hqr : (n - h) / r ≤ r * ((n - h) / r) := by
    have := Int.mul_le_mul_of_nonneg_right hr1 hq
    rw [Int.one_mul] at this; exact this
  generalize (n - h) / r = q at *
  generalize (n - h) % r = m at *
  have e1 : min (q + (if m = 0 then 0 else 1)) 9223372036854775807 = q + (if m = 0 then 0 else 1) := by split <;> omega
  rw [e1]
  refine ⟨fun k hk => ?_, fun k hk => ?_, ?_⟩
  · have hk' : (k : Int) ≤ q + (if m = 0 then 0 else 1) - 1 := by rcases hk with hk | hk <;> (split at hk <;> split <;> omega)
    have h3 := Int.mul_le_mul_of_nonneg_right hk' hr
    split at h3
    · rw [show q + 0 - 1 = q - 1 by omega, Int.sub_mul, Int.mul_comm q r] at h3; omega
    · rw [show q + 1 - 1 = q by omega, Int.mul_comm q r] at h3; omega
  · rw [hk]
    split
    · rw [Int.add_zero, Int.mul_comm]; omega
    · rw [Int.add_mul, Int.mul_comm q r]; omega
  · split <;> omega

theorem take_some (b : Nat) (r u h n : Int) (w : World) (H : Bk w b r u h) (hn0 : 0 ≤ n) (hh0 : 0 ≤ h) (hh : h ≤ 18446744073709551615) :
    Calls Try.prog 14 #[.pointer (some ⟨b, 0, none⟩), .int .u64 n] w fun e w' => ∃ h', e = .returned (.bool (decide (n ≤ h))) ∧ Bk w' b r u h' ∧ 0 ≤ h' ∧ h' ≤ h ∧ (n ≤ h → h' = h - n) ∧ (¬ n ≤ h → h' = h) ∧ Below b w w' ∧ w'.heap.size = w.heap.size := by
  by_cases hn : n ≤ h
  · exact (take_yes b r u h n w H hn hn0 hh).mono fun e w' ⟨he, hw⟩ => ⟨h - n, by rw [he]; simp [hn], by rw [hw]; exact H.set _, by omega, by omega, fun _ => rfl, fun c => (c hn).elim, by rw [hw]; exact (Below.refl _ _).setCell (p := ⟨b, 2, none⟩) (Nat.le_refl _) _, by rw [hw]; simp⟩
  · exact (take_no b r u h n w H (by omega)).mono fun e w' ⟨he, hw⟩ => ⟨h, by rw [he]; simp [hn], by rw [hw]; exact H, hh0, Int.le_refl _, fun c => (hn c).elim, fun _ => rfl, by rw [hw]; exact Below.refl _ _, by rw [hw]⟩

set_option maxRecDepth 100000 in
theorem law_waits (r u t n : Int) (w : World) (wr : (Lit.int .u8 r).wf = true) (wu : (Lit.int .u8 u).wf = true) (wt : (Lit.int .u16 t).wf = true) (wn : (Lit.int .u16 n).wf = true) :
    Calls Try.prog 5 #[.int .u8 r, .int .u8 u, .int .u16 t, .int .u16 n] w fun e w' => e = .returned (.bool true) ∧ Below w.heap.size w w' := by
  have hr := bounds_u8 wr
  have hu := bounds_u8 wu
  have ht := bounds_u16 wt
  have hn := bounds_u16 wn
  clear wr wu wt wn
  obtain ⟨hr0, hr1⟩ := hr
  obtain ⟨hu0, hu1⟩ := hu
  obtain ⟨ht0, ht1⟩ := ht
  obtain ⟨hn0, hn1⟩ := hn
  go_enter Try.func5, Try.ntmps5
  go_wp2_with fail
  refine (alive9 w).mono ?_
  rintro e w1 ⟨rfl, hb⟩
  go_wp2_with fail
  refine (new_any r u w1).mono ?_
  rintro e w2 ⟨rfl, rfl⟩
  have H0 := Lib.hid (Bk.alloc w1 r u u)
  have L0 := hb.trans (((Below.refl _ _).alloc (Nat.le_refl _) (.cells #[.int .u64 r, .int .u64 u, .int .u64 u] 52)).mono hb.size)
  have hbz := hb.size
  have hz0 : w1.heap.size < (w1.alloc (.cells #[.int .u64 r, .int .u64 u, .int .u64 u] 52)).heap.size := by simp
  clear hb
  generalize w1.alloc (.cells #[.int .u64 r, .int .u64 u, .int .u64 u] 52) = w2 at *
  generalize w1.heap.size = b at *
  go_wp2_with fail
  refine (take_some _ r u u t w2 H0.out (by omega) (by omega) (by omega)).mono ?_
  rintro e w3 ⟨h, rfl, H1, hh0, hh1, _, _, hb1, hz1⟩
  replace H1 := Lib.hid H1
  have L1 := L0.trans (hb1.mono hbz)
  clear hb1
  rw [← hz1] at hz0
  clear hz1
  go_wp2_with fail
  refine (wait_any _ r u h n w3 H1.out (by omega) (by omega) (by omega)).mono ?_
  rintro e w4 ⟨rfl, hb2⟩
  have H2 := Lib.hid (H1.out.below hb2 hz0)
  have L2 := L1.trans (hb2.mono (by omega))
  have hz2 := hb2.size
  have hz3 : b < w4.heap.size := by omega
  clear hb2 hz2 hz0
  obtain ⟨P1, P2, P3⟩ := wait_plain r u h n hr0 hh0 hh1 hu1
  generalize waitN r u h n = W at *
  replace P1 := Lib.hid P1
  replace P2 := Lib.hid P2
  go_wp2_with fail
  go_loopw [11] (fun i w' => ∃ k : Nat, k ≤ 300 ∧ i = .int .i64 k ∧ (W < 0 ∨ (k : Int) ≤ W) ∧ Hid (Bk w' b r u (min (h + k * r) u)) ∧ Below w.heap.size w w' ∧ b < w'.heap.size) (fun i _ => (300 - intOf i).toNat)
  case atStart => exact ⟨0, by omega, rfl, by omega, by have := H2.out; refine Lib.hid ?_; simpa [Int.min_eq_left hh1] using this, L2, hz3⟩
  case round =>
    obtain ⟨k, hk, rfl, hkW, HB, HL, hz⟩ := hrel
    by_cases hk3 : k < 300
    · by_cases hc : W < 0 ∨ (k : Int) < W
      · have p1 := P1.out k hc
        have hnext : Hid (giveN u (min (h + k * r) u) r = min (h + ((k + 1 : Nat) : Int) * r) u) := give_small u h r k hh0 hr0 (by omega) (by omega) (by omega)
        have hk2 : 0 ≤ (k : Int) * r := Int.mul_nonneg (by omega) hr0
        have hm0 : 0 ≤ min (h + k * r) u := by omega
        have hm1 : min (h + k * r) u ≤ 255 := by omega
        clear hk2
        generalize min (h + (k : Int) * r) u = hv at *
        by_cases hw : W < 0
        all_goals
          go_wp2_with fail
          refine (have_any _ r u hv wr HB.out).mono ?_
          rintro e w5 ⟨rfl, rfl⟩
          go_wp2_with fail
          refine (tick_any _ r u hv w5 HB.out hr0 hm0 (by omega)).mono ?_
          rintro e w6 ⟨rfl, w7, hb7, rfl⟩
          have H8 := Lib.hid ((HB.out.below hb7 hz).set (giveN u hv r))
          rw [hnext.out] at H8
          rw [hnext.out]
          have L8 := (HL.trans (hb7.mono HL.size)).setCell (p := ⟨b, 2, none⟩) (by omega) (.int .u64 (min (h + ((k + 1 : Nat) : Int) * r) u))
          have hz8 : b < (w7.setCell ⟨b, 2, none⟩ (.int .u64 (min (h + ((k + 1 : Nat) : Int) * r) u))).heap.size := by have := hb7.size; simp; omega
          generalize w7.setCell ⟨b, 2, none⟩ (.int .u64 (min (h + ((k + 1 : Nat) : Int) * r) u)) = w8 at *
          clear hb7 hnext P1 P2 HB H0 H1 H2
          go_wp2
          go_roundw
          case rel => exact ⟨k + 1, by omega, by go_num, by omega, H8, L8, hz8⟩
          case measure => simp [intOf]; omega
      · have hkw : (k : Int) = W := by omega
        have p2 := P2.out k hkw
        have hw : ¬ W < 0 := by omega
        have hw2 : ¬ (k : Int) < W := by omega
        clear hkw
        generalize min (h + (k : Int) * r) u = hv at *
        go_wp2_with fail
        refine (have_any _ r u hv wr HB.out).mono ?_
        rintro e w5 ⟨rfl, rfl⟩
        go_wp2
        go_ret
        exact ⟨rfl, HL⟩
    · have hw : W < 0 := by omega
      go_wp2
      go_ret
      exact ⟨by simp [hw], HL⟩
end Go.Proofs.Ytdncopcnkjpbpaa
