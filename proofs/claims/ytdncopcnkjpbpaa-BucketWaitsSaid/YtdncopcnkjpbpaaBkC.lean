import Derived.Test.YtdncopcnkjpbpaaBkB
import Derived.IntWalk
namespace Go.Proofs.Ytdncopcnkjpbpaa
open Go.RowKit
theorem wait_d (b : Nat) (r u h n : Int) (w : World) (H : Bk w b r u h) (hn : h < n) (hr : n ≤ u) (hr0 : 1 ≤ r) (hh : 0 ≤ h) (hu : u ≤ 18446744073709551615) (hm : ¬ (n - h) % r = 0) :
    Calls Try.prog 15 #[.pointer (some ⟨b, 0, none⟩), .int .u64 n] w fun e w' => e = .returned (.int .i64 (min 9223372036854775807 ((n - h) / r + 1))) ∧ Below w.heap.size w w' := by
  have h0 := H.c0
  have h1 := H.c1
  have h2 := H.c2
  clear H
  have hd1 : decide (u < n) = false := by simp; omega
  have hd2 : (r == 0) = false := by simp; omega
  have hd3 : decide (n ≤ h) = false := by simp; omega
  have hd5 : ((n - h) % r != 0) = true := by simp; omega
  have hq0 : 0 ≤ (n - h) / r := Int.ediv_nonneg (by omega) (by omega)
  have hq1 : (n - h) / r + 1 ≤ 18446744073709551615 := by
    have : (n - h) / r ≤ (n - h) / 1 := by
      by_cases hr1 : r = 1
      · subst hr1; omega
      · exact Int.le_trans (Int.ediv_le_self _ (by omega)) (by omega)
    by_cases hr1 : r = 1
    · subst hr1; omega
    · have h2 : (n - h) / r < n - h := Int.ediv_lt_self_of_pos_of_ne_one (by omega) hr1
      omega
  have hw : IntKind.u64.wrap ((n - h) / r + 1) = (n - h) / r + 1 := IntWalk.u64_in _ (by omega)
  have hm0 : 0 ≤ min 9223372036854775807 ((n - h) / r + 1) := by omega
  have hm1 : min 9223372036854775807 ((n - h) / r + 1) ≤ 9223372036854775807 := by omega
  go_enter Try.func15, Try.ntmps15
  go_wp2_with fail
  refine (least_any 9223372036854775807 ((n - h) / r + 1) w.heap.size _ (by simp [go_sem]) (by simp [go_sem])).mono ?_
  rintro e w1 ⟨rfl, hb⟩
  go_wp2
  go_ret
  exact ⟨rfl, (((Below.refl _ _).alloc (Nat.le_refl _) _)).trans (hb.mono (by simp))⟩
theorem wait_e (b : Nat) (r u h n : Int) (w : World) (H : Bk w b r u h) (hn : h < n) (hr : n ≤ u) (hr0 : 1 ≤ r) (hh : 0 ≤ h) (hu : u ≤ 18446744073709551615) (hm : (n - h) % r = 0) :
    Calls Try.prog 15 #[.pointer (some ⟨b, 0, none⟩), .int .u64 n] w fun e w' => e = .returned (.int .i64 (min 9223372036854775807 ((n - h) / r))) ∧ Below w.heap.size w w' := by
  have h0 := H.c0
  have h1 := H.c1
  have h2 := H.c2
  clear H
  have hd1 : decide (u < n) = false := by simp; omega
  have hd2 : (r == 0) = false := by simp; omega
  have hd3 : decide (n ≤ h) = false := by simp; omega
  have hd5 : ((n - h) % r != 0) = false := by simp; omega
  clear hm
  have hq0 : 0 ≤ (n - h) / r := Int.ediv_nonneg (by omega) (by omega)
  have hm0 : 0 ≤ min 9223372036854775807 ((n - h) / r) := by omega
  have hm1 : min 9223372036854775807 ((n - h) / r) ≤ 9223372036854775807 := by omega
  go_enter Try.func15, Try.ntmps15
  go_wp2_with fail
  refine (least_any 9223372036854775807 ((n - h) / r) w.heap.size _ (by simp [go_sem]) (by simp [go_sem])).mono ?_
  rintro e w1 ⟨rfl, hb⟩
  go_wp2
  go_ret
  exact ⟨rfl, (((Below.refl _ _).alloc (Nat.le_refl _) _)).trans (hb.mono (by simp))⟩

theorem wait_any (b : Nat) (r u h n : Int) (w : World) (H : Bk w b r u h) (hr0 : 0 ≤ r) (hh : 0 ≤ h) (hu : u ≤ 18446744073709551615) :
    Calls Try.prog 15 #[.pointer (some ⟨b, 0, none⟩), .int .u64 n] w fun e w' => e = .returned (.int .i64 (waitN r u h n)) ∧ Below w.heap.size w w' := by
  unfold waitN
  by_cases h1 : n ≤ h
  · rw [if_pos h1]; exact (wait_a b r u h n w H h1).mono fun e w' ⟨he, hw⟩ => ⟨he, hw ▸ Below.refl _ _⟩
  rw [if_neg h1]
  by_cases h2 : u < n
  · rw [if_pos (Or.inl h2)]; exact (wait_b b r u h n w H (by omega) h2).mono fun e w' ⟨he, hw⟩ => ⟨he, hw ▸ Below.refl _ _⟩
  by_cases h3 : r = 0
  · rw [if_pos (Or.inr h3)]; subst h3; exact (wait_c b u h n w H (by omega) (by omega)).mono fun e w' ⟨he, hw⟩ => ⟨he, hw ▸ Below.refl _ _⟩
  rw [if_neg (by omega)]
  by_cases h4 : (n - h) % r = 0
  · rw [if_pos h4]; exact (wait_e b r u h n w H (by omega) (by omega) (by omega) hh hu h4).mono fun e w' ⟨he, hw⟩ => ⟨he ▸ (congrArg (fun x => Ending.returned (.int .i64 x)) (by omega)), hw⟩
  · rw [if_neg h4]; exact (wait_d b r u h n w H (by omega) (by omega) (by omega) hh hu h4).mono fun e w' ⟨he, hw⟩ => ⟨he ▸ (congrArg (fun x => Ending.returned (.int .i64 x)) (by omega)), hw⟩
end Go.Proofs.Ytdncopcnkjpbpaa
