import Derived.Test.YtdncopcnkjpbpaaBkC
namespace Go.Proofs.Ytdncopcnkjpbpaa
open Go.RowKit
theorem Bk.alloc (w : World) (r u h : Int) : Bk (w.alloc (.cells #[.int .u64 r, .int .u64 u, .int .u64 h] 52)) w.heap.size r u h := by
  show (w.heap.push _)[w.heap.size]? = _; simp
theorem Bk.below {w w' : World} {b : Nat} {r u h : Int} (H : Bk w b r u h) {B : Nat} (hb : Below B w w') (hB : b < B) : Bk w' b r u h := by
  unfold Bk at *; rw [hb.block _ hB]; exact H
theorem alive9 (w : World) : Calls Try.prog 11 #[] w fun e w' => e = .returned (.bool true) ∧ Below w.heap.size w w' := by
  go_enter Try.func11, Try.ntmps11
  go_wp2_with fail
  refine (new_any 2 5 w).mono ?_
  rintro e w1 ⟨rfl, rfl⟩
  have H0 := Lib.hid (Bk.alloc w 2 5 5)
  have L0 : Below w.heap.size w (w.alloc (.cells #[.int .u64 2, .int .u64 5, .int .u64 5] 52)) := (Below.refl _ _).alloc (Nat.le_refl _) _
  have hz0 : w.heap.size < (w.alloc (.cells #[.int .u64 2, .int .u64 5, .int .u64 5] 52)).heap.size := by simp
  generalize w.alloc (.cells #[.int .u64 2, .int .u64 5, .int .u64 5] 52) = w1 at *
  go_wp2_with fail
  refine (take_yes _ 2 5 5 4 w1 H0.out (by omega) (by omega) (by omega)).mono ?_
  rintro e w2 ⟨rfl, rfl⟩
  have H1 := Lib.hid (H0.out.set (5 - 4))
  have L1 := L0.setCell (p := ⟨w.heap.size, 2, none⟩) (Nat.le_refl _) (.int .u64 (5 - 4))
  have hz1 : w.heap.size < (w1.setCell ⟨w.heap.size, 2, none⟩ (.int .u64 (5 - 4))).heap.size := by simp; omega
  generalize w1.setCell ⟨w.heap.size, 2, none⟩ (.int .u64 (5 - 4)) = w2 at *
  go_wp2_with fail
  refine (take_no _ 2 5 _ 2 w2 H1.out (by omega)).mono ?_
  rintro e w3 ⟨rfl, rfl⟩
  go_wp2_with fail
  refine (wait_any _ 2 5 _ 2 w3 H1.out (by omega) (by omega) (by omega)).mono ?_
  rintro e w4 ⟨rfl, hb4⟩
  have H2 := Lib.hid (H1.out.below hb4 hz1)
  have L2 := L1.trans (hb4.mono (by omega))
  have hz2 : w.heap.size < w4.heap.size := by have := hb4.size; omega
  clear hb4
  have ew : waitN 2 5 (5 - 4) 2 = 1 := by decide
  rw [ew]; clear ew
  go_wp2_with fail
  refine (tick_any _ 2 5 _ w4 H2.out (by omega) (by omega) (by omega)).mono ?_
  rintro e w5 ⟨rfl, w6, hb5, rfl⟩
  have H3 := Lib.hid ((H2.out.below hb5 hz2).set (giveN 5 (5 - 4) 2))
  have L3 := (L2.trans (hb5.mono (by omega))).setCell (p := ⟨w.heap.size, 2, none⟩) (Nat.le_refl _) (.int .u64 (giveN 5 (5 - 4) 2))
  have hz3 : w.heap.size < (w6.setCell ⟨w.heap.size, 2, none⟩ (.int .u64 (giveN 5 (5 - 4) 2))).heap.size := by have := hb5.size; simp; omega
  generalize w6.setCell ⟨w.heap.size, 2, none⟩ (.int .u64 (giveN 5 (5 - 4) 2)) = w7 at *
  clear hb5
  go_wp2_with fail
  refine (have_any _ 2 5 _ w7 H3.out).mono ?_
  rintro e w8 ⟨rfl, rfl⟩
  have ew : giveN 5 (5 - 4) 2 = 3 := by decide
  rw [ew]; clear ew
  go_wp2
  go_ret
  exact ⟨rfl, L3⟩

theorem law_none (n : Int) (w : World) (_hn : (Lit.int .u64 n).wf = true) :
    Calls Try.prog 6 #[.int .u64 n] w fun e w' => e = .returned (.bool true) ∧ Below w.heap.size w w' := by
  go_enter Try.func6, Try.ntmps6
  go_wp2_with fail
  refine (alive9 w).mono ?_
  rintro e w1 ⟨rfl, hb⟩
  go_wp2_with fail
  refine (tick_nil w1).mono ?_
  rintro e w1 ⟨rfl, rfl⟩
  go_wp2_with fail
  refine (give_nil n w1).mono ?_
  rintro e w1 ⟨rfl, rfl⟩
  go_wp2_with fail
  refine (have_nil w1).mono ?_
  rintro e w1 ⟨rfl, rfl⟩
  go_wp2_with fail
  refine (take_nil n w1).mono ?_
  rintro e w1 ⟨rfl, rfl⟩
  go_wp2_with fail
  refine (wait_nil n w1).mono ?_
  rintro e w1 ⟨rfl, rfl⟩
  go_wp2_with fail
  refine (copy_nil w1).mono ?_
  rintro e w1 ⟨rfl, rfl⟩
  go_wp2
  go_ret
  exact ⟨rfl, hb⟩
end Go.Proofs.Ytdncopcnkjpbpaa
