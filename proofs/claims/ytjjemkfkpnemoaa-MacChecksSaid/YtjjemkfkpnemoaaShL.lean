/- The laws of sha: alive. No condition. -/
import Derived.Test.YtjjemkfkpnemoaaShU
import Derived.Lib.SlBytesConst
namespace Go.Proofs.Ytjjemkfkpnemoaa
open Go.RowKit

theorem eq20 (a b : List Nat) (ha : a.length = 20) (hb : b.length = 20) (w : World) : (Op.equalIn 10000 42 (.agg (ivA .u8 a)) (.agg (ivA .u8 b))).run Try.prog w = .ok (a == b) w :=
  run_equalIn_ivA 9998 42 5 20 .u8 a b Try.underlying42 Try.underlying5 info_u8 ha hb w
theorem sum_len (m : List Nat) : (sumN m).length = 20 := by unfold sumN; simp [digest, putB_len]

set_option maxRecDepth 100000 in
set_option maxHeartbeats 8000000 in
theorem shaalive_any (w : World) : Calls Try.prog 26 #[] w fun e w' => e = .returned (.bool true) ∧ Below w.heap.size w w' := by
  have hA := sum_empty
  have hB := sum_abc
  have lA := Lib.hid (sum_len [])
  have lB := Lib.hid (sum_len [97, 98, 99])
  have s1 := Lib.hid (shasum_any (.slice none 0 0) 0 [] (by simp) w (SM.nil w))
  have s2 := fun w1 v hv => Lib.hid (shasum_any v 1 [[97, 98, 99]] (by simp) w1 hv)
  have fA : ([] : List (List Nat)).flatten = [] := rfl
  have fB : ([[97, 98, 99]] : List (List Nat)).flatten = [97, 98, 99] := rfl
  rw [fA] at s1
  rw [fB] at s2
  have bA : (#[Value.int .u8 218, .int .u8 57, .int .u8 163, .int .u8 238, .int .u8 94, .int .u8 107, .int .u8 75, .int .u8 13, .int .u8 50, .int .u8 85, .int .u8 191, .int .u8 239, .int .u8 149, .int .u8 96, .int .u8 24, .int .u8 144, .int .u8 175, .int .u8 216, .int .u8 7, .int .u8 9] : Array Value) = ivA .u8 (sumN []) := by rw [hA]; rfl
  have bB : (#[Value.int .u8 169, .int .u8 153, .int .u8 62, .int .u8 54, .int .u8 71, .int .u8 6, .int .u8 129, .int .u8 106, .int .u8 186, .int .u8 62, .int .u8 37, .int .u8 113, .int .u8 120, .int .u8 80, .int .u8 194, .int .u8 108, .int .u8 156, .int .u8 208, .int .u8 216, .int .u8 157] : Array Value) = ivA .u8 (sumN [97, 98, 99]) := by rw [hB]; rfl
  clear hA hB fA fB
  generalize sumN [] = A at *
  generalize sumN [97, 98, 99] = B at *
  have eA : ∀ w, (Op.equalIn 10000 42 (.agg (ivA .u8 A)) (.agg (ivA .u8 A))).run Try.prog w = .ok true w := fun w => by rw [eq20 A A lA.out lA.out]; simp
  have eB : ∀ w, (Op.equalIn 10000 42 (.agg (ivA .u8 B)) (.agg (ivA .u8 B))).run Try.prog w = .ok true w := fun w => by rw [eq20 B B lB.out lB.out]; simp
  clear lA lB
  have kc := fun (w : World) (C : Array Value) (n c : Nat) => Lib.run_convert_bytes_const (P := Try.prog) w 37 5 C n c Try.underlying37 Try.underlying5
  go_enter Try.func26, Try.ntmps26
  go_wp2_with fail
  refine s1.out.mono ?_
  rintro e w1 ⟨rfl, hb1⟩
  replace hb1 := Lib.hid hb1
  dsimp only
  go_wp2_with fail
  have hX : SB (w1.alloc (.cells #[.int .u8 97, .int .u8 98, .int .u8 99] 5 (3, 4))) (.slice (some ⟨w1.heap.size, 0, none⟩) 3 3) 3 [97, 98, 99] :=
    SB.mk' rfl (by intro y hy; simp at hy; omega) (Nat.le_refl _) (by decide) (by simp) fun j hj => by
      rcases (show j = 0 ∨ j = 1 ∨ j = 2 by omega) with rfl | rfl | rfl <;> (rw [hp_cell (hp_new _ _ _ rfl)]; rfl)
  have hY := SM.one _ _ _ _ hX
  have hsz : (w1.alloc (.cells #[.int .u8 97, .int .u8 98, .int .u8 99] 5 (3, 4))).heap.size = w1.heap.size + 1 := by simp
  rw [hsz] at hY
  have s3 := Lib.hid ((s2 _ _ hY).out)
  have hb2 := Lib.hid ((hb1.out.alloc hb1.out.size (.cells #[.int .u8 97, .int .u8 98, .int .u8 99] 5 (3, 4))).alloc (by have := hb1.out.size; simp; omega) (.cells #[.slice (some ⟨w1.heap.size, 0, none⟩) 3 3] 37))
  clear hX hY s2
  refine s3.out.mono ?_
  rintro e w2 ⟨rfl, hb3⟩
  have hb4 := Lib.hid (hb2.out.trans (hb3.mono hb2.out.size))
  clear hb3 hb2 hb1 s3
  dsimp only
  go_wp2_with fail
  go_ret
  exact ⟨rfl, hb4.out⟩
end Go.Proofs.Ytjjemkfkpnemoaa
