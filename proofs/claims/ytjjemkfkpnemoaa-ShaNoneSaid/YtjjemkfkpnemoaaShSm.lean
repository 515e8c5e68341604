/- The law ShaSums. No condition. -/
import Derived.Test.YtjjemkfkpnemoaaRfC
import Derived.Test.YtjjemkfkpnemoaaShL
import Derived.Test.YtjjemkfkpnemoaaAin
namespace Go.Proofs.Ytjjemkfkpnemoaa
open Go.RowKit

set_option maxRecDepth 100000 in
set_option maxHeartbeats 8000000 in
theorem law_sums (sa : Option Addr) (ln cp : Nat) (w : World) (h : Rd w (.loop (.label 4)) [.slice sa ln cp]) :
    Calls Try.prog 6 #[.slice sa ln cp] w fun e w' => e = .returned (.bool true) ∧ Below w.heap.size w w' := by
  obtain ⟨m, hv⟩ := SB_of_Rd h
  replace hv := Lib.hid hv
  clear h
  have hf : ([m] : List (List Nat)).flatten = m := by simp
  have hln := Lib.hid hv.out.1
  have lm := Lib.hid (sum_len m)
  have s2 := fun w1 v hv h => Lib.hid (shasum_any v 1 [m] h w1 hv)
  rw [hf] at s2
  have s3 := fun w1 hv h => Lib.hid (rsum_any (.slice sa ln cp) ln m h w1 hv)
  generalize sumN m = D at *
  have eD : ∀ w, (Op.equalIn 10000 42 (.agg (ivA .u8 D)) (.agg (ivA .u8 D))).run Try.prog w = .ok true w := fun w => by rw [eq20 D D lm.out lm.out]; simp
  clear lm hf
  go_enter Try.func6, Try.ntmps6
  go_wp2_with fail
  refine (shaalive_any w).mono ?_
  rintro e w1 ⟨rfl, hb1⟩
  have V1 := Lib.hid (hv.out.below hb1 (Nat.le_refl _))
  replace hb1 := Lib.hid hb1
  dsimp only
  by_cases h2 : 2000 < ln
  · have h3 : (2000 : Int) < ln := by omega
    go_wp2_with fail
    go_ret
    exact ⟨rfl, hb1.out⟩
  · have h3 : ¬ (2000 : Int) < ln := by omega
    go_wp2_with fail
    have hY := SM.one w1 _ _ _ V1.out
    have s4 := Lib.hid ((s2 _ _ hY (by rw [hln.out]; omega)).out)
    have hb2 := Lib.hid (hb1.out.alloc hb1.out.size (.cells #[.slice sa ln cp] 37))
    have V2 := Lib.hid (V1.out.alloc (.cells #[.slice sa ln cp] 37))
    clear hY s2
    refine s4.out.mono ?_
    rintro e w2 ⟨rfl, hb3⟩
    have hb4 := Lib.hid (hb2.out.trans (hb3.mono hb2.out.size))
    have V3 := Lib.hid (V2.out.below hb3 (Nat.le_refl _))
    clear hb3 hb2 hb1 s4 V1 V2
    dsimp only
    go_wp2_with fail
    refine ((s3 _ V3.out (by omega)).out).mono ?_
    rintro e w3 ⟨rfl, hb5⟩
    have hb6 := Lib.hid (hb4.out.trans (hb5.mono hb4.out.size))
    clear hb5 hb4 V3 s3
    dsimp only
    go_wp2_with fail
    go_ret
    exact ⟨rfl, hb6.out⟩

set_option maxRecDepth 100000 in
set_option maxHeartbeats 8000000 in
theorem law_none (sa : Option Addr) (ln cp : Nat) (w : World) (h : Rd w (.loop (.label 4)) [.slice sa ln cp]) :
    Calls Try.prog 8 #[.slice sa ln cp] w fun e w' => e = .returned (.bool true) ∧ Below w.heap.size w w' := by
  clear h
  have lm := Lib.hid (sum_len [])
  have s2 := fun w1 => Lib.hid (done_nil w1)
  have s3 := fun w1 => Lib.hid (rsum_any (.slice none 0 0) 0 [] (by decide) w1 (OB.nil w1 0 5).sb)
  generalize sumN [] = D at *
  have eD : ∀ w, (Op.equalIn 10000 42 (.agg (ivA .u8 D)) (.agg (ivA .u8 D))).run Try.prog w = .ok true w := fun w => by rw [eq20 D D lm.out lm.out]; simp
  clear lm
  go_enter Try.func8, Try.ntmps8
  go_wp2_with fail
  refine (shaalive_any w).mono ?_
  rintro e w1 ⟨rfl, hb1⟩
  replace hb1 := Lib.hid hb1
  dsimp only
  go_wp2_with fail
  refine (write_nil _ _).mono ?_
  rintro e w2 ⟨rfl, hb2⟩
  have hb3 := Lib.hid (hb1.out.trans (hb2.mono hb1.out.size))
  clear hb1 hb2
  dsimp only
  go_wp2_with fail
  refine ((s2 _).out).mono ?_
  rintro e w3 ⟨rfl, hb2⟩
  have hb4 := Lib.hid (hb3.out.trans (hb2.mono hb3.out.size))
  clear hb2 hb3
  dsimp only
  go_wp2_with fail
  refine ((s3 _).out).mono ?_
  rintro e w4 ⟨rfl, hb2⟩
  have hb5 := Lib.hid (hb4.out.trans (hb2.mono hb4.out.size))
  clear hb2 hb4
  dsimp only
  go_wp2_with fail
  refine (size_nil _).mono ?_
  rintro e w5 ⟨rfl, rfl⟩
  dsimp only
  go_wp2_with fail
  go_ret
  exact ⟨rfl, hb5.out⟩
end Go.Proofs.Ytjjemkfkpnemoaa
