/- slices.Sort and slices.Compact of no numbers. No condition. -/
import Derived.Test.YtafhnlnhflehhaaGreatDoorOfN
namespace Go.Proofs.YtafhnlnhflehhaaGreatDoor
open Go.RowKit
set_option maxRecDepth 100000 in
set_option maxHeartbeats 8000000 in
theorem isort0 (w : World) :
  Calls Tryz.prog 79 #[.slice none 0 0, .int .i64 0, .int .i64 0] w fun e w' => e = .returned (.tuple #[]) ∧ BW w w' := by
 go_enter Tryz.func79, Tryz.ntmps79
 go_upto_region 1 with (fail)
 go_loopg [6] 0 (fun m' v3 wx => m' = 0 ∧ v3 = .int .i64 1 ∧ wx = w)
 case atStart => exact ⟨rfl, rfl, rfl⟩
 case round =>
  obtain ⟨rfl, rfl, rfl⟩ := hrel
  go_wp2_with fail
  go_end0
  exact ⟨rfl, BW.refl _⟩
set_option maxRecDepth 100000 in
set_option maxHeartbeats 8000000 in
theorem pdq0 (k : Int) (w : World) :
  Calls Tryz.prog 64 #[.slice none 0 0, .int .i64 0, .int .i64 0, .int .i64 k] w fun e w' => e = .returned (.tuple #[]) ∧ BW w w' := by
 go_enter Tryz.func64, Tryz.ntmps64
 go_upto_region 2 with (fail)
 go_loopg [1, 2, 3, 8, 9] 0 (fun m' v1 v2 v3 v8 v9 wx => m' = 0 ∧ v1 = .int .i64 0 ∧ v2 = .int .i64 0 ∧ v3 = .int .i64 k ∧ v8 = .bool true ∧ v9 = .bool true ∧ wx = w)
 case atStart => exact ⟨rfl, rfl, rfl, rfl, rfl, rfl, rfl⟩
 case round =>
  obtain ⟨rfl, rfl, rfl, rfl, rfl, rfl, rfl⟩ := hrel
  go_wp2_with fail
  refine Calls.mono (isort0 _) ?_
  rintro e w1 ⟨rfl, hi⟩
  have Q1 := Lib.hid hi
  clear hi
  dsimp only
  go_wp2_with fail
  refine bodyPost_ret (results_none rfl _ _ _) rfl ?_
  exact ⟨rfl, Q1.out⟩
set_option maxRecDepth 100000 in
set_option maxHeartbeats 8000000 in
theorem comp0 (w : World) :
  Calls Tryz.prog 47 #[.slice none 0 0] w fun e w' => e = .returned (.slice none 0 0) ∧ BW w w' := by
 go_enter Tryz.func47, Tryz.ntmps47
 go_wp2_with fail
 go_ret
 exact ⟨rfl, BW.refl _⟩
set_option maxRecDepth 100000 in
set_option maxHeartbeats 8000000 in
theorem sort0 (w : World) :
  Calls Tryz.prog 46 #[.slice none 0 0] w fun e w' => e = .returned (.tuple #[]) ∧ BW w w' := by
 have hb : ∀ wx, Calls Tryz.prog 65 #[.int .u64 0] wx fun e w' => e = .returned (.int .i64 (Lib.bitLen 0 : Nat)) ∧ w' = wx := fun wx => by
  have h := Any.bits_Len laysLen 0 wx (by omega) (by omega)
  rwa [show (0 : Int).toNat = 0 from rfl] at h
 generalize Lib.bitLen 0 = k at *
 go_enter Tryz.func46, Tryz.ntmps46
 go_wp2_with fail
 refine Calls.mono (hb _) ?_
 rintro e w1 ⟨rfl, rfl⟩
 clear hb
 dsimp only
 go_wp2_with fail
 refine Calls.mono (pdq0 (k : Nat) _) ?_
 rintro e w2 ⟨rfl, hq⟩
 have HQ := Lib.hid hq
 clear hq
 dsimp only
 go_wp2_with fail
 go_end0
 exact ⟨rfl, HQ.out⟩
end Go.Proofs.YtafhnlnhflehhaaGreatDoor
