/- slices.Sort of numbers of 32 bits: the row stays a row; up to twelve numbers: sorted, and the same numbers (printed by wip/gen/genOfM.py). No condition but the sizes'. -/
import Derived.Test.YtafhnlnhflehhaaGreatDoorOfL
namespace Go.Proofs.YtafhnlnhflehhaaGreatDoor
open Go.Shelf Go.RowKit
set_option maxRecDepth 100000 in
set_option maxHeartbeats 8000000 in
theorem pdq12_any (base g o n cap a b lim : Nat) (L : List Nat) (hab : a ≤ b) (hb12 : b ≤ a + 12) (hbn : b ≤ n) (hn : n ≤ 1000000) (w : World) (h : EQ EU4 38 w base (.slice (some ⟨g, o, none⟩) n cap) n L) :
  Calls Tryz.prog 64 #[.slice (some ⟨g, o, none⟩) n cap, .int .i64 (a : Nat), .int .i64 (b : Nat), .int .i64 (lim : Nat)] w fun e w' => e = .returned (.tuple #[]) ∧ IsR w' base g o n cap a b L ∧ Still [g] w w' := by
 have Q := Lib.hid h
 clear h
 obtain ⟨l, hl⟩ : ∃ l, b - a = l := ⟨_, rfl⟩
 have el : (b : Int) - (a : Int) = (l : Int) := by omega
 have d : decide ((l : Int) ≤ 12) = true := by simp; omega
 go_enter Tryz.func64, Tryz.ntmps64
 go_upto_region 2 with (fail)
 go_loopg [1, 2, 3, 8, 9] 0 (fun m' v1 v2 v3 v8 v9 wx => m' = 0 ∧ v1 = .int .i64 (a : Nat) ∧ v2 = .int .i64 (b : Nat) ∧ v3 = .int .i64 (lim : Nat) ∧ v8 = .bool true ∧ v9 = .bool true ∧ wx = w)
 case atStart => exact ⟨rfl, rfl, rfl, rfl, rfl, rfl, rfl⟩
 case round =>
  obtain ⟨rfl, rfl, rfl, rfl, rfl, rfl, rfl⟩ := hrel
  go_wp2_with fail
  refine Calls.mono (isort_any base g o n cap a b L hab hbn hn _ Q.out) ?_
  rintro e w1 ⟨rfl, hi, ht⟩
  have Q1 := Lib.hid hi
  have T := Lib.hid ht
  clear hi ht Q
  dsimp only
  go_wp2_with fail
  refine bodyPost_ret (results_none rfl _ _ _) rfl ?_
  exact ⟨rfl, Q1.out, T.out⟩
set_option maxRecDepth 100000 in
set_option maxHeartbeats 8000000 in
theorem sort_any (base g o n cap : Nat) (hn : n ≤ 1000000) (w : World) (h : SR w base g o n cap) :
  Calls Tryz.prog 46 #[.slice (some ⟨g, o, none⟩) n cap] w fun e w' => e = .returned (.tuple #[]) ∧ SR w' base g o n cap ∧ Still [g] w w' := by
 obtain ⟨k, hk⟩ : ∃ k, Lib.bitLen n = k := ⟨_, rfl⟩
 have hk2 : k ≤ 62 := by rw [← hk]; exact Lib.bitLen_le n 62 (by omega) (by omega)
 have hb : ∀ wx, Calls Tryz.prog 65 #[.int .u64 (n : Nat)] wx fun e w' => e = .returned (.int .i64 (k : Nat)) ∧ w' = wx := fun wx => by
  have h := Any.bits_Len laysLen (n : Int) wx (by omega) (by omega)
  rwa [Int.toNat_natCast, hk] at h
 have H := Lib.hid h
 clear h
 go_enter Tryz.func46, Tryz.ntmps46
 go_wp2_with fail
 refine Calls.mono (hb _) ?_
 rintro e w1 ⟨rfl, rfl⟩
 clear hb
 dsimp only
 go_wp2_with fail
 refine Calls.mono (pdq_any base g o n cap hn n 0 n k (by omega) (by omega) (by omega) (by omega) _ H.out) ?_
 rintro e w2 ⟨rfl, hq, ht⟩
 have HQ := Lib.hid hq
 have HT := Lib.hid ht
 clear hq ht H
 dsimp only
 go_wp2_with fail
 go_end0
 exact ⟨rfl, HQ.out, HT.out⟩
set_option maxRecDepth 100000 in
set_option maxHeartbeats 8000000 in
theorem sort12_any (base g o n cap : Nat) (L : List Nat) (hn : n ≤ 12) (w : World) (h : EQ EU4 38 w base (.slice (some ⟨g, o, none⟩) n cap) n L) :
  Calls Tryz.prog 46 #[.slice (some ⟨g, o, none⟩) n cap] w fun e w' => e = .returned (.tuple #[]) ∧ IsR w' base g o n cap 0 n L ∧ Still [g] w w' := by
 obtain ⟨k, hk⟩ : ∃ k, Lib.bitLen n = k := ⟨_, rfl⟩
 have hk2 : k ≤ 62 := by rw [← hk]; exact Lib.bitLen_le n 62 (by omega) (by omega)
 have hb : ∀ wx, Calls Tryz.prog 65 #[.int .u64 (n : Nat)] wx fun e w' => e = .returned (.int .i64 (k : Nat)) ∧ w' = wx := fun wx => by
  have h := Any.bits_Len laysLen (n : Int) wx (by omega) (by omega)
  rwa [Int.toNat_natCast, hk] at h
 have H := Lib.hid h
 clear h
 go_enter Tryz.func46, Tryz.ntmps46
 go_wp2_with fail
 refine Calls.mono (hb _) ?_
 rintro e w1 ⟨rfl, rfl⟩
 clear hb
 dsimp only
 go_wp2_with fail
 refine Calls.mono (pdq12_any base g o n cap 0 n k L (by omega) (by omega) (by omega) (by omega) _ H.out) ?_
 rintro e w2 ⟨rfl, hq, ht⟩
 have HQ := Lib.hid hq
 have HT := Lib.hid ht
 clear hq ht H
 dsimp only
 go_wp2_with fail
 go_end0
 exact ⟨rfl, HQ.out, HT.out⟩
end Go.Proofs.YtafhnlnhflehhaaGreatDoor
