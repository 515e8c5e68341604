/- Offers: the example of the layer. No condition. -/
import Derived.Test.YtafhnlnhflehhaaGreatDoorOfY
namespace Go.Proofs.YtafhnlnhflehhaaGreatDoor
open Go.RowKit
def dEx : OffD := ⟨3, [⟨0, 1, [1, 2]⟩], [⟨1, 0, -1⟩]⟩
theorem dEx_may : MayO dEx := by
 refine ⟨by unfold Sm; decide, ⟨fun i hi => ?_, by decide, by decide, by decide⟩, fun i hi => ?_, by decide⟩
 ·have hi' : i < 1 := hi
  obtain rfl : i = 0 := by omega
  exact ⟨by unfold Sm; decide, by decide, fun h => absurd h (by decide), by decide⟩
 ·have hi' : i < 1 := hi
  obtain rfl : i = 0 := by omega
  exact ⟨by unfold Sm; decide, by unfold Sm; decide, by decide, by decide, fun k hk => absurd hk (Nat.not_lt_zero _)⟩
theorem dEx_num : NumB dEx 100 where
 bd := by decide
 seat := by decide
 wt := fun i hi => by
  have hi' : i < 1 := hi
  obtain rfl : i = 0 := by omega
  decide
 ws := fun i hi => by
  have hi' : i < 1 := hi
  obtain rfl : i = 0 := by omega
  decide
 ho := fun i hi => by
  have hi' : i < 1 := hi
  obtain rfl : i = 0 := by omega
  decide
 ht := fun i hi => by
  have hi' : i < 1 := hi
  obtain rfl : i = 0 := by omega
  decide
 hl := fun i hi => by
  have hi' : i < 1 := hi
  obtain rfl : i = 0 := by omega
  decide
theorem dd_one {n : Nat} (h : n < 10) : Lib.decDigits n = [UInt8.ofNat (48 + n)] := by rw [Lib.decDigits, dif_pos h]
theorem dEx_text : offT dEx = [111, 102, 102, 101, 114, 32, 51, 10, 116, 114, 97, 99, 107, 32, 48, 32, 118, 112, 56, 32, 49, 44, 50, 10, 104, 101, 97, 114, 32, 49, 32, 48, 32, 45, 10] := by
 have e0 : dT 0 = [48] := dd_one (by decide)
 have e1 : dT 1 = [49] := dd_one (by decide)
 have e3 : dT 3 = [51] := dd_one (by decide)
 have es : srcT [1, 2] = [49, 44, 50] := by
  unfold srcT
  rw [List.map_cons, List.map_cons, List.map_nil, dd_one (by decide), dd_one (by decide)]
  rfl
 unfold offT dEx seatT
 simp only [List.flatMap_cons, List.flatMap_nil, List.append_nil, wishT, hearT, layT, e0, e1, e3, es]
 rfl
theorem dEx_off (w : World) : OffV (((w.alloc (.cells #[.int .u32 1, .int .u32 2] 38)).alloc (.cells #[.int .i64 0, .int .i64 1, .slice (some ⟨w.heap.size, 0, none⟩) 2 2] 41)).alloc (.cells #[.int .i64 1, .int .i64 0, .int .i64 (-1)] 43)) #[.int .i64 3, .slice (some ⟨w.heap.size + 1, 0, none⟩) 1 1, .slice (some ⟨w.heap.size + 2, 0, none⟩) 1 1] dEx (some ⟨w.heap.size + 1, 0, none⟩) 1 (some ⟨w.heap.size + 2, 0, none⟩) 1 := by
 have s1 : SQ EU4 (w.alloc (.cells #[.int .u32 1, .int .u32 2] 38)) 0 (.slice (some ⟨w.heap.size, 0, none⟩) 2 2) 2 [1, 2] :=
  ⟨rfl, [.int .u32 1, .int .u32 2], Sls.newN (E := EU4) w 38 2 [.int .u32 1, .int .u32 2] rfl (by decide) (by decide), (EL.single (E := EU4) (a := 1) (c := [.int .u32 1]) rfl).append (EL.single (E := EU4) (a := 2) (c := [.int .u32 2]) rfl)⟩
 generalize hw1 : w.alloc (.cells #[.int .u32 1, .int .u32 2] 38) = w1 at *
 have z1 : w1.heap.size = w.heap.size + 1 := by rw [← hw1]; simp
 have b2 := (BW.refl w1).alloc (o := .cells #[.int .i64 0, .int .i64 1, .slice (some ⟨w.heap.size, 0, none⟩) 2 2] 41)
 have s2 : SQ EWi (w1.alloc (.cells #[.int .i64 0, .int .i64 1, .slice (some ⟨w.heap.size, 0, none⟩) 2 2] 41)) 0 (.slice (some ⟨w1.heap.size, 0, none⟩) 1 1) 1 [⟨0, 1, [1, 2]⟩] :=
  ⟨rfl, [.int .i64 0, .int .i64 1, .slice (some ⟨w.heap.size, 0, none⟩) 2 2], Sls.new1 (E := EWi) w1 41 [.int .i64 0, .int .i64 1, .slice (some ⟨w.heap.size, 0, none⟩) 2 2] rfl, EL.single (E := EWi) ⟨rfl, _, 2, 2, rfl, s1.bw b2⟩⟩
 rw [z1] at s2
 generalize hw2 : w1.alloc (.cells #[.int .i64 0, .int .i64 1, .slice (some ⟨w.heap.size, 0, none⟩) 2 2] 41) = w2 at *
 have z2 : w2.heap.size = w.heap.size + 2 := by rw [← hw2]; simp; omega
 have b3 := (BW.refl w2).alloc (o := .cells #[.int .i64 1, .int .i64 0, .int .i64 (-1)] 43)
 have s3 : SQ EHe (w2.alloc (.cells #[.int .i64 1, .int .i64 0, .int .i64 (-1)] 43)) 0 (.slice (some ⟨w2.heap.size, 0, none⟩) 1 1) 1 [⟨1, 0, -1⟩] :=
  ⟨rfl, [.int .i64 1, .int .i64 0, .int .i64 (-1)], Sls.new1 (E := EHe) w2 43 [.int .i64 1, .int .i64 0, .int .i64 (-1)] rfl, EL.single (E := EHe) rfl⟩
 rw [z2] at s3
 exact ⟨rfl, s2.bw b3, s3⟩
set_option maxRecDepth 100000 in
set_option maxHeartbeats 8000000 in
theorem alive48 (w : World) :
  Calls Tryz.prog 5 #[] w fun e w' => e = .returned (.bool true) ∧ BW w w' := by
 have B := (((BW.refl w).alloc (o := .cells #[.int .u32 1, .int .u32 2] 38)).alloc (o := .cells #[.int .i64 0, .int .i64 1, .slice (some ⟨w.heap.size, 0, none⟩) 2 2] 41)).alloc (o := .cells #[.int .i64 1, .int .i64 0, .int .i64 (-1)] 43)
 have cW := write_any _ dEx _ _ _ _ 100 _ (dEx_off w) (by decide) (fun i hi => by
  have hi' : i < 1 := hi
  obtain rfl : i = 0 := by omega
  decide) (by decide) (numC_small _) (fun _ => dEx_num)
 replace B := Lib.hid B
 replace cW := Lib.hid cW
 go_enter Tryz.func5, Tryz.ntmps5
 go_wp2_with fail
 refine Calls.mono cW.out ?_
 rintro e w2 ⟨hr, hb⟩
 replace B := Lib.hid (B.out.trans hb)
 clear hb cW
 obtain ⟨-, S, hS, -, rfl⟩ | ⟨hn, -⟩ := hr
 ·obtain rfl : S = bS [111, 102, 102, 101, 114, 32, 51, 10, 116, 114, 97, 99, 107, 32, 48, 32, 118, 112, 56, 32, 49, 44, 50, 10, 104, 101, 97, 114, 32, 49, 32, 48, 32, 45, 10] := ba_ext (by rw [hS, dEx_text, bS_list])
  clear hS
  unfold bS
  dsimp only
  go_wp2_with fail
  go_ret
  exact ⟨rfl, B.out⟩
 ·exact absurd dEx_may hn
end Go.Proofs.YtafhnlnhflehhaaGreatDoor
