/- alive: the document's example. No condition. -/
import Derived.Test.YtebeifkgjhgmeaaRnI
namespace Go.Proofs.Ytebeifkgjhgmeaa
open Go.RowKit
def seatL (v : Value) : List Value := [.int .u8 0, .int .u8 0, .int .u8 0, .int .u8 0, .int .u8 0, .int .u8 0, .int .u8 0, .int .u8 0, .int .u8 0, .int .u8 0, .int .u8 0, .int .u8 0, .int .u8 0, .int .u8 0, .int .u8 0, .int .u8 0, .int .u8 0, .int .u8 0, .int .u8 0, .int .u8 0, .int .u8 0, .int .u8 0, .int .u8 0, .int .u8 0, .int .u8 0, .int .u8 0, .int .u8 0, .int .u8 0, .int .u8 0, .int .u8 0, .slice none 0 0, v, .int .u64 0, .int .u64 0]
def mA : Mem := ⟨1, trk0, trk0, [], 1⟩
def mB : Mem := ⟨1, ⟨true, 0, [0]⟩, trk0, [], 2⟩
theorem seats3 (w : World) (g gs : Nat) (hg : HpB w g (.cells (seatL (.slice none 0 0) ++ seatL (.slice (some ⟨gs, 0, none⟩) 1 1) ++ seatL (.slice none 0 0)).toArray 61)) (hs : SQ EU4 w 0 (.slice (some ⟨gs, 0, none⟩) 1 1) 1 [5]) : SeatsV w (some ⟨g, 0, none⟩) [[], [5], []] := by
 have h0 : SQ EU4 w 0 (.slice none 0 0) 0 [] := (EQ.nil EU4 48 w 0).sq
 refine ⟨fun i hi => ?_⟩
 have : i = 0 ∨ i = 1 ∨ i = 2 := by
  have : ([[], [5], []] : List (List Nat)).length = 3 := rfl
  omega
 rcases this with rfl | rfl | rfl
 ·exact ⟨g, 0, none, 0, (seatL (.slice none 0 0)).toArray, rfl, rfl, by kernel_rfl, hg.range 0 _ rfl, rfl, h0⟩
 ·exact ⟨g, 0, some ⟨gs, 0, none⟩, 1, (seatL (.slice (some ⟨gs, 0, none⟩) 1 1)).toArray, rfl, rfl, by kernel_rfl, hg.range 34 _ rfl, rfl, hs⟩
 ·exact ⟨g, 0, none, 0, (seatL (.slice none 0 0)).toArray, rfl, rfl, by kernel_rfl, hg.range 68 _ rfl, rfl, h0⟩
theorem sq5 (w : World) : SQ EU4 (w.alloc (.cells #[.int .u32 5] 48)) 0 (.slice (some ⟨w.heap.size, 0, none⟩) 1 1) 1 [5] := ⟨rfl, [.int .u32 5], Sls.new1 (E := EU4) w 48 [.int .u32 5] rfl, EL.single rfl⟩
set_option maxRecDepth 100000 in
set_option maxHeartbeats 8000000 in
theorem room_alive (w : World) : Calls Try.prog 5 #[] w fun e w' => e = .returned (.bool true) ∧ BW w w' := by
 go_enter Try.func5, Try.ntmps5
 go_wp2_with fail
 generalize hw2 : (w.alloc _).alloc _ = w2
 have B2 : BW w w2 := by rw [← hw2]; exact ((BW.refl w).alloc).alloc
 have hse : SeatsV w2 (some ⟨w.heap.size + 1, 0, none⟩) [[], [5], []] := by
  refine seats3 w2 _ w.heap.size ?_ ?_
  ·rw [← hw2]
   have h := heap_alloc_new (w.alloc (.cells #[.int .u32 5] 48)) (.cells (seatL (.slice none 0 0) ++ seatL (.slice (some ⟨w.heap.size, 0, none⟩) 1 1) ++ seatL (.slice none 0 0)).toArray 61)
   simp only [World.size_alloc] at h
   exact h
  ·rw [← hw2]
   exact (sq5 w).bw ((BW.refl _).alloc)
 clear hw2
 have hsz2 := B2.size
 have cN := Lib.hid (hs_new (some ⟨w.heap.size + 1, 0, none⟩) 3 3 [[], [5], []] rfl (by decide) (by decide) (by decide) w2 hse)
 refine Calls.mono cN.out ?_
 rintro e w3 ⟨gh, T3, rfl, H3, hb⟩
 replace B2 := B2.trans hb
 have H3 : HS w3 w2.heap.size gh [[], [5], []] [mem0, mem0, mem0] T3 := H3
 replace H3 := Lib.hid H3
 have hw2 : Hid (w.heap.size ≤ w2.heap.size) := Lib.hid hsz2
 replace B2 := Lib.hid B2
 clear cN hse hb
 dsimp only
 go_wp2_with fail
 have cD := Lib.hid (hs_do w2.heap.size gh [[], [5], []] [mem0, mem0, mem0] T3 1 1 1 0 0 0 1 (by decide) none 0 0 [] w3 H3.out (EQ.nil EU4 48 _ 0).sq (by decide) (by decide) (fun h => by cases h))
 go_wp2_with fail
 refine Calls.mono cD.out ?_
 rintro e w4 ⟨H', T4, cd, v, sc, nc, cc, rfl, -, -, hX, H4, hT⟩
 have hX := hX 1 _ (by decide) rfl rfl (by decide) (by decide) (by decide) (by decide)
 obtain ⟨rfl, rfl⟩ := hX.1 rfl (by decide)
 have H4 : HS w4 w2.heap.size gh [[], [5], []] [mem0, mA, mem0] T4 := H4
 replace B2 := Lib.hid (BW.stP B2.out hT (fun g hg => Nat.le_trans hw2.out (H3.out.ht g hg).1))
 replace H4 := Lib.hid H4
 clear cD hT hX H3
 dsimp only
 have cD := Lib.hid (hs_do w2.heap.size gh [[], [5], []] [mem0, mA, mem0] T4 1 2 1 0 0 0 1 (by decide) none 0 0 [] w4 H4.out (EQ.nil EU4 48 _ 0).sq (by decide) (by decide) (fun h => by cases h))
 go_wp2_with fail
 refine Calls.mono cD.out ?_
 rintro e w5 ⟨H', T5, cd, v, sc, nc, cc, rfl, -, -, hX, H5, hT⟩
 have hX := hX 2 _ (by decide) rfl rfl (by decide) (by decide) (by decide) (by decide)
 obtain ⟨rfl, rfl⟩ := hX.1 rfl (by decide)
 have H5 : HS w5 w2.heap.size gh [[], [5], []] [mem0, mA, mA] T5 := H5
 replace B2 := Lib.hid (BW.stP B2.out hT (fun g hg => Nat.le_trans hw2.out (H4.out.ht g hg).1))
 replace H5 := Lib.hid H5
 clear cD hT hX H4
 dsimp only
 have BA : BW w5 (w5.alloc (.cells #[.int .u32 5] 48)) := (BW.refl w5).alloc
 have H5b := Lib.hid (H5.out.bw BA)
 replace B2 := Lib.hid (B2.out.trans BA)
 have cD := Lib.hid (hs_do w2.heap.size gh [[], [5], []] [mem0, mA, mA] T5 3 1 0 0 0 0 2 (by decide) (some ⟨w5.heap.size, 0, none⟩) 1 1 [5] _ H5b.out (sq5 w5) (by decide) (by decide) (fun _ g hg hm => by
  cases hg
  exact Nat.lt_irrefl _ (H5.out.ht _ hm).2))
 clear BA
 go_wp2_with fail
 refine Calls.mono cD.out ?_
 rintro e w6 ⟨H', T6, cd, v, sc, nc, cc, rfl, -, -, hX, H6, hT⟩
 have hX := hX 1 _ (by decide) rfl rfl (by decide) (by decide) (by decide) (by decide)
 obtain ⟨rfl, rfl, rfl⟩ := hX.2.1 rfl (by decide) (by decide) (by decide) (by decide)
 have H6 : HS w6 w2.heap.size gh [[], [5], []] [mem0, mB, mA] T6 := H6
 replace B2 := Lib.hid (BW.stP B2.out hT (fun g hg => Nat.le_trans hw2.out (H5b.out.ht g hg).1))
 replace H6 := Lib.hid H6
 clear cD hT hX H5 H5b
 have BA : BW w6 (w6.alloc (.cells #[.int .u64 2, .int .i64 0, .int .i64 1] 36)) := (BW.refl w6).alloc
 have R7 := Lib.hid (HpB.new w6 (.cells #[.int .u64 2, .int .i64 0, .int .i64 1] 36))
 have hR7 : Hid (w6.heap.size ∉ T6) := Lib.hid (fun hm => Nat.lt_irrefl _ (H6.out.ht _ hm).2)
 replace H6 := Lib.hid (H6.out.bw BA)
 replace B2 := Lib.hid (B2.out.trans BA)
 clear BA
 dsimp only
 unfold repA
 go_upto_region 7 with (fail)
 generalize w6.alloc _ = w7 at *
 generalize w6.heap.size = gr at *
 have cD := Lib.hid (hs_do w2.heap.size gh [[], [5], []] [mem0, mB, mA] T6 5 2 0 0 1 0 2 (by decide) none 0 0 [] w7 H6.out (EQ.nil EU4 48 _ 0).sq (by decide) (by decide) (fun h => by cases h))
 go_wp2_with fail
 refine Calls.mono cD.out ?_
 rintro e w8 ⟨H', T8, cd, v, sc, nc, cc, rfl, -, -, hX, H8, hT⟩
 have hX := hX 2 _ (by decide) rfl rfl (by decide) (by decide) (by decide) (by decide)
 obtain ⟨rfl, rfl⟩ := hX.2.2 rfl ⟨1, 0, rfl, rfl, .inl rfl, by decide, mB, rfl, rfl, rfl⟩ rfl
 replace B2 := Lib.hid (BW.stP B2.out hT (fun g hg => Nat.le_trans hw2.out (H6.out.ht g hg).1))
 replace R7 := Lib.hid (R7.out.st hT hR7.out)
 clear cD hT hX H6 hR7 H8
 have BA : BW w8 (w8.alloc (.cells #[.int .u64 2, .int .i64 0, .int .i64 32] 36)) := (BW.refl w8).alloc
 have R9 := Lib.hid (HpB.new w8 (.cells #[.int .u64 2, .int .i64 0, .int .i64 32] 36))
 replace R7 := Lib.hid (R7.out.bw BA)
 replace B2 := Lib.hid (B2.out.trans BA)
 clear BA
 dsimp only
 unfold repA
 go_upto_region 8 with (fail)
 generalize w8.alloc _ = w9 at *
 generalize w8.heap.size = gq at *
 have z0 := hp_cell (R7.out) 0
 have z1 := hp_cell (R7.out) 1
 have z2 := hp_cell (R7.out) 2
 simp only [List.getElem?_toArray, List.getElem?_cons_zero, List.getElem?_cons_succ] at z0 z1 z2
 have y0 := hp_cell (R9.out) 0
 have y1 := hp_cell (R9.out) 1
 have y2 := hp_cell (R9.out) 2
 simp only [List.getElem?_toArray, List.getElem?_cons_zero, List.getElem?_cons_succ] at y0 y1 y2
 go_wp2_with fail
 go_ret
 exact ⟨rfl, B2.out⟩
end Go.Proofs.Ytebeifkgjhgmeaa
