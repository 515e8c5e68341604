/- Numbers written by their digits, of any size. No condition but the table's. -/
import Derived.Test.YtafhnlnhflehhaaGreatDoorOfX
import Derived.Lib.AppendIntMem
namespace Go.Proofs.YtafhnlnhflehhaaGreatDoor
open Go.RowKit Go.Shelf Go.Sort Go.Lib
abbrev PowTab (w : World) : Prop := Lib.TabIs Tryz.prog w "internal/strconv.uint64pow10" .u64 Lib.pow10Tab
theorem bw_grow (w : World) (k : Nat) (os : Array Obj) : BW w (grow (w.drewN k) os) :=
 BW.of (Lib.below_grow _ w (Nat.le_refl _) k os)
theorem PowTab.bw {w w' : World} (h : PowTab w) (hb : BW w w') : PowTab w' := Lib.tabBelow_of_tabIs h w' hb
set_option maxRecDepth 100000 in
set_option maxHeartbeats 8000000 in
theorem ifmt_big (u : Nat) (hu1 : 100 ≤ u) (hu : u < 1048576) (w : World) (htab : PowTab w) :
  Calls Tryz.prog 32 #[.int .u64 (u : Nat), .int .i64 10] w fun e w' => e = .returned (.string (bS (Lib.decDigits u))) ∧ BW w w' := by
 have d : decide ((u : Int) < 100) = false := decide_eq_false (by omega)
 have hu64 : u < 18446744073709551616 := by omega
 have hnd20 : Lib.nDigits u ≤ 20 := by have := Lib.numDigits_eq u (by omega) hu64; split at this <;> omega
 have hb3 : Lib.nDigits u ≤ 24 := by omega
 have hal : Tryz.prog.arrayLen 93 = 24 := by simp [Program.arrayLen, Tryz.underlying93]
 have hsl1 : ∀ W, (Instr.sliceAt 93 (.pointer (some ⟨w.heap.size, 0, none⟩)) none (some (.int .i64 (Lib.nDigits u : Int))) none).run Tryz.prog W = .ok (.slice (some ⟨w.heap.size, 0, none⟩) (Lib.nDigits u) 24) W := fun W => by
  rw [run_sliceAt_array_h W 93 ⟨w.heap.size, 0, none⟩ (by simp [Program.arrayLen, Program.elem, Tryz.underlying93]) .i64 (Lib.nDigits u : Int) (by omega) (by rw [hal]; omega)]
  go_simp
  try omega
 have hH0 := Lib.holds_zero0 w 93 (Lib.nDigits u) hb3
 have hfmt := Any.internal_strconv_formatBase10 laysF10 w.heap.size 0 24 u (Array.replicate (Lib.nDigits u) 0) (w.alloc (.cells Lib.zeros24 93)) hH0 (by rw [Array.size_replicate]; exact Lib.lt_pow_nDigits u) hu64 (by rw [Array.size_replicate]; omega)
 rw [Array.size_replicate] at hfmt
 have hdig := Any.internal_strconv_numDigits laysDig u (by omega) hu64 (w.alloc (.cells Lib.zeros24 93)) (Lib.tabIs_alloc htab _)
 have HH0 := Lib.hid hH0
 replace hfmt := Lib.hid hfmt
 replace hdig := Lib.hid hdig
 clear hH0 hal htab
 go_enter Tryz.func32, Tryz.ntmps32
 go_wp2_with fail
 refine Calls.mono hdig.out ?_
 rintro e w' ⟨rfl, rfl⟩
 clear hdig
 dsimp only
 go_wp2_with fail
 refine Calls.mono hfmt.out ?_
 rintro e w' ⟨rfl, k, v', dk, rfl, hF⟩
 clear hfmt
 have hcv : (convert 73 9 (.slice (some ⟨w.heap.size, 0, none⟩) (Lib.nDigits u) 24)).run Tryz.prog ((putRow (fun (b : UInt8) => Value.int .u8 (b.toNat : Int)) (w.alloc (.cells Lib.zeros24 93)) w.heap.size 0 dk).drewN k) = .ok (.string ⟨(Lib.decDigits u).toArray⟩) ((putRow (fun (b : UInt8) => Value.int .u8 (b.toNat : Int)) (w.alloc (.cells Lib.zeros24 93)) w.heap.size 0 dk).drewN k) := by
  have h := run_convert_bytes_back (P := Tryz.prog) ((putRow (fun (b : UInt8) => Value.int .u8 (b.toNat : Int)) (w.alloc (.cells Lib.zeros24 93)) w.heap.size 0 dk).drewN k) 73 9 5 ⟨w.heap.size, 0, none⟩ 24 (Lib.decDigits u) Tryz.underlying73 Tryz.underlying5 Tryz.underlying9 (fun j hj => by
   rw [Lib.row_is_numeral hF j hj, Lib.add_plain, World.cell?_drewN]
   exact cell?_putRow (fun (b : UInt8) => Value.int .u8 (b.toNat : Int)) _ w.heap.size 0 _ dk HH0.out (by rw [hF.size, Array.size_replicate]) j (by rw [hF.size]; rw [Lib.decDigits_length] at hj; exact hj))
  rw [Lib.decDigits_length] at h
  exact h
 have fin := Lib.hid (Lib.fin_at w (.cells Lib.zeros24 93) dk k 0)
 clear HH0 hF
 dsimp only
 go_wp2_with fail
 go_ret
 obtain ⟨os, eo⟩ := fin.out
 refine ⟨rfl, ?_⟩
 rw [eo]
 exact bw_grow _ _ _
set_option maxRecDepth 100000 in
set_option maxHeartbeats 8000000 in
theorem fmt_any (u : Nat) (hu : u < 1048576) (w : World) (htab : PowTab w) :
  Calls Tryz.prog 15 #[.int .u64 (u : Nat), .int .i64 10] w fun e w' => e = .returned (.string (bS (Lib.decDigits u))) ∧ BW w w' := by
 have cS : Calls Tryz.prog 32 #[.int .u64 (u : Nat), .int .i64 10] w fun e w' => e = .returned (.string (bS (Lib.decDigits u))) ∧ BW w w' := by
  by_cases h : u < 100
  ·exact (ifmt_small u h w).mono fun e w' h => ⟨h.1, by rw [h.2]; exact BW.refl _⟩
  ·exact ifmt_big u (by omega) hu w htab
 replace cS := Lib.hid cS
 generalize bS (Lib.decDigits u) = L at cS ⊢
 go_enter Tryz.func15, Tryz.ntmps15
 go_wp2_with fail
 refine Calls.mono cS.out ?_
 rintro e w1 ⟨rfl, hb⟩
 clear cS
 dsimp only
 go_wp2_with fail
 go_ret
 exact ⟨rfl, hb⟩
theorem numC_big (w : World) (h : PowTab w) : NumC w 1048576 where
 itoa := fun y hy n hn => (Any.strconv_Itoa { laysItoa with } (n : Int) (by omega) (by omega) y (h.bw hy)).mono fun e w' ⟨h1, k, os, h2⟩ => ⟨by rw [h1, Lib.itoa_nonneg]; rfl, by rw [h2]; exact bw_grow _ _ _⟩
 fmt := fun y hy n hn => fmt_any n hn y (h.bw hy)
end Go.Proofs.YtafhnlnhflehhaaGreatDoor
