/- The document's example of packets of media. No condition. -/
import Derived.Test.YtgiajnfmjpdodaaRtG
namespace Go.Proofs.Ytgiajnfmjpdodaa
open Go.RowKit

def al0 : List Nat := zeros 12
def al1 : List Nat := ((al0.set 0 128).set 1 96).set 3 1
theorem al0_read : readN al0 = (3, 0, rZero) := by kernel_rfl
theorem al1_read : readN al1 = (0, 12, ⟨false, 96, 1, 0, 0, [], false, 0, [], [], 0⟩) := by kernel_rfl
theorem al_make (w : World) : (Instr.makeSlice 22 (.int .i64 12) (.int .i64 12)).run Try.prog w = .ok (.slice (some ⟨w.heap.size, 0, none⟩) 12 12) (w.alloc (.cells (ivA .u8 al0) 5)) := make_u8 12 (by decide) w

set_option maxRecDepth 100000 in
set_option maxHeartbeats 8000000 in
theorem rtp_alive (w : World) : Calls Try.prog 16 #[] w fun e w' => e = .returned (.bool true) ∧ BW w w' := by
  have hmk := al_make
  have c0 := fun wz (g : Nat) (h : AvB wz g 5 al0) => Lib.hid (Read_any (.slice (some ⟨g, 0, none⟩) 12 12) 12 al0 (by decide) wz (h.sb (by unfold ByL al0; decide) 12 rfl (by decide)))
  have c1 := fun wz (g : Nat) (h : AvB wz g 5 al1) => Lib.hid (Read_any (.slice (some ⟨g, 0, none⟩) 12 12) 12 al1 (by decide) wz (h.sb (by unfold ByL al1 al0; decide) 12 rfl (by decide)))
  rw [al0_read] at c0
  rw [al1_read] at c1
  have hA : AvB (w.alloc (.cells (ivA .u8 al0) 5)) w.heap.size 5 al0 := AvB.new _ _ _
  have hB : Hid (BW w (w.alloc (.cells (ivA .u8 al0) 5))) := (BW.refl w).alloc
  have d0 : al0.getD 0 0 = 0 := rfl
  have d1 : al0.getD 1 0 = 0 := rfl
  have d3 : al0.getD 3 0 = 0 := rfl
  have dl : al0.length = 12 := rfl
  have e1 : al1 = ((al0.set 0 128).set 1 96).set 3 1 := rfl
  replace hA := Lib.hid hA
  replace d0 := Lib.hid d0
  replace d1 := Lib.hid d1
  replace d3 := Lib.hid d3
  replace dl := Lib.hid dl
  replace e1 := Lib.hid e1
  generalize al1 = L1 at *
  generalize al0 = L0 at *
  go_enter Try.func16, Try.ntmps16
  go_upto_region 2 with (fail)
  clear hmk
  generalize w.alloc (.cells (ivA .u8 L0) 5) = w1 at *
  have hg : w.heap.size ≤ w.heap.size := Nat.le_refl _
  generalize hgg : w.heap.size = g at hA c0 c1 ⊢
  rw [hgg] at hg
  replace hg : w.heap.size ≤ g := by omega
  clear hgg
  go_wp2_with fail
  refine Calls.mono (c0 w1 g hA.out).out ?_
  rintro e w2 ⟨c, rfl, O, hb⟩
  obtain ⟨so_, co, se, ce, sp, cp, rfl, -, -, -⟩ := O.open
  simp only [rZero, rtpC, List.length_nil] at O ⊢
  clear O c0
  replace hB := Lib.hid (hB.out.trans hb)
  have A2 := hA.out.bw hb
  clear hb hA
  go_upto_region 3 with (fail)
  have B3 : Hid (BW w (w2.alloc (.cells #[.bool false, .int .u8 0, .int .u16 0, .int .u32 0, .int .u32 0, .slice so_ 0 co, .bool false, .int .u16 0, .slice se 0 ce, .slice sp 0 cp, .int .u8 0] 28))) := hB.out.alloc
  have A3 : AvB (w2.alloc (.cells #[.bool false, .int .u8 0, .int .u16 0, .int .u32 0, .int .u32 0, .slice so_ 0 co, .bool false, .int .u16 0, .slice se 0 ce, .slice sp 0 cp, .int .u8 0] 28)) g 5 L0 := A2.bw ((BW.refl _).alloc)
  generalize w2.alloc (.cells #[.bool false, .int .u8 0, .int .u16 0, .int .u32 0, .int .u32 0, .slice so_ 0 co, .bool false, .int .u16 0, .slice se 0 ce, .slice sp 0 cp, .int .u8 0] 28) = w3 at *
  clear A2 hB
  have x0 := A3.cell 0 (by rw [dl.out]; decide)
  have x1 := A3.cell 1 (by rw [dl.out]; decide)
  have x3 := A3.cell 3 (by rw [dl.out]; decide)
  rw [d0.out] at x0
  rw [d1.out] at x1
  rw [d3.out] at x3
  have y0 := A3.frz 0
  have y1 := A3.frz 1
  have y3 := A3.frz 3
  have A4 : AvB (((w3.setCell ⟨g, 0, none⟩ (.int .u8 128)).setCell ⟨g, 1, none⟩ (.int .u8 96)).setCell ⟨g, 3, none⟩ (.int .u8 1)) g 5 L1 := by
    rw [e1.out]; exact ((A3.set 0 128).set 1 96).set 3 1
  have B4 := Lib.hid (((B3.out.set hg (o := 0) (v := .int .u8 128)).set hg (o := 1) (v := .int .u8 96)).set hg (o := 3) (v := .int .u8 1))
  replace A4 := Lib.hid A4
  replace A3 := Lib.hid A3
  go_upto_region 6 with (fail)
  clear x0 x1 x3 y0 y1 y3 A3 B3
  generalize ((w3.setCell ⟨g, 0, none⟩ (.int .u8 128)).setCell ⟨g, 1, none⟩ (.int .u8 96)).setCell ⟨g, 3, none⟩ (.int .u8 1) = w4 at *
  go_wp2_with fail
  refine Calls.mono (c1 w4 g A4.out).out ?_
  rintro e w5 ⟨c, rfl, O, hb⟩
  obtain ⟨so2, co2, se2, ce2, sp2, cp2, rfl, -, -, -⟩ := O.open
  simp only [rtpC, List.length_nil] at O ⊢
  clear O c1
  have B5 := Lib.hid (B4.out.trans hb)
  clear hb A4 B4
  go_wp2_with fail
  go_ret
  exact ⟨rfl, B5.out.alloc⟩
end Go.Proofs.Ytgiajnfmjpdodaa
