/- Frames: the document's example. No condition. -/
import Derived.Test.YtcempndfbckcaaaFrR
namespace Go.Proofs.Ytcempndfbckcaaa
open Go.RowKit

theorem key1 (w : World) (x : Nat) (hx : x < 256) : SB (w.alloc (.cells #[.int .u8 (x : Nat)] 5 (1, 2))) (.slice (some ⟨w.heap.size, 0, none⟩) 1 1) 1 [x] :=
  SB.mk' rfl (by intro y hy; simp at hy; omega) (Nat.le_refl _) (by decide) (by simp) fun j hj => by
    obtain rfl : j = 0 := by omega
    rw [hp_cell (hp_new _ _ _ rfl)]; rfl
set_option maxRecDepth 100000 in
set_option maxHeartbeats 8000000 in
theorem fr_alive (w : World) : Calls Try.prog 22 #[] w fun e w' => e = .returned (.bool true) ∧ BW w w' := by
  have kc := fun (w : World) (C : Array Value) (n c : Nat) => Lib.run_convert_bytes_const (P := Try.prog) w 36 5 C n c Try.underlying36 Try.underlying5
  have hXl : (frN [107] d0).length = 25 := frN_len _ _
  have hrd := rd_write d0_wf d0_may [107]
  have hro := d0_other2
  have B1 : Hid (BW w (w.alloc (.cells #[.int .i64 1, .int .i64 0, .int .u64 0, .int .i64 5, .int .i64 0, .int .i64 0, .int .i64 (-1), .slice none 0 0] 35))) := (BW.refl w).alloc
  have P1 := Lib.hid (HpB.new w (.cells #[.int .i64 1, .int .i64 0, .int .u64 0, .int .i64 5, .int .i64 0, .int .i64 0, .int .i64 (-1), .slice none 0 0] 35))
  replace hXl := Lib.hid hXl
  replace hrd := Lib.hid hrd
  replace hro := Lib.hid hro
  go_enter Try.func22, Try.ntmps22
  go_upto_region 2 with (fail)
  generalize w.alloc (.cells #[.int .i64 1, .int .i64 0, .int .u64 0, .int .i64 5, .int .i64 0, .int .i64 0, .int .i64 (-1), .slice none 0 0] 35) = w1 at *
  generalize w.heap.size = g at *
  have z0 := hp_cell (P1.out) 0
  have z1 := hp_cell (P1.out) 1
  have z2 := hp_cell (P1.out) 2
  have z3 := hp_cell (P1.out) 3
  have z4 := hp_cell (P1.out) 4
  have z5 := hp_cell (P1.out) 5
  have z6 := hp_cell (P1.out) 6
  have z7 := hp_cell (P1.out) 7
  simp only [List.getElem?_toArray, List.getElem?_cons_zero, List.getElem?_cons_succ] at z0 z1 z2 z3 z4 z5 z6 z7
  have K1 := key1 w1 107 (by decide)
  have BA : Hid (BW w1 (w1.alloc (.cells #[.int .u8 107] 5 (1, 2)))) := (BW.refl _).alloc
  have hV0 : ∀ wz, FrV wz #[.int .i64 1, .int .i64 0, .int .u64 0, .int .i64 5, .int .i64 0, .int .i64 0, .int .i64 (-1), .slice none 0 0] d0 := fun wz => ⟨_, rfl, (NO.nil wz 0 73 .u32).nb⟩
  have cW := Lib.hid (frWrite_any _ d0 _ 1 1 [107] _ (hV0 _) d0_wf K1 (by decide))
  unfold FrWPost at cW
  clear K1
  replace hV0 := Lib.hid hV0
  go_wp2_with fail
  refine Calls.mono cW.out ?_
  rintro e w2 ⟨hr, hb⟩
  have B2 := Lib.hid (B1.out.trans (BA.out.trans hb))
  have P2 := Lib.hid (P1.out.bw (BA.out.trans hb))
  clear z0 z1 z2 z3 z4 z5 z6 z7
  clear cW hb P1 B1 BA
  rcases hr with ⟨-, v, rfl, O2⟩ | ⟨hM, -⟩
  case inr => exact absurd (hM.symm.trans d0_may) (by decide)
  generalize frN [107] d0 = X at *
  rw [hXl.out] at O2
  obtain ⟨s2, c2, rfl, hc2, hm2⟩ := O2.len
  unfold maxLen at hm2
  have S2 := Lib.hid O2.sb
  clear O2
  dsimp only
  -- read with the key
  have K3 := key1 w2 107 (by decide)
  have BA : Hid (BW w2 (w2.alloc (.cells #[.int .u8 107] 5 (1, 2)))) := (BW.refl _).alloc
  have cR := Lib.hid (frRead_any s2 25 c2 X _ 1 1 [107] _ (S2.out.bw BA.out) K3 (by decide) (by decide))
  unfold FrRdPost at cR
  rw [hrd.out] at cR
  clear K3
  go_wp2_with fail
  refine Calls.mono cR.out ?_
  rintro e w3 ⟨c, rfl, V3, hb⟩
  obtain ⟨ss, cs, rfl, -, -, -⟩ := V3.open
  have B3 := Lib.hid (B2.out.trans (BA.out.trans hb))
  have P3 := Lib.hid (P2.out.bw (BA.out.trans hb))
  have S3 := Lib.hid (S2.out.bw (BA.out.trans hb))
  have V3' := Lib.hid V3
  clear cR hb V3 B2 P2 S2 BA
  simp only [frC, d0, List.length_nil] at V3' ⊢
  have BF : Hid (BW w3 (w3.alloc (.cells #[.int .i64 1, .int .i64 0, .int .u64 0, .int .i64 5, .int .i64 0, .int .i64 0, .int .i64 (-1), .slice ss 0 cs] 35))) := (BW.refl _).alloc
  have F4 := Lib.hid (HpB.new w3 (.cells #[.int .i64 1, .int .i64 0, .int .u64 0, .int .i64 5, .int .i64 0, .int .i64 0, .int .i64 (-1), .slice ss 0 cs] 35))
  go_upto_region 4 with (fail)
  generalize w3.alloc (.cells #[.int .i64 1, .int .i64 0, .int .u64 0, .int .i64 5, .int .i64 0, .int .i64 0, .int .i64 (-1), .slice ss 0 cs] 35) = w4 at *
  generalize w3.heap.size = g4 at *
  have B4 := Lib.hid (B3.out.trans BF.out)
  have P4 := Lib.hid (P3.out.bw BF.out)
  have S4 := Lib.hid (S3.out.bw BF.out)
  have V4 := Lib.hid (V3'.out.bw BF.out)
  clear B3 P3 S3 V3' BF
  have K5 := key1 w4 108 (by decide)
  have BA : Hid (BW w4 (w4.alloc (.cells #[.int .u8 108] 5 (1, 2)))) := (BW.refl _).alloc
  have cR := Lib.hid (frRead_any s2 25 c2 X _ 1 1 [108] _ (S4.out.bw BA.out) K5 (by decide) (by decide))
  unfold FrRdPost at cR
  clear K5
  go_wp2_with fail
  refine Calls.mono cR.out ?_
  rintro e w5 ⟨c, rfl, V5, hb⟩
  obtain ⟨st, ct, rfl, -, -, -⟩ := V5.open
  rw [hro.out]
  have B5 := Lib.hid (B4.out.trans (BA.out.trans hb))
  have P5 := Lib.hid (P4.out.bw (BA.out.trans hb))
  have F5 := Lib.hid (F4.out.bw (BA.out.trans hb))
  have V6 := Lib.hid (V4.out.bw (BA.out.trans hb))
  clear cR hb B4 P4 F4 V4 S4 BA V5
  generalize rdF [108] X = R at *
  obtain ⟨re, rk, rs, rn, rr, rt, ro, rl, rsr⟩ := R
  dsimp only at hro ⊢
  simp only [frC]
  generalize rsr.length = nr
  have BF : Hid (BW w5 (w5.alloc (.cells #[.int .i64 rk, .int .i64 rs, .int .u64 (rn : Nat), .int .i64 rr, .int .i64 rt, .int .i64 ro, .int .i64 rl, .slice st nr ct] 35))) := (BW.refl _).alloc
  go_upto_region 5 with (fail)
  generalize w5.alloc (.cells #[.int .i64 rk, .int .i64 rs, .int .u64 (rn : Nat), .int .i64 rr, .int .i64 rt, .int .i64 ro, .int .i64 rl, .slice st nr ct] 35) = w6 at *
  have B6 := Lib.hid (B5.out.trans BF.out)
  have P6 := Lib.hid (P5.out.bw BF.out)
  have F6 := Lib.hid (F5.out.bw BF.out)
  have cS := Lib.hid (frSame_true _ _ _ w6 (hV0.out w6) (V6.out.bw BF.out))
  clear B5 P5 F5 V6 BF hro
  have z0 := hp_cell (P6.out) 0
  have z1 := hp_cell (P6.out) 1
  have z2 := hp_cell (P6.out) 2
  have z3 := hp_cell (P6.out) 3
  have z4 := hp_cell (P6.out) 4
  have z5 := hp_cell (P6.out) 5
  have z6 := hp_cell (P6.out) 6
  have z7 := hp_cell (P6.out) 7
  simp only [List.getElem?_toArray, List.getElem?_cons_zero, List.getElem?_cons_succ] at z0 z1 z2 z3 z4 z5 z6 z7
  have y0 := hp_cell (F6.out) 0
  have y1 := hp_cell (F6.out) 1
  have y2 := hp_cell (F6.out) 2
  have y3 := hp_cell (F6.out) 3
  have y4 := hp_cell (F6.out) 4
  have y5 := hp_cell (F6.out) 5
  have y6 := hp_cell (F6.out) 6
  have y7 := hp_cell (F6.out) 7
  simp only [List.getElem?_toArray, List.getElem?_cons_zero, List.getElem?_cons_succ] at y0 y1 y2 y3 y4 y5 y6 y7
  go_wp2_with fail
  refine Calls.mono cS.out ?_
  rintro e w7 ⟨rfl, hb⟩
  have B7 := Lib.hid (B6.out.trans hb)
  clear z0 z1 z2 z3 z4 z5 z6 z7 y0 y1 y2 y3 y4 y5 y6 y7
  clear cS hb B6 P6 F6
  dsimp only
  go_wp2_with fail
  go_ret
  exact ⟨rfl, B7.out⟩
end Go.Proofs.Ytcempndfbckcaaa
