/- srtp: Open. No condition but the sizes'. -/
import Derived.Test.YtikmhlbpefednaaGreatGS2
import Derived.Test.YtikmhlbpefednaaGreatSrF
import Derived.Test.YtikmhlbpefednaaGreatGRc
import Derived.Test.YtikmhlbpefednaaGreatGPr
namespace Go.Proofs.YtikmhlbpefednaaGreat
open Go.RowKit
theorem fresh_in {lim : Int} {used : Nat} {M : List (Nat × Nat × Nat)} {src seq : Nat} (h : (freshE lim used M src seq).2 = 0) :
  0 ≤ (freshE lim used M src seq).1 ∧ (freshE lim used M src seq).1 < 281474976710656 ∧ wFresh (getW M src).1 (getW M src).2 (freshE lim used M src seq).1 = true := by
 unfold freshE at h ⊢
 by_cases h1 : lim ≤ (used : Int)
 ·rw [if_pos h1] at h; cases h
 rw [if_neg h1] at h ⊢
 by_cases h2 : hasW M src = false ∧ 8 ≤ M.length
 ·rw [if_pos h2] at h; cases h
 rw [if_neg h2] at h ⊢
 by_cases h3 : 281474976710656 ≤ idxN ((getW M src).1 - 1) seq
 ·rw [if_pos h3] at h; cases h
 rw [if_neg h3] at h ⊢
 by_cases h4 : wFresh (getW M src).1 (getW M src).2 (idxN ((getW M src).1 - 1) seq) = false
 ·rw [if_pos h4] at h; cases h
 rw [if_neg h4] at h ⊢
 dsimp only at h ⊢
 have h5 : wFresh (getW M src).1 (getW M src).2 (idxN ((getW M src).1 - 1) seq) = true := by simpa using h4
 refine ⟨?_, by omega, h5⟩
 unfold wFresh at h5
 simp only [Bool.and_eq_true, decide_eq_true_eq] at h5
 exact h5.1
theorem peek_in {b : List Nat} (h : (peekN b).2.2 = 0) :
  22 ≤ b.length ∧ b.length ≤ 1200 ∧ (hdrN (b.take (b.length - 10))).2 = true ∧ peekN b = (nm b 8 4, nm b 2 2, 0) := by
 revert h
 unfold peekN
 by_cases h1 : 1200 < b.length
 ·rw [if_pos h1]; intro h; cases h
 rw [if_neg h1]
 by_cases h2 : b.length < 22
 ·rw [if_pos h2]; intro h; cases h
 rw [if_neg h2]
 by_cases h3 : b.getD 0 0 / 64 ≠ 2
 ·rw [if_pos h3]; intro h; cases h
 rw [if_neg h3]
 by_cases h4 : (hdrN (b.take (b.length - 10))).2 = false
 ·rw [if_pos h4]; intro h; cases h
 rw [if_neg h4]
 intro _
 exact ⟨by omega, by omega, by simpa using h4, rfl⟩
def openN (K : List Nat) (lim : Int) (used : Nat) (M : List (Nat × Nat × Nat)) (b : List Nat) : (Nat × Int × RtpD) × Nat × List (Nat × Nat × Nat) :=
 if (peekN b).2.2 ≠ 0 then (((peekN b).2.2, 0, rZero), used, M)
 else if (freshE lim used M (peekN b).1 (peekN b).2.1).2 ≠ 0 then (((freshE lim used M (peekN b).1 (peekN b).2.1).2, 0, rZero), used, M)
 else if b.drop (b.length - 10) ≠ tagN K (b.take (b.length - 10)) (freshE lim used M (peekN b).1 (peekN b).2.1).1.toNat then ((4, 0, rZero), used, M)
 else (if (readN (spinN K (hdrN (b.take (b.length - 10))).1 (peekN b).1 (freshE lim used M (peekN b).1 (peekN b).2.1).1.toNat (b.take (b.length - 10)))).1 ≠ 0 then (3, 0, rZero)
   else (0, (freshE lim used M (peekN b).1 (peekN b).2.1).1, (readN (spinN K (hdrN (b.take (b.length - 10))).1 (peekN b).1 (freshE lim used M (peekN b).1 (peekN b).2.1).1.toNat (b.take (b.length - 10)))).2.2),
  used + 1, setW M (peekN b).1 (wMark (getW M (peekN b).1).1 (getW M (peekN b).1).2 (freshE lim used M (peekN b).1 (peekN b).2.1).1.toNat))
structure OpenPost (g : Nat) (K : List Nat) (lim : Int) (gm : Nat) (R : (Nat × Int × RtpD) × Nat × List (Nat × Nat × Nat)) (w : World) (e : Ending) (w' : World) : Prop where
 ret : ∃ c, e = .returned (.tuple #[.agg c, .int .i64 R.1.2.1, .int .i64 (R.1.1 : Nat)]) ∧ RtpO w' w.heap.size c R.1.2.2
 way : WayV w' g K lim R.2.1 gm R.2.2
 st : Still [g, gm] w w'
set_option maxRecDepth 100000 in
set_option maxHeartbeats 8000000 in
theorem open_ok (g : Nat) (K : List Nat) (lim : Int) (used gm : Nat) (M : List (Nat × Nat × Nat)) (sb : Option Addr) (n cb : Nat) (b : List Nat) (hM : MOk M) (hn : n ≤ 1000000) (hu : used ≤ 1000000) (w : World) (hW : WayV w g K lim used gm M) (hv : SB w (.slice sb n cb) n b) (hvo : ∀ k, (Value.slice sb n cb).ownBlock = some k → k ≠ g ∧ k ≠ gm) :
  Calls Tryz.prog 12 #[.pointer (some ⟨g, 0, none⟩), .slice sb n cb] w (OpenPost g K lim gm (openN K lim used M b) w) := by
 obtain ⟨_, _, he, hcb, hmb⟩ := hv.len
 cases he
 unfold maxLen at hmb
 have hbl : b.length = n := hv.1
 have hnm := nm_lt b hv.2.1
 have hWW := Lib.hid hW
 have hVV := Lib.hid hv
 have hg := Lib.hid hW.hp.lt
 have hgm := Lib.hid hW.mp.lt
 have hMM := Lib.hid hM
 have hown : Hid (∀ k, (Value.slice sb (n - 10) cb).ownBlock = some k → 0 < n → k ≠ g ∧ k ≠ gm ∧ k < w.heap.size) := fun k hk h0 => by
  have hk' : (Value.slice sb n cb).ownBlock = some k := by
   revert hk
   cases sb <;> simp [Value.ownBlock]
  exact ⟨(hvo k hk').1, (hvo k hk').2, hv.own_lt h0 k hk'⟩
 have cP := fun wz (h : BW w wz) => Lib.hid (peek_ok sb n cb b hn wz (hv.bw h))
 have hO : openN K lim used M b = openN K lim used M b := rfl
 conv at hO => rhs; unfold openN
 replace hO := Lib.hid hO
 generalize openN K lim used M b = R at *
 have BA : BW w (w.alloc (.cells #[.bool false, .int .u8 0, .int .u16 0, .int .u32 0, .int .u32 0, .slice none 0 0, .bool false, .int .u16 0, .slice none 0 0, .slice none 0 0, .int .u8 0] 37)) := (BW.refl w).alloc
 have Z : Hid (PkV (w.alloc (.cells #[.bool false, .int .u8 0, .int .u16 0, .int .u32 0, .int .u32 0, .slice none 0 0, .bool false, .int .u16 0, .slice none 0 0, .slice none 0 0, .int .u8 0] 37)) w.heap.size zC) := HpB.new w _
 have B := Lib.hid BA
 have hpi := fun h => @peek_in b h
 generalize hP : peekN b = P at *
 obtain ⟨src, sq, pe⟩ := P
 dsimp only at hO hpi cP ⊢
 clear hP hW hv hM hvo
 replace BA := Lib.hid BA
 replace hpi := Lib.hid hpi
 replace hnm := Lib.hid hnm
 replace hbl := Lib.hid hbl
 go_enter Tryz.func12, Tryz.ntmps12
 go_upto_region 1 with (fail)
 generalize (w.alloc _) = w1 at *
 generalize hg0 : w.heap.size = g0 at *
 replace hg0 := Lib.hid hg0
 clear BA
 go_wp2_with fail
 refine Calls.mono (cP w1 B.out).out ?_
 rintro e w' ⟨rfl, rfl⟩
 dsimp only
 clear cP
 by_cases hp : pe = 0
 rotate_left
 ·have d1 : ((pe : Int) != 0) = true := by simpa using hp
  have hR := hO.out
  rw [if_pos hp] at hR
  subst hR
  have Wz := Lib.hid (hWW.out.bw B.out)
  have Sz := Lib.hid (B.out.still [g, gm])
  clear B hp hO
  generalize w1 = wz at *
  have z0 := hp_cell (Z.out) 0
  have y0 := hp_frz (Z.out) 0
  have z1 := hp_cell (Z.out) 1
  have y1 := hp_frz (Z.out) 1
  have z2 := hp_cell (Z.out) 2
  have y2 := hp_frz (Z.out) 2
  have z3 := hp_cell (Z.out) 3
  have y3 := hp_frz (Z.out) 3
  have z4 := hp_cell (Z.out) 4
  have y4 := hp_frz (Z.out) 4
  have z5 := hp_cell (Z.out) 5
  have y5 := hp_frz (Z.out) 5
  have z6 := hp_cell (Z.out) 6
  have y6 := hp_frz (Z.out) 6
  have z7 := hp_cell (Z.out) 7
  have y7 := hp_frz (Z.out) 7
  have z8 := hp_cell (Z.out) 8
  have y8 := hp_frz (Z.out) 8
  have z9 := hp_cell (Z.out) 9
  have y9 := hp_frz (Z.out) 9
  have z10 := hp_cell (Z.out) 10
  have y10 := hp_frz (Z.out) 10
  simp only [zC, rtpC, List.getElem?_toArray, List.getElem?_cons_zero, List.getElem?_cons_succ] at z0 z1 z2 z3 z4 z5 z6 z7 z8 z9 z10
  go_wp2_with fail
  clear z0 z1 z2 z3 z4 z5 z6 z7 z8 z9 z10 y0 y1 y2 y3 y4 y5 y6 y7 y8 y9 y10
  have TS := still_set11 wz g0 (.bool false) (.int .u8 0) (.int .u16 0) (.int .u32 0) (.int .u32 0) (.slice none 0 0) (.bool false) (.int .u16 0) (.slice none 0 0) (.slice none 0 0) (.int .u8 0)
  have Z4 := Z.out.set11 rfl (.bool false) (.int .u8 0) (.int .u16 0) (.int .u32 0) (.int .u32 0) (.slice none 0 0) (.bool false) (.int .u16 0) (.slice none 0 0) (.slice none 0 0) (.int .u8 0)
  have W4 := Wz.out.still TS (by have := hg.out; have := hg0.out; simp; omega) (by have := hgm.out; have := hg0.out; simp; omega)
  have S4 := Sz.out.own2 TS (fun k hk => .inr (by have := hg0.out; obtain rfl : k = g0 := (by simpa using hk); omega))
  have z0 := hp_cell (Z4) 0
  have z1 := hp_cell (Z4) 1
  have z2 := hp_cell (Z4) 2
  have z3 := hp_cell (Z4) 3
  have z4 := hp_cell (Z4) 4
  have z5 := hp_cell (Z4) 5
  have z6 := hp_cell (Z4) 6
  have z7 := hp_cell (Z4) 7
  have z8 := hp_cell (Z4) 8
  have z9 := hp_cell (Z4) 9
  have z10 := hp_cell (Z4) 10
  simp only [List.getElem?_toArray, List.getElem?_cons_zero, List.getElem?_cons_succ] at z0 z1 z2 z3 z4 z5 z6 z7 z8 z9 z10
  replace Z4 := Lib.hid Z4
  replace TS := Lib.hid TS
  replace W4 := Lib.hid W4
  replace S4 := Lib.hid S4
  refine bodyPost_ret (v := .tuple #[.agg zC, .int .i64 0, .int .i64 (_ : Nat)]) ?_ rfl ⟨⟨zC, rfl, RtpO.zero _ _⟩, W4.out, S4.out⟩
  simp [results, Tryz.results12, go_sem, z0, z1, z2, z3, z4, z5, z6, z7, z8, z9, z10, zC, rtpC]
 have d1 : ((pe : Int) != 0) = false := by simpa using hp
 have hO1 := hO.out
 rw [if_neg (by omega)] at hO1
 obtain ⟨h22, h1200, hhd, hpe⟩ := hpi.out hp
 injection hpe with es e2
 injection e2 with eq _
 have hsrc : src < 4294967296 := by have := hnm.out 8 4; rw [es]; exact this
 have hsq : sq < 65536 := by have := hnm.out 2 2; rw [eq]; exact this
 rw [hbl.out] at h22 h1200 hhd hO1
 clear es eq hO hpi hp hnm
 have cF := fun wz (h : BW w wz) => Lib.hid (fresh_ok g K lim used gm M src sq hMM.out hsrc hsq wz (hWW.out.bw h))
 have hfi := @fresh_in lim used M src sq
 have hgb := Lib.hid (getW_b hMM.out src)
 generalize freshE lim used M src sq = F at *
 generalize getW M src = vb at *
 obtain ⟨ix, fe⟩ := F
 obtain ⟨nx, bs⟩ := vb
 dsimp only at hfi hO1 cF hgb
 replace hfi := Lib.hid hfi
 replace hO1 := Lib.hid hO1
 go_upto_region 4 with (fail)
 clear d1
 go_wp2_with fail
 refine Calls.mono (cF w1 B.out).out ?_
 rintro e w2 ⟨rfl, hb⟩
 replace Z := Lib.hid (Z.out.bw hb)
 replace B := Lib.hid (B.out.trans hb)
 clear cF hb
 dsimp only
 have BC : BW w2 (w2.alloc (.cells #[.int .i64 (nx : Nat), .int .u64 (bs : Nat)] 93)) := (BW.refl w2).alloc
 have Y := Lib.hid (show WinV _ w2.heap.size nx bs from HpB.new w2 (.cells #[.int .i64 (nx : Nat), .int .u64 (bs : Nat)] 93))
 have h02 := Lib.hid Z.out.lt
 replace Z := Lib.hid (Z.out.bw BC)
 have hB2 := Lib.hid B.out.size
 replace B := Lib.hid (B.out.trans BC)
 clear BC
 go_upto_region 5 with (fail)
 generalize (w2.alloc _) = w3 at *
 generalize w2.heap.size = g2 at *
 by_cases hf : fe = 0
 rotate_left
 ·have d1 : ((fe : Int) != 0) = true := by simpa using hf
  have hR := hO1.out
  rw [if_pos hf] at hR
  subst hR
  have Wz := Lib.hid (hWW.out.bw B.out)
  have Sz := Lib.hid (B.out.still [g, gm])
  clear B hf hO1
  generalize w3 = wz at *
  have z0 := hp_cell (Z.out) 0
  have y0 := hp_frz (Z.out) 0
  have z1 := hp_cell (Z.out) 1
  have y1 := hp_frz (Z.out) 1
  have z2 := hp_cell (Z.out) 2
  have y2 := hp_frz (Z.out) 2
  have z3 := hp_cell (Z.out) 3
  have y3 := hp_frz (Z.out) 3
  have z4 := hp_cell (Z.out) 4
  have y4 := hp_frz (Z.out) 4
  have z5 := hp_cell (Z.out) 5
  have y5 := hp_frz (Z.out) 5
  have z6 := hp_cell (Z.out) 6
  have y6 := hp_frz (Z.out) 6
  have z7 := hp_cell (Z.out) 7
  have y7 := hp_frz (Z.out) 7
  have z8 := hp_cell (Z.out) 8
  have y8 := hp_frz (Z.out) 8
  have z9 := hp_cell (Z.out) 9
  have y9 := hp_frz (Z.out) 9
  have z10 := hp_cell (Z.out) 10
  have y10 := hp_frz (Z.out) 10
  simp only [zC, rtpC, List.getElem?_toArray, List.getElem?_cons_zero, List.getElem?_cons_succ] at z0 z1 z2 z3 z4 z5 z6 z7 z8 z9 z10
  go_wp2_with fail
  clear z0 z1 z2 z3 z4 z5 z6 z7 z8 z9 z10 y0 y1 y2 y3 y4 y5 y6 y7 y8 y9 y10
  have TS := still_set11 wz g0 (.bool false) (.int .u8 0) (.int .u16 0) (.int .u32 0) (.int .u32 0) (.slice none 0 0) (.bool false) (.int .u16 0) (.slice none 0 0) (.slice none 0 0) (.int .u8 0)
  have Z4 := Z.out.set11 rfl (.bool false) (.int .u8 0) (.int .u16 0) (.int .u32 0) (.int .u32 0) (.slice none 0 0) (.bool false) (.int .u16 0) (.slice none 0 0) (.slice none 0 0) (.int .u8 0)
  have W4 := Wz.out.still TS (by have := hg.out; have := hg0.out; simp; omega) (by have := hgm.out; have := hg0.out; simp; omega)
  have S4 := Sz.out.own2 TS (fun k hk => .inr (by have := hg0.out; obtain rfl : k = g0 := (by simpa using hk); omega))
  have z0 := hp_cell (Z4) 0
  have z1 := hp_cell (Z4) 1
  have z2 := hp_cell (Z4) 2
  have z3 := hp_cell (Z4) 3
  have z4 := hp_cell (Z4) 4
  have z5 := hp_cell (Z4) 5
  have z6 := hp_cell (Z4) 6
  have z7 := hp_cell (Z4) 7
  have z8 := hp_cell (Z4) 8
  have z9 := hp_cell (Z4) 9
  have z10 := hp_cell (Z4) 10
  simp only [List.getElem?_toArray, List.getElem?_cons_zero, List.getElem?_cons_succ] at z0 z1 z2 z3 z4 z5 z6 z7 z8 z9 z10
  replace Z4 := Lib.hid Z4
  replace TS := Lib.hid TS
  replace W4 := Lib.hid W4
  replace S4 := Lib.hid S4
  refine bodyPost_ret (v := .tuple #[.agg zC, .int .i64 0, .int .i64 (_ : Nat)]) ?_ rfl ⟨⟨zC, rfl, RtpO.zero _ _⟩, W4.out, S4.out⟩
  simp [results, Tryz.results12, go_sem, z0, z1, z2, z3, z4, z5, z6, z7, z8, z9, z10, zC, rtpC]
 have d1 : ((fe : Int) != 0) = false := by simpa using hf
 have hO2 := hO1.out
 rw [if_neg (by omega)] at hO2
 obtain ⟨h0i, hi48, hfr⟩ := hfi.out hf
 obtain ⟨ii, rfl⟩ : ∃ ii : Nat, ix = (ii : Nat) := ⟨ix.toNat, by omega⟩
 rw [Int.toNat_natCast] at hO2
 clear hfi hO1 hf
 replace hO2 := Lib.hid hO2
 replace hfr := Lib.hid hfr
 go_upto_region 7 with (fail)
 clear d1
 refine wp_region_gg [] [] [] (by kernel_rfl) ?_
 refine hoist [] [] (a1 := ?_) 0 rfl (by kernel_rfl) (.inl ⟨rfl, rfl⟩) rfl rfl rfl (fun x K hK => ?_) ?_
 rotate_left
 ·go_big_quiet_op
  exact hK
 refine hoist [] [] (a1 := ?_) 1 rfl (by kernel_rfl) (.inl ⟨rfl, rfl⟩) rfl rfl rfl (fun x K hK => ?_) ?_
 rotate_left
 ·go_big_quiet_op
  exact hK
 refine hoist [] [] (a1 := ?_) 2 rfl (by kernel_rfl) (.inl ⟨rfl, rfl⟩) rfl rfl rfl (fun x K hK => ?_) ?_
 rotate_left
 ·go_big_quiet_op
  exact hK
 refine hoist [] [] (a1 := ?_) 3 rfl (by kernel_rfl) (.inl ⟨rfl, rfl⟩) rfl rfl rfl (fun x K hK => ?_) ?_
 rotate_left
 ·go_big_quiet_op
  exact hK
 refine hoist [] [] (a1 := ?_) 4 rfl (by kernel_rfl) (.inl ⟨rfl, rfl⟩) rfl rfl rfl (fun x K hK => ?_) ?_
 rotate_left
 ·refine qlCutH (hi := n - 10) rfl (by rfl) (by rfl) (by omega) (by omega) (by simp only [Act.put, List.setIfInBounds_toArray, List.set_cons_succ, List.set_cons_zero]; rfl) ?_
  exact hK
 refine hoist [] [] (a1 := ?_) 5 rfl (by kernel_rfl) (.inl ⟨rfl, rfl⟩) rfl rfl rfl (fun x K hK => ?_) ?_
 rotate_left
 ·go_big_quiet_op
  exact hK
 refine hoist [] [] (a1 := ?_) 6 rfl (by kernel_rfl) (.inl ⟨rfl, rfl⟩) rfl rfl rfl (fun x K hK => ?_) ?_
 rotate_left
 ·go_big_quiet_op
  exact hK
 refine hoist [] [] (a1 := ?_) 7 rfl (by kernel_rfl) (.inl ⟨rfl, rfl⟩) rfl rfl rfl (fun x K hK => ?_) ?_
 rotate_left
 ·go_big_quiet_op
  exact hK
 refine hoist [] [] (a1 := ?_) 8 rfl (by kernel_rfl) (.inl ⟨rfl, rfl⟩) rfl rfl rfl (fun x K hK => ?_) ?_
 rotate_left
 ·go_big_quiet_op
  exact hK
 refine hoist [] [] (a1 := ?_) 9 rfl (by kernel_rfl) (.inl ⟨rfl, rfl⟩) rfl rfl rfl (fun x K hK => ?_) ?_
 rotate_left
 ·refine qlCutL (lo := n - 10) rfl (by rfl) (by rfl) (by omega) (by omega) (by simp only [Act.put, List.setIfInBounds_toArray, List.set_cons_succ, List.set_cons_zero]; rfl) ?_
  exact hK
 refine hoist [] [] (a1 := ?_) 10 rfl (by kernel_rfl) (.inl ⟨rfl, rfl⟩) rfl rfl rfl (fun x K hK => ?_) ?_
 rotate_left
 ·go_big_quiet_op
  exact hK
 refine hoist [] [] (a1 := ?_) 11 rfl (by kernel_rfl) (.inl ⟨rfl, rfl⟩) rfl rfl rfl (fun x K hK => ?_) ?_
 rotate_left
 ·go_big_quiet_op
  exact hK
 refine done (by kernel_rfl) (fun xr => ?_)
 replace Z := Lib.hid (Z.out.bw xr.bw)
 replace Y := Lib.hid (show WinV _ g2 nx bs from HpB.bw Y.out xr.bw)
 replace B := Lib.hid (B.out.trans xr.bw)
 generalize xr.now = w4 at *
 have V1 := Lib.hid ((hVV.out.bw B.out).takeW (n - 10) (by omega))
 have V2 := Lib.hid ((hVV.out.bw B.out).dropW (n - 10) (by omega))
 clear hVV
 have hl1 : (b.take (n - 10)).length = n - 10 := by rw [List.length_take, hbl.out]; omega
 generalize b.take (n - 10) = b1 at *
 generalize b.drop (n - 10) = b2 at *
 replace hl1 := Lib.hid hl1
 have ct := Lib.hid (waytag_ok g K lim used gm M sb (n - 10) cb b1 ii (by omega) (by omega) w4 (hWW.out.bw B.out) V1.out)
 generalize tagN K b1 ii = tg at *
 go_upto_region 8 with (fail)
 go_wp2_with fail
 refine Calls.mono ct.out ?_
 rintro e w5 ⟨s5, c5, rfl, O5, hb⟩
 obtain ⟨_, _, he, hc5, hm5⟩ := O5.len
 cases he
 unfold maxLen at hm5
 have cs := Lib.hid (same_ok _ _ _ _ _ _ w5 (V2.out.bw hb) O5.sb)
 replace Z := Lib.hid (Z.out.bw hb)
 replace Y := Lib.hid (show WinV _ g2 nx bs from HpB.bw Y.out hb)
 replace V1 := Lib.hid (V1.out.bw hb)
 replace B := Lib.hid (B.out.trans hb)
 clear hb O5 V2 ct
 dsimp only
 go_wp2_with fail
 refine Calls.mono cs.out ?_
 rintro e w6 ⟨rfl, hb⟩
 replace hb : BW w5 w6 := BW.of hb
 replace Z := Lib.hid (Z.out.bw hb)
 replace Y := Lib.hid (show WinV _ g2 nx bs from HpB.bw Y.out hb)
 replace V1 := Lib.hid (V1.out.bw hb)
 replace B := Lib.hid (B.out.trans hb)
 clear hb cs
 dsimp only
 by_cases ht : b2 = tg
 rotate_left
 ·rw [decide_eq_false ht]
  have hR := hO2.out
  rw [if_pos ht] at hR
  subst hR
  have Wz := Lib.hid (hWW.out.bw B.out)
  have Sz := Lib.hid (B.out.still [g, gm])
  clear B ht hO2
  generalize w6 = wz at *
  have z0 := hp_cell (Z.out) 0
  have y0 := hp_frz (Z.out) 0
  have z1 := hp_cell (Z.out) 1
  have y1 := hp_frz (Z.out) 1
  have z2 := hp_cell (Z.out) 2
  have y2 := hp_frz (Z.out) 2
  have z3 := hp_cell (Z.out) 3
  have y3 := hp_frz (Z.out) 3
  have z4 := hp_cell (Z.out) 4
  have y4 := hp_frz (Z.out) 4
  have z5 := hp_cell (Z.out) 5
  have y5 := hp_frz (Z.out) 5
  have z6 := hp_cell (Z.out) 6
  have y6 := hp_frz (Z.out) 6
  have z7 := hp_cell (Z.out) 7
  have y7 := hp_frz (Z.out) 7
  have z8 := hp_cell (Z.out) 8
  have y8 := hp_frz (Z.out) 8
  have z9 := hp_cell (Z.out) 9
  have y9 := hp_frz (Z.out) 9
  have z10 := hp_cell (Z.out) 10
  have y10 := hp_frz (Z.out) 10
  simp only [zC, rtpC, List.getElem?_toArray, List.getElem?_cons_zero, List.getElem?_cons_succ] at z0 z1 z2 z3 z4 z5 z6 z7 z8 z9 z10
  go_wp2_with fail
  clear z0 z1 z2 z3 z4 z5 z6 z7 z8 z9 z10 y0 y1 y2 y3 y4 y5 y6 y7 y8 y9 y10
  have TS := still_set11 wz g0 (.bool false) (.int .u8 0) (.int .u16 0) (.int .u32 0) (.int .u32 0) (.slice none 0 0) (.bool false) (.int .u16 0) (.slice none 0 0) (.slice none 0 0) (.int .u8 0)
  have Z4 := Z.out.set11 rfl (.bool false) (.int .u8 0) (.int .u16 0) (.int .u32 0) (.int .u32 0) (.slice none 0 0) (.bool false) (.int .u16 0) (.slice none 0 0) (.slice none 0 0) (.int .u8 0)
  have W4 := Wz.out.still TS (by have := hg.out; have := hg0.out; simp; omega) (by have := hgm.out; have := hg0.out; simp; omega)
  have S4 := Sz.out.own2 TS (fun k hk => .inr (by have := hg0.out; obtain rfl : k = g0 := (by simpa using hk); omega))
  have z0 := hp_cell (Z4) 0
  have z1 := hp_cell (Z4) 1
  have z2 := hp_cell (Z4) 2
  have z3 := hp_cell (Z4) 3
  have z4 := hp_cell (Z4) 4
  have z5 := hp_cell (Z4) 5
  have z6 := hp_cell (Z4) 6
  have z7 := hp_cell (Z4) 7
  have z8 := hp_cell (Z4) 8
  have z9 := hp_cell (Z4) 9
  have z10 := hp_cell (Z4) 10
  simp only [List.getElem?_toArray, List.getElem?_cons_zero, List.getElem?_cons_succ] at z0 z1 z2 z3 z4 z5 z6 z7 z8 z9 z10
  replace Z4 := Lib.hid Z4
  replace TS := Lib.hid TS
  replace W4 := Lib.hid W4
  replace S4 := Lib.hid S4
  refine bodyPost_ret (v := .tuple #[.agg zC, .int .i64 0, .int .i64 (_ : Nat)]) ?_ rfl ⟨⟨zC, rfl, RtpO.zero _ _⟩, W4.out, S4.out⟩
  simp [results, Tryz.results12, go_sem, z0, z1, z2, z3, z4, z5, z6, z7, z8, z9, z10, zC, rtpC]
 rw [decide_eq_true ht]
 have hO3 := hO2.out
 rw [if_neg (fun h => h ht)] at hO3
 clear ht hO2
 replace hO3 := Lib.hid hO3
 have W6 := Lib.hid (hWW.out.bw B.out)
 have S6 := Lib.hid (B.out.still [g, gm])
 have cm := Lib.hid (mark_ok g2 nx bs ii (by have := hgb.out; omega) hgb.out.2 (by omega) hfr.out w6 Y.out)
 have hml := Lib.hid (wMark_lt nx bs ii hgb.out.2 hfr.out)
 have hm1 : Hid ((wMark nx bs ii).1 ≤ 281474976710657) := by
  have := hgb.out
  unfold wMark
  split
  ·exact Lib.hid this.1
  ·exact Lib.hid (by dsimp only; omega)
 generalize hmk : wMark nx bs ii = mk at *
 obtain ⟨nx', bs'⟩ := mk
 dsimp only at hml hm1 cm
 clear hmk
 go_upto_region 10 with (fail)
 go_wp2_with fail
 refine Calls.mono cm.out ?_
 rintro e w7 ⟨rfl, Y7, hs⟩
 dsimp only
 have W7 := Lib.hid (W6.out.still hs (by have := hg.out; have := hB2.out; have := hg0.out; simp; omega) (by have := hgm.out; have := hB2.out; have := hg0.out; simp; omega))
 have S7 := Lib.hid (S6.out.own2 hs (fun k hk => .inr (by obtain rfl : k = g2 := (by simpa using hk); have := hB2.out; have := hg0.out; omega)))
 replace V1 := Lib.hid (V1.out.still hs (fun k hk hm => by obtain rfl : k = g2 := (by simpa using hm); have := hown.out k hk (by omega); have := hB2.out; have := hg0.out; omega))
 replace Y := Lib.hid Y7
 replace Z := Lib.hid (Z.out.still hs (by have := h02.out; simp; omega))
 have hsz7 := Lib.hid (Nat.le_trans B.out.size hs.size)
 have l0 : ∀ y : LaterS [] w7, y.now.cell? _ = _ := fun y => y.bw.cell W7.out.map
 have l1 : ∀ y : LaterS [] w7, y.now.cell? _ = _ := fun y => y.bw.cell ((hp_cell Y.out 0).trans (show _ = some (.int .i64 (nx' : Nat)) from rfl))
 have l2 : ∀ y : LaterS [] w7, y.now.cell? _ = _ := fun y => y.bw.cell ((hp_cell Y.out 1).trans (show _ = some (.int .u64 (bs' : Nat)) from rfl))
 clear S6 W6 cm hs Y7 B hgb hfr
 go_upto_region 11 with (fail)
 refine wp_region_gg [] [] [6] (by kernel_rfl) ?_
 refine hoist [] [] (a1 := ?_) 0 rfl (by kernel_rfl) (.inl ⟨rfl, rfl⟩) rfl rfl rfl (fun x K hK => ?_) ?_
 rotate_left
 ·go_big_quiet_op
  exact hK
 refine hoist [] [] (a1 := ?_) 1 rfl (by kernel_rfl) (.inl ⟨rfl, rfl⟩) rfl rfl rfl (fun x K hK => ?_) ?_
 rotate_left
 ·go_big_quiet_op
  exact hK
 refine hoist [] [] (a1 := ?_) 2 rfl (by kernel_rfl) (.inl ⟨rfl, rfl⟩) rfl rfl rfl (fun x K hK => ?_) ?_
 rotate_left
 ·go_big_quiet_op
  exact hK
 refine hoist [] [] (a1 := ?_) 3 rfl (by kernel_rfl) (.inl ⟨rfl, rfl⟩) rfl rfl rfl (fun x K hK => ?_) ?_
 rotate_left
 ·go_big_quiet_op
  exact hK
 refine hoist [] [] (a1 := ?_) 4 rfl (by kernel_rfl) (.inl ⟨rfl, rfl⟩) rfl rfl rfl (fun x K hK => ?_) ?_
 rotate_left
 ·go_big_quiet_op
  exact hK
 refine hoist [] [] (a1 := ?_) 5 rfl (by kernel_rfl) (.inl ⟨rfl, rfl⟩) rfl rfl rfl (fun x K hK => ?_) ?_
 rotate_left
 ·go_big_quiet_op
  exact hK
 refine tail 6 rfl (by kernel_rfl) rfl (fun xr => ?_)
 simp only [List.drop_succ_cons, List.drop_zero]
 have W8 := W7.out.bw xr.bw
 replace Z := Lib.hid (Z.out.bw xr.bw)
 have S8 := Lib.hid (S7.out.bw' xr.bw)
 replace V1 := Lib.hid (V1.out.bw xr.bw)
 replace hsz7 := Lib.hid (Nat.le_trans hsz7.out xr.bw.size)
 obtain ⟨w9, hrun, hmp, hst⟩ := upd_w W8.mp hMM.out src hsrc (nx', bs')
 dsimp only at hrun
 clear l0 l1 l2 W7 S7 Y
 generalize xr.now = w8 at *
 have W9 : Hid (WayV w9 g K lim used gm (setW M src (nx', bs'))) := ⟨W8.hp.st hst (by simpa using W8.ne), W8.len, W8.byt, hmp⟩
 have S9 := Lib.hid (S8.out.own2 hst (fun k hk => .inl (by obtain rfl : k = gm := (by simpa using hk); simp)))
 replace Z := Lib.hid (Z.out.still hst (by have := hgm.out; simp; omega))
 replace V1 := Lib.hid (V1.out.still hst (fun k hk hm => by obtain rfl : k = gm := (by simpa using hm); have := hown.out k hk (by omega); omega))
 replace hsz7 := Lib.hid (Nat.le_trans hsz7.out hst.size)
 generalize setW M src (nx', bs') = M' at *
 clear W8 S8 hmp hst
 go_upto_region 12 with (fail)
 clear hrun
 have z5 := W9.out.used
 have f5 := hp_frz W9.out.hp 51
 have W10 := Lib.hid W9.out.use
 have T10 := still_sc w9 g 51 (.int .i64 ((used + 1 : Nat) : Int))
 have S10 := Lib.hid (S9.out.trans (T10.weaken (by simp)))
 replace Z := Lib.hid (Z.out.still T10 (by have := hg.out; simp; omega))
 replace V1 := Lib.hid (V1.out.still T10 (fun k hk hm => by obtain rfl : k = g := (by simpa using hm); have := hown.out k hk (by omega); omega))
 replace hsz7 := Lib.hid (Nat.le_trans hsz7.out T10.size)
 clear W9 S9 T10
 push_cast at W10 S10 Z V1 hsz7
 go_upto_region 13 with (fail)
 clear z5 f5
 generalize (w9.setCell _ _) = w10 at *
 obtain ⟨hN, hh⟩ : ∃ hN, hdrN b1 = (hN, true) := ⟨(hdrN b1).1, by rw [← hhd]⟩
 have hge := hdrN_ge b1 hhd
 have ch := header_ok _ (n - 10) b1 (by omega) (by omega) w10 V1.out
 rw [hh] at ch hge
 have hO4 := hO3.out
 rw [hh] at hO4
 dsimp only at hO4 hge
 rw [hl1.out] at hge
 clear hO3 hh hhd
 have cu := Lib.hid (wayturn_ok g K lim (used + 1) gm M' sb (n - 10) cb b1 hN src ii hge.2 hsrc (by omega) (by omega) w10 W10.out V1.out)
 generalize spinN K hN src ii b1 = sp at *
 replace hge := Lib.hid hge
 replace ch := Lib.hid ch
 generalize hRd : readN sp = RR at *
 obtain ⟨er, hd, d⟩ := RR
 dsimp only at hO4
 replace hO4 := Lib.hid hO4
 replace hRd := Lib.hid hRd
 go_wp2_with fail
 refine Calls.mono ch.out ?_
 rintro e w' ⟨rfl, rfl⟩
 dsimp only
 clear ch V1
 go_upto_region 14 with (fail)
 go_wp2_with fail
 refine Calls.mono cu.out ?_
 rintro e w11 ⟨s11, c11, rfl, O11, hb⟩
 obtain ⟨_, _, he, hc11, hm11⟩ := O11.len
 cases he
 unfold maxLen at hm11
 replace Z := Lib.hid (Z.out.bw hb)
 have hz11 := Lib.hid Z.out.lt
 have W11 := Lib.hid (W10.out.bw hb)
 have S11 := Lib.hid (S10.out.bw' hb)
 replace hsz7 := Lib.hid (Nat.le_trans hsz7.out hb.size)
 have cr := Read_any _ _ _ (by omega) w11 O11.sb
 rw [hRd.out] at cr
 replace cr := Lib.hid cr
 clear hb O11 W10 S10 cu hRd
 dsimp only
 go_wp2_with fail
 refine Calls.mono cr.out ?_
 rintro e w12 ⟨c, rfl, O, hb⟩
 obtain ⟨so_, co, se, ce, sp_, cp, rfl, -, -, -⟩ := O.open
 dsimp only at O ⊢
 replace Z := Lib.hid (Z.out.bw hb)
 have W12 := Lib.hid (W11.out.bw hb)
 have S12 := Lib.hid (S11.out.bw' hb)
 have hsz11 := Lib.hid (Nat.le_trans hsz7.out (Nat.le_refl _))
 clear cr W11 S11
 generalize d.others.length = no at *
 generalize d.extra.length = ne at *
 generalize d.payload.length = np at *
 obtain ⟨mk, ty, sq_, st, so, ot, xb, pf, ex, pl, pd⟩ := d
 simp only [rtpC] at O ⊢
 have B3 : BW w12 (w12.alloc (.cells #[.bool mk, .int .u8 (ty : Nat), .int .u16 (sq_ : Nat), .int .u32 (st : Nat), .int .u32 (so : Nat), .slice so_ no co, .bool xb, .int .u16 (pf : Nat), .slice se ne ce, .slice sp_ np cp, .int .u8 (pd : Nat)] 37)) := (BW.refl _).alloc
 have P3 : Hid (PkV (w12.alloc (.cells #[.bool mk, .int .u8 (ty : Nat), .int .u16 (sq_ : Nat), .int .u32 (st : Nat), .int .u32 (so : Nat), .slice so_ no co, .bool xb, .int .u16 (pf : Nat), .slice se ne ce, .slice sp_ np cp, .int .u8 (pd : Nat)] 37)) w12.heap.size #[.bool mk, .int .u8 (ty : Nat), .int .u16 (sq_ : Nat), .int .u32 (st : Nat), .int .u32 (so : Nat), .slice so_ no co, .bool xb, .int .u16 (pf : Nat), .slice se ne ce, .slice sp_ np cp, .int .u8 (pd : Nat)]) := HpB.new w12 _
 have W13 := Lib.hid (W12.out.bw B3)
 have S13 := Lib.hid (S12.out.bw' B3)
 have O3 := Lib.hid (O.bw B3)
 replace Z := Lib.hid (Z.out.bw B3)
 replace O := Lib.hid O
 clear hb W12 S12 B3
 go_upto_region 15 with (fail)
 generalize w12.alloc (.cells #[.bool mk, .int .u8 (ty : Nat), .int .u16 (sq_ : Nat), .int .u32 (st : Nat), .int .u32 (so : Nat), .slice so_ no co, .bool xb, .int .u16 (pf : Nat), .slice se ne ce, .slice sp_ np cp, .int .u8 (pd : Nat)] 37) = w13 at *
 generalize w12.heap.size = g3 at *
 clear O
 by_cases her : er = 0
 rotate_left
 ·have d1 : ((er : Int) != 0) = true := by simpa using her
  have hR := hO4
  rw [if_pos her] at hR
  subst hR
  have Wz := W13
  have Sz := S13
  clear W13 S13 her P3 O3 hO4
  generalize w13 = wz at *
  have z0 := hp_cell (Z.out) 0
  have y0 := hp_frz (Z.out) 0
  have z1 := hp_cell (Z.out) 1
  have y1 := hp_frz (Z.out) 1
  have z2 := hp_cell (Z.out) 2
  have y2 := hp_frz (Z.out) 2
  have z3 := hp_cell (Z.out) 3
  have y3 := hp_frz (Z.out) 3
  have z4 := hp_cell (Z.out) 4
  have y4 := hp_frz (Z.out) 4
  have z5 := hp_cell (Z.out) 5
  have y5 := hp_frz (Z.out) 5
  have z6 := hp_cell (Z.out) 6
  have y6 := hp_frz (Z.out) 6
  have z7 := hp_cell (Z.out) 7
  have y7 := hp_frz (Z.out) 7
  have z8 := hp_cell (Z.out) 8
  have y8 := hp_frz (Z.out) 8
  have z9 := hp_cell (Z.out) 9
  have y9 := hp_frz (Z.out) 9
  have z10 := hp_cell (Z.out) 10
  have y10 := hp_frz (Z.out) 10
  simp only [zC, rtpC, List.getElem?_toArray, List.getElem?_cons_zero, List.getElem?_cons_succ] at z0 z1 z2 z3 z4 z5 z6 z7 z8 z9 z10
  go_wp2_with fail
  clear z0 z1 z2 z3 z4 z5 z6 z7 z8 z9 z10 y0 y1 y2 y3 y4 y5 y6 y7 y8 y9 y10
  have TS := still_set11 wz g0 (.bool false) (.int .u8 0) (.int .u16 0) (.int .u32 0) (.int .u32 0) (.slice none 0 0) (.bool false) (.int .u16 0) (.slice none 0 0) (.slice none 0 0) (.int .u8 0)
  have Z4 := Z.out.set11 rfl (.bool false) (.int .u8 0) (.int .u16 0) (.int .u32 0) (.int .u32 0) (.slice none 0 0) (.bool false) (.int .u16 0) (.slice none 0 0) (.slice none 0 0) (.int .u8 0)
  have W4 := Wz.out.still TS (by have := hg.out; have := hg0.out; simp; omega) (by have := hgm.out; have := hg0.out; simp; omega)
  have S4 := Sz.out.own2 TS (fun k hk => .inr (by have := hg0.out; obtain rfl : k = g0 := (by simpa using hk); omega))
  have z0 := hp_cell (Z4) 0
  have z1 := hp_cell (Z4) 1
  have z2 := hp_cell (Z4) 2
  have z3 := hp_cell (Z4) 3
  have z4 := hp_cell (Z4) 4
  have z5 := hp_cell (Z4) 5
  have z6 := hp_cell (Z4) 6
  have z7 := hp_cell (Z4) 7
  have z8 := hp_cell (Z4) 8
  have z9 := hp_cell (Z4) 9
  have z10 := hp_cell (Z4) 10
  simp only [List.getElem?_toArray, List.getElem?_cons_zero, List.getElem?_cons_succ] at z0 z1 z2 z3 z4 z5 z6 z7 z8 z9 z10
  replace Z4 := Lib.hid Z4
  replace TS := Lib.hid TS
  replace W4 := Lib.hid W4
  replace S4 := Lib.hid S4
  refine bodyPost_ret (v := .tuple #[.agg zC, .int .i64 0, .int .i64 (_ : Nat)]) ?_ rfl ⟨⟨zC, rfl, RtpO.zero _ _⟩, W4.out, S4.out⟩
  simp [results, Tryz.results12, go_sem, z0, z1, z2, z3, z4, z5, z6, z7, z8, z9, z10, zC, rtpC]
 have d1 : ((er : Int) != 0) = false := by simpa using her
 have hR := hO4.out
 rw [if_neg (by omega)] at hR
 subst hR
 clear her hO4
 have z0 := hp_cell (Z.out) 0
 have y0 := hp_frz (Z.out) 0
 have z1 := hp_cell (Z.out) 1
 have y1 := hp_frz (Z.out) 1
 have z2 := hp_cell (Z.out) 2
 have y2 := hp_frz (Z.out) 2
 have z3 := hp_cell (Z.out) 3
 have y3 := hp_frz (Z.out) 3
 have z4 := hp_cell (Z.out) 4
 have y4 := hp_frz (Z.out) 4
 have z5 := hp_cell (Z.out) 5
 have y5 := hp_frz (Z.out) 5
 have z6 := hp_cell (Z.out) 6
 have y6 := hp_frz (Z.out) 6
 have z7 := hp_cell (Z.out) 7
 have y7 := hp_frz (Z.out) 7
 have z8 := hp_cell (Z.out) 8
 have y8 := hp_frz (Z.out) 8
 have z9 := hp_cell (Z.out) 9
 have y9 := hp_frz (Z.out) 9
 have z10 := hp_cell (Z.out) 10
 have y10 := hp_frz (Z.out) 10
 simp only [zC, rtpC, List.getElem?_toArray, List.getElem?_cons_zero, List.getElem?_cons_succ] at z0 z1 z2 z3 z4 z5 z6 z7 z8 z9 z10
 have k0 := hp_cell (P3.out) 0
 have k1 := hp_cell (P3.out) 1
 have k2 := hp_cell (P3.out) 2
 have k3 := hp_cell (P3.out) 3
 have k4 := hp_cell (P3.out) 4
 have k5 := hp_cell (P3.out) 5
 have k6 := hp_cell (P3.out) 6
 have k7 := hp_cell (P3.out) 7
 have k8 := hp_cell (P3.out) 8
 have k9 := hp_cell (P3.out) 9
 have k10 := hp_cell (P3.out) 10
 simp only [List.getElem?_toArray, List.getElem?_cons_zero, List.getElem?_cons_succ] at k0 k1 k2 k3 k4 k5 k6 k7 k8 k9 k10
 go_wp2_with fail
 clear z0 z1 z2 z3 z4 z5 z6 z7 z8 z9 z10 y0 y1 y2 y3 y4 y5 y6 y7 y8 y9 y10 k0 k1 k2 k3 k4 k5 k6 k7 k8 k9 k10
 have TS := still_set11 w13 g0 (.bool mk) (.int .u8 (ty : Nat)) (.int .u16 (sq_ : Nat)) (.int .u32 (st : Nat)) (.int .u32 (so : Nat)) (.slice so_ no co) (.bool xb) (.int .u16 (pf : Nat)) (.slice se ne ce) (.slice sp_ np cp) (.int .u8 (pd : Nat))
 have Z4 := Z.out.set11 rfl (.bool mk) (.int .u8 (ty : Nat)) (.int .u16 (sq_ : Nat)) (.int .u32 (st : Nat)) (.int .u32 (so : Nat)) (.slice so_ no co) (.bool xb) (.int .u16 (pf : Nat)) (.slice se ne ce) (.slice sp_ np cp) (.int .u8 (pd : Nat))
 have hlt0 : w.heap.size < w11.heap.size := by have := hz11.out; have := hg0.out; omega
 have O4 := (O3.out.still TS (by have := hg0.out; simp; omega)).up (Nat.le_of_lt hlt0)
 have W4 := W13.out.still TS (by have := hg.out; have := hg0.out; simp; omega) (by have := hgm.out; have := hg0.out; simp; omega)
 have S4 := S13.out.own2 TS (fun k hk => .inr (by have := hg0.out; obtain rfl : k = g0 := (by simpa using hk); omega))
 have z0 := hp_cell (Z4) 0
 have z1 := hp_cell (Z4) 1
 have z2 := hp_cell (Z4) 2
 have z3 := hp_cell (Z4) 3
 have z4 := hp_cell (Z4) 4
 have z5 := hp_cell (Z4) 5
 have z6 := hp_cell (Z4) 6
 have z7 := hp_cell (Z4) 7
 have z8 := hp_cell (Z4) 8
 have z9 := hp_cell (Z4) 9
 have z10 := hp_cell (Z4) 10
 simp only [List.getElem?_toArray, List.getElem?_cons_zero, List.getElem?_cons_succ] at z0 z1 z2 z3 z4 z5 z6 z7 z8 z9 z10
 replace Z4 := Lib.hid Z4
 replace TS := Lib.hid TS
 replace O4 := Lib.hid O4
 replace W4 := Lib.hid W4
 replace S4 := Lib.hid S4
 refine bodyPost_ret (v := .tuple #[.agg #[.bool mk, .int .u8 (ty : Nat), .int .u16 (sq_ : Nat), .int .u32 (st : Nat), .int .u32 (so : Nat), .slice so_ no co, .bool xb, .int .u16 (pf : Nat), .slice se ne ce, .slice sp_ np cp, .int .u8 (pd : Nat)], .int .i64 (ii : Nat), .int .i64 0]) ?_ rfl ⟨⟨_, rfl, O4.out⟩, W4.out, S4.out⟩
 simp [results, Tryz.results12, go_sem, z0, z1, z2, z3, z4, z5, z6, z7, z8, z9, z10]
end Go.Proofs.YtikmhlbpefednaaGreat
