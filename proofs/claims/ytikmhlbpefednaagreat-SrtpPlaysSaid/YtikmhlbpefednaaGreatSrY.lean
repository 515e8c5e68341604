/- The reference's Open. No condition but the sizes'. -/
import Derived.Test.YtikmhlbpefednaaGreatGV2
import Derived.Test.YtikmhlbpefednaaGreatSrW
import Derived.Test.YtikmhlbpefednaaGreatSrJ
import Derived.Test.YtikmhlbpefednaaGreatRtH
import Derived.Test.YtikmhlbpefednaaGreatGPr
namespace Go.Proofs.YtikmhlbpefednaaGreat
open Go.RowKit
structure ROpenPost (base g : Nat) (KK : List Nat) (lim : Int) (m : Nat) (vN vW : Value) (ps : List Nat) (v : Nat → Value) (R : (Nat × Int × RtpD) × Nat × List (Nat × Nat × Nat)) (w : World) (e : Ending) (w' : World) : Prop where
 ret : ∃ c, e = .returned (.tuple #[.agg c, .int .i64 R.1.2.1, .int .i64 (R.1.1 : Nat)]) ∧ RtpO w' w.heap.size c R.1.2.2
 way : ∃ vN' vW' ps' v' L', RwV w' base g KK lim R.2.1 R.2.2 vN' vW' ps' v' L'
 st : Still (rwBs g m vN vW ps v) w w'
theorem RwV.not_pkt {w : World} {base g : Nat} {K : List Nat} {lim : Int} {used : Nat} {M : List (Nat × Nat × Nat)} {vN vW : Value} {ps : List Nat} {v : Nat → Value} {L : Nat → List Nat} (h : RwV w base g K lim used M vN vW ps v L) {g0 : Nat} {c : Array Value} (hz : PkV w g0 c) : ¬ rwBlk g M.length vN vW ps v g0 := fun hb => by
 obtain ⟨_, _, cs, T, h1, h2⟩ := h.row hb
 have hz' : w.heap[g0]? = some (.cells c 37 (0, 0)) := hz
 rw [hz'] at h1
 cases h1
 rcases h2 with h | h | h | h | h <;> revert h <;> decide
structure RwMid (w wc : World) (base g : Nat) (KK : List Nat) (lim : Int) (used : Nat) (M M1 : List (Nat × Nat × Nat)) (B0 : List Nat) (vN vW : Value) (ps : List Nat) (v : Nat → Value) (L : Nat → List Nat) (k src nx bs : Nat) : Prop where
 way : RwV wc base g KK lim used M1 vN vW ps v L
 hk : k < M1.length
 at_ : M1[k] = (src, nx, bs)
 set : ∀ u, setW M src u = M1.set k (src, u)
 st : Still B0 w wc
 own : ∀ j, j = ps.getD k 0 ∨ (v k).ownBlock = some j → j ∈ B0 ∨ w.heap.size + 2 ≤ j
theorem RwMid.bw {w wc wd : World} {base g : Nat} {KK : List Nat} {lim : Int} {used : Nat} {M M1 : List (Nat × Nat × Nat)} {B0 : List Nat} {vN vW : Value} {ps : List Nat} {v : Nat → Value} {L : Nat → List Nat} {k src nx bs : Nat} (h : RwMid w wc base g KK lim used M M1 B0 vN vW ps v L k src nx bs) (b : BW wc wd) : RwMid w wd base g KK lim used M M1 B0 vN vW ps v L k src nx bs := ⟨h.way.bw b, h.hk, h.at_, h.set, h.st.bw' b, h.own⟩
set_option maxRecDepth 100000 in
set_option maxHeartbeats 8000000 in
theorem ropen_ok (base g : Nat) (KK : List Nat) (lim : Int) (used : Nat) (M : List (Nat × Nat × Nat)) (vN vW : Value) (ps : List Nat) (v : Nat → Value) (L : Nat → List Nat) (sb : Option Addr) (n cb : Nat) (b : List Nat) (hM : MOk M) (hml : M.length ≤ 1000) (hn : n ≤ 1000000) (hu : used ≤ 100000) (w : World) (hbase : base ≤ w.heap.size) (hW : RwV w base g KK lim used M vN vW ps v L) (hv : SB w (.slice sb n cb) n b) (hvo : ∀ k, (Value.slice sb n cb).ownBlock = some k → ¬ rwBlk g M.length vN vW ps v k) :
  Calls Tryz.prog 13 #[.pointer (some ⟨g, 0, none⟩), .slice sb n cb] w (ROpenPost base g KK lim M.length vN vW ps v (openN KK lim used M b) w) := by
 obtain ⟨_, _, he, hcb, hmb⟩ := hv.len
 cases he
 unfold maxLen at hmb
 have hbl : b.length = n := hv.1
 have hnm := nm_lt b hv.2.1
 have hWW := Lib.hid hW
 have hVV := Lib.hid hv
 have hg := Lib.hid hW.hp.lt
 have hMM := Lib.hid hM
 have hpl := Lib.hid hW.wi.1
 have hblk := Lib.hid fun k hk => (hW.row (k := k) hk).2.1
 have hvow : Hid (∀ k, (Value.slice sb (n - 10) cb).ownBlock = some k → 0 < n → k ∉ rwBs g M.length vN vW ps v ∧ k < w.heap.size) := fun k hk h0 => by
  have hk' : (Value.slice sb n cb).ownBlock = some k := by
   revert hk
   cases sb <;> simp [Value.ownBlock]
  exact ⟨fun hm => hvo k hk' ((mem_rwBs hpl.out).1 hm), hv.own_lt h0 k hk'⟩
 have cP := fun wz (h : BW w wz) => Lib.hid (rpeek_ok sb n cb b hn wz (hv.bw h))
 have hO : openN KK lim used M b = openN KK lim used M b := rfl
 conv at hO => rhs; unfold openN
 replace hO := Lib.hid hO
 generalize openN KK lim used M b = R at *
 have B1 : BW w (w.alloc (.cells #[.bool false, .int .u8 0, .int .u16 0, .int .u32 0, .int .u32 0, .slice none 0 0, .bool false, .int .u16 0, .slice none 0 0, .slice none 0 0, .int .u8 0] 37)) := (BW.refl w).alloc
 have B2' : BW (w.alloc (.cells #[.bool false, .int .u8 0, .int .u16 0, .int .u32 0, .int .u32 0, .slice none 0 0, .bool false, .int .u16 0, .slice none 0 0, .slice none 0 0, .int .u8 0] 37)) ((w.alloc (.cells #[.bool false, .int .u8 0, .int .u16 0, .int .u32 0, .int .u32 0, .slice none 0 0, .bool false, .int .u16 0, .slice none 0 0, .slice none 0 0, .int .u8 0] 37)).alloc (.cells #[.bool false, .int .u8 0, .int .u16 0, .int .u32 0, .int .u32 0, .slice none 0 0, .bool false, .int .u16 0, .slice none 0 0, .slice none 0 0, .int .u8 0] 37)) := (BW.refl _).alloc
 have Z : Hid (PkV ((w.alloc (.cells #[.bool false, .int .u8 0, .int .u16 0, .int .u32 0, .int .u32 0, .slice none 0 0, .bool false, .int .u16 0, .slice none 0 0, .slice none 0 0, .int .u8 0] 37)).alloc (.cells #[.bool false, .int .u8 0, .int .u16 0, .int .u32 0, .int .u32 0, .slice none 0 0, .bool false, .int .u16 0, .slice none 0 0, .slice none 0 0, .int .u8 0] 37)) w.heap.size zC) := HpB.bw (HpB.new w _) B2'
 have N : Hid (PkV ((w.alloc (.cells #[.bool false, .int .u8 0, .int .u16 0, .int .u32 0, .int .u32 0, .slice none 0 0, .bool false, .int .u16 0, .slice none 0 0, .slice none 0 0, .int .u8 0] 37)).alloc (.cells #[.bool false, .int .u8 0, .int .u16 0, .int .u32 0, .int .u32 0, .slice none 0 0, .bool false, .int .u16 0, .slice none 0 0, .slice none 0 0, .int .u8 0] 37)) (w.heap.size + 1) zC) := HpB.newAt _ _ _ (by simp)
 have B := Lib.hid (B1.trans B2')
 have hpi := fun h => @peek_in b h
 generalize hP : peekN b = P at *
 obtain ⟨src, sq, pe⟩ := P
 dsimp only at hO hpi cP ⊢
 clear hP hW hv hM hvo B1 B2'
 replace hpi := Lib.hid hpi
 replace hnm := Lib.hid hnm
 replace hbl := Lib.hid hbl
 go_enter Tryz.func13, Tryz.ntmps13
 go_upto_region 2 with (fail)
 generalize ((w.alloc _).alloc _) = w1 at *
 generalize hg0 : w.heap.size = g0 at *
 generalize hg1 : g0 + 1 = g1 at *
 replace hg0 := Lib.hid hg0
 replace hg1 := Lib.hid hg1
 have hbw : Hid (base ≤ w.heap.size) := by have := hg0.out; show _ ≤ _; omega
 have hblw : Hid (∀ k, rwBlk g M.length vN vW ps v k → k < w.heap.size) := fun k hk => by have := hblk.out k hk; have := hg0.out; omega
 clear hbase
 go_wp2_with fail
 refine Calls.mono (cP w1 B.out).out ?_
 rintro e w' ⟨rfl, rfl⟩
 dsimp only
 clear cP
 by_cases hp : pe = 0
 rotate_left
 ·have d1 : ((pe : Int) != 0) = true := by simpa using hp
  have hR := hO.out
  rw [if_pos hp] at hR
  subst hR
  clear hO hp
  have Wz := Lib.hid (hWW.out.bw B.out)
  have Sz := Lib.hid (B.out.still (rwBs g M.length vN vW ps v))
  have z0 := hp_cell (Z.out) 0
  have y0 := hp_frz (Z.out) 0
  have z1 := hp_cell (Z.out) 1
  have y1 := hp_frz (Z.out) 1
  have z2 := hp_cell (Z.out) 2
  have y2 := hp_frz (Z.out) 2
  have z3 := hp_cell (Z.out) 3
  have y3 := hp_frz (Z.out) 3
  have z4 := hp_cell (Z.out) 4
  have y4 := hp_frz (Z.out) 4
  have z5 := hp_cell (Z.out) 5
  have y5 := hp_frz (Z.out) 5
  have z6 := hp_cell (Z.out) 6
  have y6 := hp_frz (Z.out) 6
  have z7 := hp_cell (Z.out) 7
  have y7 := hp_frz (Z.out) 7
  have z8 := hp_cell (Z.out) 8
  have y8 := hp_frz (Z.out) 8
  have z9 := hp_cell (Z.out) 9
  have y9 := hp_frz (Z.out) 9
  have z10 := hp_cell (Z.out) 10
  have y10 := hp_frz (Z.out) 10
  simp only [zC, rtpC, List.getElem?_toArray, List.getElem?_cons_zero, List.getElem?_cons_succ] at z0 z1 z2 z3 z4 z5 z6 z7 z8 z9 z10
  have k0 := hp_cell (N.out) 0
  have k1 := hp_cell (N.out) 1
  have k2 := hp_cell (N.out) 2
  have k3 := hp_cell (N.out) 3
  have k4 := hp_cell (N.out) 4
  have k5 := hp_cell (N.out) 5
  have k6 := hp_cell (N.out) 6
  have k7 := hp_cell (N.out) 7
  have k8 := hp_cell (N.out) 8
  have k9 := hp_cell (N.out) 9
  have k10 := hp_cell (N.out) 10
  simp only [zC, rtpC, List.getElem?_toArray, List.getElem?_cons_zero, List.getElem?_cons_succ] at k0 k1 k2 k3 k4 k5 k6 k7 k8 k9 k10
  go_wp2_with fail
  clear z0 z1 z2 z3 z4 z5 z6 z7 z8 z9 z10 y0 y1 y2 y3 y4 y5 y6 y7 y8 y9 y10 k0 k1 k2 k3 k4 k5 k6 k7 k8 k9 k10
  have TS := still_set11 w1 g0 (.bool false) (.int .u8 0) (.int .u16 0) (.int .u32 0) (.int .u32 0) (.slice none 0 0) (.bool false) (.int .u16 0) (.slice none 0 0) (.slice none 0 0) (.int .u8 0)
  have Z4 := Z.out.set11 rfl (.bool false) (.int .u8 0) (.int .u16 0) (.int .u32 0) (.int .u32 0) (.slice none 0 0) (.bool false) (.int .u16 0) (.slice none 0 0) (.slice none 0 0) (.int .u8 0)
  have W4 := Wz.out.still TS (fun j hj => by obtain rfl : j = g0 := (by simpa using hj); exact Wz.out.not_pkt Z.out)
  have S4 := Sz.out.own2 TS (fun j hj => .inr (by have := hg0.out; obtain rfl : j = g0 := (by simpa using hj); omega))
  have z0 := hp_cell (Z4) 0
  have z1 := hp_cell (Z4) 1
  have z2 := hp_cell (Z4) 2
  have z3 := hp_cell (Z4) 3
  have z4 := hp_cell (Z4) 4
  have z5 := hp_cell (Z4) 5
  have z6 := hp_cell (Z4) 6
  have z7 := hp_cell (Z4) 7
  have z8 := hp_cell (Z4) 8
  have z9 := hp_cell (Z4) 9
  have z10 := hp_cell (Z4) 10
  simp only [List.getElem?_toArray, List.getElem?_cons_zero, List.getElem?_cons_succ] at z0 z1 z2 z3 z4 z5 z6 z7 z8 z9 z10
  replace Z4 := Lib.hid Z4
  replace TS := Lib.hid TS
  replace W4 := Lib.hid W4
  replace S4 := Lib.hid S4
  refine bodyPost_ret (v := .tuple #[.agg zC, .int .i64 0, .int .i64 (pe : Nat)]) ?_ rfl ⟨⟨zC, rfl, RtpO.zero _ _⟩, ⟨_, _, _, _, _, W4.out⟩, S4.out⟩
  simp [results, Tryz.results13, go_sem, z0, z1, z2, z3, z4, z5, z6, z7, z8, z9, z10, zC, rtpC]
 have d1 : ((pe : Int) != 0) = false := by simpa using hp
 have hO1 := hO.out
 rw [if_neg (by omega)] at hO1
 obtain ⟨h22, h1200, hhd, hpe⟩ := hpi.out hp
 injection hpe with es e2
 injection e2 with eq e9
 have hsrc : src < 4294967296 := by have := hnm.out 8 4; rw [es]; exact this
 have hsq : sq < 65536 := by have := hnm.out 2 2; rw [eq]; exact this
 rw [hbl.out] at h22 h1200 hhd hO1
 clear es eq e9 hO hpi hp hnm
 have cA := fun wz (h : BW w wz) => Lib.hid (rwat_ok base g KK lim used M vN vW ps v L src hsrc hml wz (hWW.out.bw h))
 have cH := fun wz (h : BW w wz) => Lib.hid (rwayhigh_ok base g KK lim used M vN vW ps v L src hsrc hMM.out hml (by omega) wz (hWW.out.bw h))
 have hfi := @fresh_in lim used M src sq
 have hF : freshE lim used M src sq = if lim ≤ used then (0, 7) else if hasW M src = false ∧ 8 ≤ M.length then (0, 6) else if 281474976710656 ≤ idxN ((getW M src).1 - 1) sq then (0, 3) else if wFresh (getW M src).1 (getW M src).2 (idxN ((getW M src).1 - 1) sq) = false then (0, 5) else (idxN ((getW M src).1 - 1) sq, 0) := rfl
 have hgb := Lib.hid (getW_b hMM.out src)
 have hcs := Lib.hid (atN_cases hMM.out src)
 have hge := Lib.hid (idxN_ge ((getW M src).1 - 1) sq)
 generalize freshE lim used M src sq = F at *
 generalize hvb : getW M src = vb at *
 obtain ⟨nx, bs⟩ := vb
 dsimp only at hfi hO1 cH hF hgb hge
 have cI := fun wz => Lib.hid (ridx_ok ((nx : Int) - 1) sq (by have := hgb.out.1; omega) hsq wz)
 generalize idxN ((nx : Int) - 1) sq = ix at *
 replace hfi := Lib.hid hfi
 replace hO1 := Lib.hid hO1
 replace hF := Lib.hid hF
 replace hvb := Lib.hid hvb
 have l0 : ∀ y : LaterS [] w1, y.now.cell? _ = _ := fun y => (hWW.out.bw (B.out.trans y.bw)).lm
 have l1 : ∀ y : LaterS [] w1, y.now.cell? _ = _ := fun y => (hWW.out.bw (B.out.trans y.bw)).usd
 go_upto_region 5 with (fail)
 clear d1
 refine wp_region_gg [] [] [] (by kernel_rfl) ?_
 refine hoist [] [] (a1 := ?_) 0 rfl (by kernel_rfl) (.inl ⟨rfl, rfl⟩) rfl rfl rfl (fun x K hK => ?_) ?_
 rotate_left
 ·go_big_quiet_op
  exact hK
 refine hoist [] [] (a1 := ?_) 1 rfl (by kernel_rfl) (.inl ⟨rfl, rfl⟩) rfl rfl rfl (fun x K hK => ?_) ?_
 rotate_left
 ·go_big_quiet_op
  exact hK
 refine hoist [] [] (a1 := ?_) 2 rfl (by kernel_rfl) (.inl ⟨rfl, rfl⟩) rfl rfl rfl (fun x K hK => ?_) ?_
 rotate_left
 ·go_big_quiet_op
  exact hK
 refine hoist [] [] (a1 := ?_) 3 rfl (by kernel_rfl) (.inl ⟨rfl, rfl⟩) rfl rfl rfl (fun x K hK => ?_) ?_
 rotate_left
 ·go_big_quiet_op
  exact hK
 refine hoist [] [] (a1 := ?_) 4 rfl (by kernel_rfl) (.inl ⟨rfl, rfl⟩) rfl rfl rfl (fun x K hK => ?_) ?_
 rotate_left
 ·go_big_quiet_op
  exact hK
 refine hoist [] [] (a1 := ?_) 5 rfl (by kernel_rfl) (.inl ⟨rfl, rfl⟩) rfl rfl rfl (fun x K hK => ?_) ?_
 rotate_left
 ·go_big_quiet_op
  exact hK
 refine hoist [] [] (a1 := ?_) 6 rfl (by kernel_rfl) (.inl ⟨rfl, rfl⟩) rfl rfl rfl (fun x K hK => ?_) ?_
 rotate_left
 ·go_big_quiet_op
  exact hK
 refine hoist [] [] (a1 := ?_) 7 rfl (by kernel_rfl) (.inl ⟨rfl, rfl⟩) rfl rfl rfl (fun x K hK => ?_) ?_
 rotate_left
 ·go_big_quiet_op
  exact hK
 refine hoist [] [] (a1 := ?_) 8 rfl (by kernel_rfl) (.inl ⟨rfl, rfl⟩) rfl rfl rfl (fun x K hK => ?_) ?_
 rotate_left
 ·go_big_quiet_op
  exact hK
 refine done (by kernel_rfl) (fun xr => ?_)
 replace Z := Lib.hid (Z.out.bw xr.bw)
 replace N := Lib.hid (N.out.bw xr.bw)
 replace B := Lib.hid (B.out.trans xr.bw)
 clear l0 l1
 generalize xr.now = w2 at *
 by_cases hsp : lim ≤ (used : Int)
 ·rw [decide_eq_true hsp]
  have hR := hO1.out
  rw [hF.out, if_pos hsp] at hR
  replace hR : R = ((7, 0, rZero), used, M) := hR
  subst hR
  clear hO1 hsp hF
  have Wz := Lib.hid (hWW.out.bw B.out)
  have Sz := Lib.hid (B.out.still (rwBs g M.length vN vW ps v))
  have z0 := hp_cell (Z.out) 0
  have y0 := hp_frz (Z.out) 0
  have z1 := hp_cell (Z.out) 1
  have y1 := hp_frz (Z.out) 1
  have z2 := hp_cell (Z.out) 2
  have y2 := hp_frz (Z.out) 2
  have z3 := hp_cell (Z.out) 3
  have y3 := hp_frz (Z.out) 3
  have z4 := hp_cell (Z.out) 4
  have y4 := hp_frz (Z.out) 4
  have z5 := hp_cell (Z.out) 5
  have y5 := hp_frz (Z.out) 5
  have z6 := hp_cell (Z.out) 6
  have y6 := hp_frz (Z.out) 6
  have z7 := hp_cell (Z.out) 7
  have y7 := hp_frz (Z.out) 7
  have z8 := hp_cell (Z.out) 8
  have y8 := hp_frz (Z.out) 8
  have z9 := hp_cell (Z.out) 9
  have y9 := hp_frz (Z.out) 9
  have z10 := hp_cell (Z.out) 10
  have y10 := hp_frz (Z.out) 10
  simp only [zC, rtpC, List.getElem?_toArray, List.getElem?_cons_zero, List.getElem?_cons_succ] at z0 z1 z2 z3 z4 z5 z6 z7 z8 z9 z10
  have k0 := hp_cell (N.out) 0
  have k1 := hp_cell (N.out) 1
  have k2 := hp_cell (N.out) 2
  have k3 := hp_cell (N.out) 3
  have k4 := hp_cell (N.out) 4
  have k5 := hp_cell (N.out) 5
  have k6 := hp_cell (N.out) 6
  have k7 := hp_cell (N.out) 7
  have k8 := hp_cell (N.out) 8
  have k9 := hp_cell (N.out) 9
  have k10 := hp_cell (N.out) 10
  simp only [zC, rtpC, List.getElem?_toArray, List.getElem?_cons_zero, List.getElem?_cons_succ] at k0 k1 k2 k3 k4 k5 k6 k7 k8 k9 k10
  go_wp2_with fail
  clear z0 z1 z2 z3 z4 z5 z6 z7 z8 z9 z10 y0 y1 y2 y3 y4 y5 y6 y7 y8 y9 y10 k0 k1 k2 k3 k4 k5 k6 k7 k8 k9 k10
  have TS := still_set11 w2 g0 (.bool false) (.int .u8 0) (.int .u16 0) (.int .u32 0) (.int .u32 0) (.slice none 0 0) (.bool false) (.int .u16 0) (.slice none 0 0) (.slice none 0 0) (.int .u8 0)
  have Z4 := Z.out.set11 rfl (.bool false) (.int .u8 0) (.int .u16 0) (.int .u32 0) (.int .u32 0) (.slice none 0 0) (.bool false) (.int .u16 0) (.slice none 0 0) (.slice none 0 0) (.int .u8 0)
  have W4 := Wz.out.still TS (fun j hj => by obtain rfl : j = g0 := (by simpa using hj); exact Wz.out.not_pkt Z.out)
  have S4 := Sz.out.own2 TS (fun j hj => .inr (by have := hg0.out; obtain rfl : j = g0 := (by simpa using hj); omega))
  have z0 := hp_cell (Z4) 0
  have z1 := hp_cell (Z4) 1
  have z2 := hp_cell (Z4) 2
  have z3 := hp_cell (Z4) 3
  have z4 := hp_cell (Z4) 4
  have z5 := hp_cell (Z4) 5
  have z6 := hp_cell (Z4) 6
  have z7 := hp_cell (Z4) 7
  have z8 := hp_cell (Z4) 8
  have z9 := hp_cell (Z4) 9
  have z10 := hp_cell (Z4) 10
  simp only [List.getElem?_toArray, List.getElem?_cons_zero, List.getElem?_cons_succ] at z0 z1 z2 z3 z4 z5 z6 z7 z8 z9 z10
  replace Z4 := Lib.hid Z4
  replace TS := Lib.hid TS
  replace W4 := Lib.hid W4
  replace S4 := Lib.hid S4
  refine bodyPost_ret (v := .tuple #[.agg zC, .int .i64 0, .int .i64 7]) ?_ rfl ⟨⟨zC, rfl, RtpO.zero _ _⟩, ⟨_, _, _, _, _, W4.out⟩, S4.out⟩
  simp [results, Tryz.results13, go_sem, z0, z1, z2, z3, z4, z5, z6, z7, z8, z9, z10, zC, rtpC]
 rw [decide_eq_false hsp]
 have hF2 := Lib.hid (hF.out.trans (if_neg hsp))
 clear hF hsp
 go_upto_region 7 with (fail)
 go_wp2_with fail
 refine Calls.mono (cA w2 B.out).out ?_
 rintro e w' ⟨rfl, rfl⟩
 dsimp only
 clear cA
 obtain ⟨sN, cN, hvN, hnN, hmN⟩ := hWW.out.nm.len
 unfold maxLen at hmN
 subst hvN
 have z52 := (hWW.out.bw B.out).nam
 rcases hcs.out with ⟨k, hk, ea, eh, e1k, e2k⟩ | ⟨ea, eh, e2k⟩
 ·rw [ea]
  rw [eh] at hF2
  have hF3 := Lib.hid (hF2.out.trans (if_neg (fun h => by cases h.1)))
  have d0 : decide ((k : Int) < 0) = false := by simp
  go_upto_region 10 with (fail)
  clear hF2 z52 ea
  go_wp2_with fail
  refine Calls.mono (cH w2 B.out).out ?_
  rintro e w' ⟨rfl, rfl⟩
  dsimp only
  clear cH
  go_wp2_with fail
  refine Calls.mono (cI w2).out ?_
  rintro e w' ⟨rfl, rfl⟩
  dsimp only
  clear cI
  by_cases hbig : 281474976710656 ≤ ix
  ·have d1 : decide (281474976710656 ≤ ix) = true := by simpa using hbig
   have hR := hO1.out
   rw [hF3.out, if_pos hbig] at hR
   replace hR : R = ((3, 0, rZero), used, M) := hR
   subst hR
   clear hO1 hbig hF3
   have Wz := Lib.hid (hWW.out.bw B.out)
   have Sz := Lib.hid (B.out.still (rwBs g M.length (.slice sN M.length cN) vW ps v))
   have z0 := hp_cell (Z.out) 0
   have y0 := hp_frz (Z.out) 0
   have z1 := hp_cell (Z.out) 1
   have y1 := hp_frz (Z.out) 1
   have z2 := hp_cell (Z.out) 2
   have y2 := hp_frz (Z.out) 2
   have z3 := hp_cell (Z.out) 3
   have y3 := hp_frz (Z.out) 3
   have z4 := hp_cell (Z.out) 4
   have y4 := hp_frz (Z.out) 4
   have z5 := hp_cell (Z.out) 5
   have y5 := hp_frz (Z.out) 5
   have z6 := hp_cell (Z.out) 6
   have y6 := hp_frz (Z.out) 6
   have z7 := hp_cell (Z.out) 7
   have y7 := hp_frz (Z.out) 7
   have z8 := hp_cell (Z.out) 8
   have y8 := hp_frz (Z.out) 8
   have z9 := hp_cell (Z.out) 9
   have y9 := hp_frz (Z.out) 9
   have z10 := hp_cell (Z.out) 10
   have y10 := hp_frz (Z.out) 10
   simp only [zC, rtpC, List.getElem?_toArray, List.getElem?_cons_zero, List.getElem?_cons_succ] at z0 z1 z2 z3 z4 z5 z6 z7 z8 z9 z10
   have k0 := hp_cell (N.out) 0
   have k1 := hp_cell (N.out) 1
   have k2 := hp_cell (N.out) 2
   have k3 := hp_cell (N.out) 3
   have k4 := hp_cell (N.out) 4
   have k5 := hp_cell (N.out) 5
   have k6 := hp_cell (N.out) 6
   have k7 := hp_cell (N.out) 7
   have k8 := hp_cell (N.out) 8
   have k9 := hp_cell (N.out) 9
   have k10 := hp_cell (N.out) 10
   simp only [zC, rtpC, List.getElem?_toArray, List.getElem?_cons_zero, List.getElem?_cons_succ] at k0 k1 k2 k3 k4 k5 k6 k7 k8 k9 k10
   go_wp2_with fail
   clear z0 z1 z2 z3 z4 z5 z6 z7 z8 z9 z10 y0 y1 y2 y3 y4 y5 y6 y7 y8 y9 y10 k0 k1 k2 k3 k4 k5 k6 k7 k8 k9 k10
   have TS := still_set11 w2 g0 (.bool false) (.int .u8 0) (.int .u16 0) (.int .u32 0) (.int .u32 0) (.slice none 0 0) (.bool false) (.int .u16 0) (.slice none 0 0) (.slice none 0 0) (.int .u8 0)
   have Z4 := Z.out.set11 rfl (.bool false) (.int .u8 0) (.int .u16 0) (.int .u32 0) (.int .u32 0) (.slice none 0 0) (.bool false) (.int .u16 0) (.slice none 0 0) (.slice none 0 0) (.int .u8 0)
   have W4 := Wz.out.still TS (fun j hj => by obtain rfl : j = g0 := (by simpa using hj); exact Wz.out.not_pkt Z.out)
   have S4 := Sz.out.own2 TS (fun j hj => .inr (by have := hg0.out; obtain rfl : j = g0 := (by simpa using hj); omega))
   have z0 := hp_cell (Z4) 0
   have z1 := hp_cell (Z4) 1
   have z2 := hp_cell (Z4) 2
   have z3 := hp_cell (Z4) 3
   have z4 := hp_cell (Z4) 4
   have z5 := hp_cell (Z4) 5
   have z6 := hp_cell (Z4) 6
   have z7 := hp_cell (Z4) 7
   have z8 := hp_cell (Z4) 8
   have z9 := hp_cell (Z4) 9
   have z10 := hp_cell (Z4) 10
   simp only [List.getElem?_toArray, List.getElem?_cons_zero, List.getElem?_cons_succ] at z0 z1 z2 z3 z4 z5 z6 z7 z8 z9 z10
   replace Z4 := Lib.hid Z4
   replace TS := Lib.hid TS
   replace W4 := Lib.hid W4
   replace S4 := Lib.hid S4
   refine bodyPost_ret (v := .tuple #[.agg zC, .int .i64 0, .int .i64 3]) ?_ rfl ⟨⟨zC, rfl, RtpO.zero _ _⟩, ⟨_, _, _, _, _, W4.out⟩, S4.out⟩
   simp [results, Tryz.results13, go_sem, z0, z1, z2, z3, z4, z5, z6, z7, z8, z9, z10, zC, rtpC]
  have d1 : decide (281474976710656 ≤ ix) = false := by simpa using hbig
  have hF4 := Lib.hid (hF3.out.trans (if_neg hbig))
  clear hF3
  go_upto_region 13 with (fail)
  clear d1
  obtain ⟨r1, r2, r3⟩ := (hWW.out.bw B.out).ea k hk
  have cF := rwfresh_ok base _ _ _ (by omega) ix (by omega) w2 r1
  rw [← r2.fresh, ← e2k] at cF
  have z53 := (hWW.out.bw B.out).win
  obtain ⟨sW, cW, hvW, hnW, hmW⟩ := (hWW.out.bw B.out).wi.len
  unfold maxLen at hmW
  obtain ⟨gW, oW, hsW, hcW⟩ := pw_form (by rw [← hvW]; exact (hWW.out.bw B.out).wi) (by omega)
  have y53 := hcW k (by rw [hpl.out]; exact hk)
  have e3 : ps[k]'(by rw [hpl.out]; exact hk) = ps.getD k 0 := by rw [List.getD_eq_getElem?_getD, List.getElem?_eq_getElem]; rfl
  rw [e3] at y53
  rw [hvW, hsW] at z53
  clear hcW r1 r2 r3 e3
  have hkm : (k : Int) < (M.length : Int) := by omega
  replace cF := Lib.hid cF
  replace hvW := Lib.hid hvW
  replace hsW := Lib.hid hsW
  by_cases hfr : wFresh nx bs ix = false
  ·have hR := hO1.out
   rw [hF4.out, if_pos hfr] at hR
   replace hR : R = ((5, 0, rZero), used, M) := hR
   subst hR
   dsimp only at cF
   rw [hfr] at cF
   clear hO1 hbig hF4 hfr
   go_wp2_with fail
   refine Calls.mono cF.out ?_
   rintro e w' ⟨rfl, rfl⟩
   dsimp only
   clear cF z53 y53
   have Wz := Lib.hid (hWW.out.bw B.out)
   have Sz := Lib.hid (B.out.still (rwBs g M.length (.slice sN M.length cN) vW ps v))
   have z0 := hp_cell (Z.out) 0
   have y0 := hp_frz (Z.out) 0
   have z1 := hp_cell (Z.out) 1
   have y1 := hp_frz (Z.out) 1
   have z2 := hp_cell (Z.out) 2
   have y2 := hp_frz (Z.out) 2
   have z3 := hp_cell (Z.out) 3
   have y3 := hp_frz (Z.out) 3
   have z4 := hp_cell (Z.out) 4
   have y4 := hp_frz (Z.out) 4
   have z5 := hp_cell (Z.out) 5
   have y5 := hp_frz (Z.out) 5
   have z6 := hp_cell (Z.out) 6
   have y6 := hp_frz (Z.out) 6
   have z7 := hp_cell (Z.out) 7
   have y7 := hp_frz (Z.out) 7
   have z8 := hp_cell (Z.out) 8
   have y8 := hp_frz (Z.out) 8
   have z9 := hp_cell (Z.out) 9
   have y9 := hp_frz (Z.out) 9
   have z10 := hp_cell (Z.out) 10
   have y10 := hp_frz (Z.out) 10
   simp only [zC, rtpC, List.getElem?_toArray, List.getElem?_cons_zero, List.getElem?_cons_succ] at z0 z1 z2 z3 z4 z5 z6 z7 z8 z9 z10
   have k0 := hp_cell (N.out) 0
   have k1 := hp_cell (N.out) 1
   have k2 := hp_cell (N.out) 2
   have k3 := hp_cell (N.out) 3
   have k4 := hp_cell (N.out) 4
   have k5 := hp_cell (N.out) 5
   have k6 := hp_cell (N.out) 6
   have k7 := hp_cell (N.out) 7
   have k8 := hp_cell (N.out) 8
   have k9 := hp_cell (N.out) 9
   have k10 := hp_cell (N.out) 10
   simp only [zC, rtpC, List.getElem?_toArray, List.getElem?_cons_zero, List.getElem?_cons_succ] at k0 k1 k2 k3 k4 k5 k6 k7 k8 k9 k10
   go_wp2_with fail
   clear z0 z1 z2 z3 z4 z5 z6 z7 z8 z9 z10 y0 y1 y2 y3 y4 y5 y6 y7 y8 y9 y10 k0 k1 k2 k3 k4 k5 k6 k7 k8 k9 k10
   have TS := still_set11 w2 g0 (.bool false) (.int .u8 0) (.int .u16 0) (.int .u32 0) (.int .u32 0) (.slice none 0 0) (.bool false) (.int .u16 0) (.slice none 0 0) (.slice none 0 0) (.int .u8 0)
   have Z4 := Z.out.set11 rfl (.bool false) (.int .u8 0) (.int .u16 0) (.int .u32 0) (.int .u32 0) (.slice none 0 0) (.bool false) (.int .u16 0) (.slice none 0 0) (.slice none 0 0) (.int .u8 0)
   have W4 := Wz.out.still TS (fun j hj => by obtain rfl : j = g0 := (by simpa using hj); exact Wz.out.not_pkt Z.out)
   have S4 := Sz.out.own2 TS (fun j hj => .inr (by have := hg0.out; obtain rfl : j = g0 := (by simpa using hj); omega))
   have z0 := hp_cell (Z4) 0
   have z1 := hp_cell (Z4) 1
   have z2 := hp_cell (Z4) 2
   have z3 := hp_cell (Z4) 3
   have z4 := hp_cell (Z4) 4
   have z5 := hp_cell (Z4) 5
   have z6 := hp_cell (Z4) 6
   have z7 := hp_cell (Z4) 7
   have z8 := hp_cell (Z4) 8
   have z9 := hp_cell (Z4) 9
   have z10 := hp_cell (Z4) 10
   simp only [List.getElem?_toArray, List.getElem?_cons_zero, List.getElem?_cons_succ] at z0 z1 z2 z3 z4 z5 z6 z7 z8 z9 z10
   replace Z4 := Lib.hid Z4
   replace TS := Lib.hid TS
   replace W4 := Lib.hid W4
   replace S4 := Lib.hid S4
   refine bodyPost_ret (v := .tuple #[.agg zC, .int .i64 0, .int .i64 5]) ?_ rfl ⟨⟨zC, rfl, RtpO.zero _ _⟩, ⟨_, _, _, _, _, W4.out⟩, S4.out⟩
   simp [results, Tryz.results13, go_sem, z0, z1, z2, z3, z4, z5, z6, z7, z8, z9, z10, zC, rtpC]
  dsimp only at cF
  rw [show wFresh nx bs ix = true by simpa using hfr] at cF
  have hF5 := Lib.hid (hF4.out.trans (if_neg hfr))
  clear hF4
  go_wp2_with fail
  refine Calls.mono cF.out ?_
  rintro e w' ⟨rfl, rfl⟩
  dsimp only
  clear cF z53 y53
  have hfz := hfi.out
  rw [hF5.out] at hfz
  obtain ⟨h0i, hi48, hfr'⟩ := hfz rfl
  dsimp only at h0i hi48 hfr'
  obtain ⟨ii, rfl⟩ : ∃ ii : Nat, ix = (ii : Nat) := ⟨ix.toNat, by omega⟩
  have hO2 := hO1.out
  rw [hF5.out] at hO2
  rw [if_neg (fun h => h rfl)] at hO2
  rw [Int.toNat_natCast] at hO2
  clear hfi hO1 hF5 hfr hbig hfz
  have hi2 : Hid (ii < 2 ^ 48) := by show _ < _; omega
  clear h0i hi48
  replace hO2 := Lib.hid hO2
  replace hfr' := Lib.hid hfr'
  go_upto_region 16 with (fail)
  have V1 := Lib.hid (hVV.out.takeW (n - 10) (by omega))
  have V2 := Lib.hid (hVV.out.dropW (n - 10) (by omega))
  have hl1 : (b.take (n - 10)).length = n - 10 := by rw [List.length_take, hbl.out]; omega
  have hrh := fun wz (h : SB wz (.slice sb n cb) n b) u hu => Lib.hid (rhead_ok sb n cb (n - 10) b (by omega) (by omega) (by omega) wz h u hu)
  generalize b.take (n - 10) = b1 at *
  generalize b.drop (n - 10) = b2 at *
  have hTb : ByL (tagN KK b1 ii) := by
   unfold tagN
   exact (hmac_byt _ _).take _
  have hE := bstr_eqb hTb V2.out.2.1
  have cT := fun wz (h : BW w wz) => Lib.hid (rwtagI_ok KK hWW.out.len hWW.out.byt sb (n - 10) cb b1 ii (by have := hi2.out; omega) (by omega) wz (V1.out.bw h))
  generalize hTG : tagN KK b1 ii = TG at *
  generalize hbq : decide (TG = b2) = bq at *
  have E2 : ∀ y : LaterS [] w2, _ := fun y => conv_sb (V2.out.bw (B.out.trans y.bw))
  generalize bstr b2 = S2 at *
  generalize hS1 : bstr TG = S1 at *
  have hl10 : (n : Int) - 10 = ((n - 10 : Nat) : Int) := by omega
  have hKl : Hid (KK.length = 50) := hWW.out.len
  replace hTb := Lib.hid hTb
  replace hTG := Lib.hid hTG
  replace hbq := Lib.hid hbq
  replace hS1 := Lib.hid hS1
  replace hl10 := Lib.hid hl10
  replace hl1 := Lib.hid hl1
  try simp only [Act.put, List.setIfInBounds_toArray, List.set_cons_succ, List.set_cons_zero]
  refine wp_region_gg [] [] [] (by kernel_rfl) ?_
  refine hoist [] [] (a1 := ?_) 0 rfl (by kernel_rfl) (.inl ⟨rfl, rfl⟩) rfl rfl rfl (fun x K hK => ?_) ?_
  rotate_left
  ·go_big_quiet_op
   exact hK
  refine hoist [] [] (a1 := ?_) 1 rfl (by kernel_rfl) (.inl ⟨rfl, rfl⟩) rfl rfl rfl (fun x K hK => ?_) ?_
  rotate_left
  ·go_big_quiet_op
   exact hK
  refine hoist [] [] (a1 := ?_) 2 rfl (by kernel_rfl) (.inl ⟨rfl, rfl⟩) rfl rfl rfl (fun x K hK => ?_) ?_
  rotate_left
  ·go_big_quiet_op
   exact hK
  refine hoist [] [] (a1 := ?_) 3 rfl (by kernel_rfl) (.inl ⟨rfl, rfl⟩) rfl rfl rfl (fun x K hK => ?_) ?_
  rotate_left
  ·refine qlW ar50 rfl (by rfl) hKl.out (fun w' hw => by subst hw; exact (hWW.out.bw (B.out.trans x.bw)).range) (by simp only [Act.put, List.setIfInBounds_toArray, List.set_cons_succ, List.set_cons_zero]; rfl) ?_
   exact hK
  refine hoist [] [] (a1 := ?_) 4 rfl (by kernel_rfl) (.inl ⟨rfl, rfl⟩) rfl rfl rfl (fun x K hK => ?_) ?_
  rotate_left
  ·go_big_quiet_op
   exact hK
  refine hoist [] [] (a1 := ?_) 5 rfl (by kernel_rfl) (.inl ⟨rfl, rfl⟩) rfl rfl rfl (fun x K hK => ?_) ?_
  rotate_left
  ·go_big_quiet_op
   exact hK
  refine hoist [] [] (a1 := ?_) 6 rfl (by kernel_rfl) (.inl ⟨rfl, rfl⟩) rfl rfl rfl (fun x K hK => ?_) ?_
  rotate_left
  ·refine qlCutH (hi := n - 10) rfl (by rfl) (by rfl) (by omega) (by omega) (by simp only [Act.put, List.setIfInBounds_toArray, List.set_cons_succ, List.set_cons_zero]; rfl) ?_
   exact hK
  refine hoist [] [] (a1 := ?_) 7 rfl (by kernel_rfl) (.inl ⟨rfl, rfl⟩) rfl rfl rfl (fun x K hK => ?_) ?_
  rotate_left
  ·go_big_quiet_op
   exact hK
  refine hoist [] [] (a1 := ?_) 10 rfl (by kernel_rfl) (.inl ⟨rfl, rfl⟩) rfl rfl rfl (fun x K hK => ?_) ?_
  rotate_left
  ·go_big_quiet_op
   exact hK
  refine hoist [] [] (a1 := ?_) 11 rfl (by kernel_rfl) (.inl ⟨rfl, rfl⟩) rfl rfl rfl (fun x K hK => ?_) ?_
  rotate_left
  ·go_big_quiet_op
   exact hK
  refine hoist [] [] (a1 := ?_) 12 rfl (by kernel_rfl) (.inl ⟨rfl, rfl⟩) rfl rfl rfl (fun x K hK => ?_) ?_
  rotate_left
  ·refine qlCutL (lo := n - 10) rfl (by rfl) (by rfl) (by omega) (by omega) (by simp only [Act.put, List.setIfInBounds_toArray, List.set_cons_succ, List.set_cons_zero]; rfl) ?_
   exact hK
  refine hoist [] [] (a1 := ?_) 13 rfl (by kernel_rfl) (.inl ⟨rfl, rfl⟩) rfl rfl rfl (fun x K hK => ?_) ?_
  rotate_left
  ·go_big_quiet_op
   exact hK
  refine effect 8 rfl (by kernel_rfl) (by kernel_rfl) rfl (fun x8 K hK => ?_)
  go_simp
  refine Calls.mono (cT x8.now (B.out.trans x8.bw)).out ?_
  rintro e w18 ⟨s9, c9, rfl, O9, hb⟩
  refine hK _ _ (hb.still []) ?_
  clear hK K
  replace Z := Lib.hid (Z.out.bw (x8.bw.trans hb))
  replace N := Lib.hid (N.out.bw (x8.bw.trans hb))
  replace B := Lib.hid (B.out.trans (x8.bw.trans hb))
  clear hb E2 cT
  have E2 : ∀ y : LaterS [] w18, _ := fun y => conv_sb (V2.out.bw (B.out.trans y.bw))
  have E1 : ∀ y : LaterS [] w18, _ := fun y => conv_sb (O9.bw y.bw).sb
  rw [hS1.out] at E1
  clear O9
  try simp only [Act.put, List.setIfInBounds_toArray, List.set_cons_succ, List.set_cons_zero]
  refine hoist [] [] (a1 := ?_) 9 rfl (by kernel_rfl) (.inl ⟨rfl, rfl⟩) rfl rfl rfl (fun x K hK => ?_) ?_
  rotate_left
  ·go_big_quiet_op
   exact hK
  refine hoist [] [] (a1 := ?_) 14 rfl (by kernel_rfl) (.inl ⟨rfl, rfl⟩) rfl rfl rfl (fun x K hK => ?_) ?_
  rotate_left
  ·go_big_quiet_op
   exact hK
  refine done (by kernel_rfl) (fun xr => ?_)
  replace Z := Lib.hid (Z.out.bw xr.bw)
  replace N := Lib.hid (N.out.bw xr.bw)
  replace B := Lib.hid (B.out.trans xr.bw)
  clear E1 E2
  generalize xr.now = w3 at *
  cases bq with
  | false =>
   have ht : b2 ≠ TG := fun h => (of_decide_eq_false hbq.out) h.symm
   have hR := hO2.out
   rw [if_pos ht] at hR
   subst hR
   clear hO2 ht
   have Wz := Lib.hid (hWW.out.bw B.out)
   have Sz := Lib.hid (B.out.still (rwBs g M.length (.slice sN M.length cN) vW ps v))
   have z0 := hp_cell (Z.out) 0
   have y0 := hp_frz (Z.out) 0
   have z1 := hp_cell (Z.out) 1
   have y1 := hp_frz (Z.out) 1
   have z2 := hp_cell (Z.out) 2
   have y2 := hp_frz (Z.out) 2
   have z3 := hp_cell (Z.out) 3
   have y3 := hp_frz (Z.out) 3
   have z4 := hp_cell (Z.out) 4
   have y4 := hp_frz (Z.out) 4
   have z5 := hp_cell (Z.out) 5
   have y5 := hp_frz (Z.out) 5
   have z6 := hp_cell (Z.out) 6
   have y6 := hp_frz (Z.out) 6
   have z7 := hp_cell (Z.out) 7
   have y7 := hp_frz (Z.out) 7
   have z8 := hp_cell (Z.out) 8
   have y8 := hp_frz (Z.out) 8
   have z9 := hp_cell (Z.out) 9
   have y9 := hp_frz (Z.out) 9
   have z10 := hp_cell (Z.out) 10
   have y10 := hp_frz (Z.out) 10
   simp only [zC, rtpC, List.getElem?_toArray, List.getElem?_cons_zero, List.getElem?_cons_succ] at z0 z1 z2 z3 z4 z5 z6 z7 z8 z9 z10
   have k0 := hp_cell (N.out) 0
   have k1 := hp_cell (N.out) 1
   have k2 := hp_cell (N.out) 2
   have k3 := hp_cell (N.out) 3
   have k4 := hp_cell (N.out) 4
   have k5 := hp_cell (N.out) 5
   have k6 := hp_cell (N.out) 6
   have k7 := hp_cell (N.out) 7
   have k8 := hp_cell (N.out) 8
   have k9 := hp_cell (N.out) 9
   have k10 := hp_cell (N.out) 10
   simp only [zC, rtpC, List.getElem?_toArray, List.getElem?_cons_zero, List.getElem?_cons_succ] at k0 k1 k2 k3 k4 k5 k6 k7 k8 k9 k10
   go_wp2_with fail
   clear z0 z1 z2 z3 z4 z5 z6 z7 z8 z9 z10 y0 y1 y2 y3 y4 y5 y6 y7 y8 y9 y10 k0 k1 k2 k3 k4 k5 k6 k7 k8 k9 k10
   have TS := still_set11 w3 g0 (.bool false) (.int .u8 0) (.int .u16 0) (.int .u32 0) (.int .u32 0) (.slice none 0 0) (.bool false) (.int .u16 0) (.slice none 0 0) (.slice none 0 0) (.int .u8 0)
   have Z4 := Z.out.set11 rfl (.bool false) (.int .u8 0) (.int .u16 0) (.int .u32 0) (.int .u32 0) (.slice none 0 0) (.bool false) (.int .u16 0) (.slice none 0 0) (.slice none 0 0) (.int .u8 0)
   have W4 := Wz.out.still TS (fun j hj => by obtain rfl : j = g0 := (by simpa using hj); exact Wz.out.not_pkt Z.out)
   have S4 := Sz.out.own2 TS (fun j hj => .inr (by have := hg0.out; obtain rfl : j = g0 := (by simpa using hj); omega))
   have z0 := hp_cell (Z4) 0
   have z1 := hp_cell (Z4) 1
   have z2 := hp_cell (Z4) 2
   have z3 := hp_cell (Z4) 3
   have z4 := hp_cell (Z4) 4
   have z5 := hp_cell (Z4) 5
   have z6 := hp_cell (Z4) 6
   have z7 := hp_cell (Z4) 7
   have z8 := hp_cell (Z4) 8
   have z9 := hp_cell (Z4) 9
   have z10 := hp_cell (Z4) 10
   simp only [List.getElem?_toArray, List.getElem?_cons_zero, List.getElem?_cons_succ] at z0 z1 z2 z3 z4 z5 z6 z7 z8 z9 z10
   replace Z4 := Lib.hid Z4
   replace TS := Lib.hid TS
   replace W4 := Lib.hid W4
   replace S4 := Lib.hid S4
   refine bodyPost_ret (v := .tuple #[.agg zC, .int .i64 0, .int .i64 4]) ?_ rfl ⟨⟨zC, rfl, RtpO.zero _ _⟩, ⟨_, _, _, _, _, W4.out⟩, S4.out⟩
   simp [results, Tryz.results13, go_sem, z0, z1, z2, z3, z4, z5, z6, z7, z8, z9, z10, zC, rtpC]
  | true =>
  have ht : b2 = TG := (of_decide_eq_true hbq.out).symm
  have hO3 := hO2.out
  rw [if_neg (fun h => h ht)] at hO3
  clear hO2 ht hE
  replace hO3 := Lib.hid hO3
  obtain ⟨M1, vN1, vW1, ps1, v1, L1, m1⟩ : ∃ M1 vN1 vW1 ps1 v1 L1, RwMid w w3 base g KK lim used M M1 (rwBs g M.length (.slice sN M.length cN) vW ps v) vN1 vW1 ps1 v1 L1 k src nx bs :=
   ⟨M, _, vW, ps, v, L, hWW.out.bw B.out, hk, Prod.ext e1k e2k.symm, fun u => setW_at hMM.out hk e1k u, B.out.still _, fun j hj => .inl ((mem_rwBs hpl.out).2 (.inr (.inr (.inr ⟨k, hk, hj⟩))))⟩
  go_upto_region 22 with (fail)
  clear hk e1k e2k hkm B hWW
  have hB0 : Hid (∀ j ∈ rwBs g M.length (.slice sN M.length cN) vW ps v, j < w.heap.size) := fun j hj => hblw.out j ((mem_rwBs hpl.out).1 hj)
  have hgB0 : Hid (g ∈ rwBs g M.length (.slice sN M.length cN) vW ps v) := (mem_rwBs hpl.out).2 (.inl rfl)
  obtain ⟨r1, r2, r3⟩ := m1.way.ea k m1.hk
  rw [m1.at_] at r2
  dsimp only at r2
  have cM := Lib.hid (rwmark_ok base _ _ _ (by omega) ii (by have := hi2.out; omega) (by rw [← r2.fresh]; exact hfr'.out) w3 (Nat.le_trans hbw.out m1.st.size) r1)
  have hIm := r2.mark ii hfr'.out hgb.out.2
  have z53 := m1.way.win
  obtain ⟨sW1, cW1, hvW1, hnW1, hmW1⟩ := m1.way.wi.len
  unfold maxLen at hmW1
  obtain ⟨gW1, oW1, hsW1, hcW1⟩ := pw_form (by rw [← hvW1]; exact m1.way.wi) (by have := m1.hk; omega)
  have y53 := hcW1 k (by rw [m1.way.wi.1]; exact m1.hk)
  have e3 : ps1[k]'(by rw [m1.way.wi.1]; exact m1.hk) = ps1.getD k 0 := by rw [List.getD_eq_getElem?_getD, List.getElem?_eq_getElem]; rfl
  rw [e3] at y53
  rw [hvW1, hsW1] at z53
  have hkm1 : ((k : Nat) : Int) < (M1.length : Int) := by have := m1.hk; omega
  have hset := Lib.hid (m1.set (wMark nx bs ii))
  clear hcW1 r1 r2 e3
  replace hvW1 := Lib.hid hvW1
  replace hsW1 := Lib.hid hsW1
  replace hIm := Lib.hid hIm
  replace m1 := Lib.hid m1
  go_wp2_with fail
  refine Calls.mono cM.out ?_
  rintro e w22 ⟨rfl, u, RU, TU, GU⟩
  dsimp only
  clear cM z53 y53 hkm1
  obtain ⟨z51, f51', W23⟩ := m1.out.way.marked (k := k) (s := src) m1.out.hk (by rw [m1.out.at_]) (S := ps1.getD k 0 :: (v1 k).ownBlock.toList) (fun j hj => by simpa using hj) TU RU hIm.out (by rw [List.length_append]; simp; omega) GU
  have hTU : ∀ j ∈ ps1.getD k 0 :: (v1 k).ownBlock.toList, j ∈ rwBs g M.length (.slice sN M.length cN) vW ps v ∨ w.heap.size + 2 ≤ j := fun j hj => m1.out.own j (by simpa using hj)
  have f51 := f51' 51
  have T23 := still_setR w22 g 51 (.int .i64 ((used + 1 : Nat) : Int))
  have S23 := Lib.hid ((m1.out.st.own2 TU (fun j hj => (hTU j hj).imp id (fun h => by omega))).own2 T23 (fun j hj => .inl (by obtain rfl : j = g := (by simpa using hj); exact hgB0.out)))
  have hVs : ∀ {m : Nat} {l : List Nat}, SB w (.slice sb m cb) m l → SB _ (.slice sb m cb) m l := fun {m l} hv => ((hv.still m1.out.st (fun k hk hm => (hvow.out k (by revert hk; cases sb <;> simp [Value.ownBlock]) (by omega)).1 hm)).still TU (fun k hk hm => by
   have h1 := hvow.out k (by revert hk; cases sb <;> simp [Value.ownBlock]) (by omega)
   rcases hTU k hm with h | h
   ·exact h1.1 h
   ·have := h1.2; have := hg0.out; omega)).still T23 (fun k hk hm => by
   have h1 := hvow.out k (by revert hk; cases sb <;> simp [Value.ownBlock]) (by omega)
   obtain rfl : k = g := by simpa using hm
   exact h1.1 hgB0.out)
  have V23 := Lib.hid (hVs hVV.out)
  have V13 := Lib.hid (hVs V1.out)
  replace Z := Lib.hid ((Z.out.still TU (fun hm => by
   rcases hTU _ hm with h | h
   ·have := hB0.out _ h; have := hg0.out; omega
   ·have := hg0.out; omega)).still T23 (by have := hg.out; have := hg0.out; simp; omega))
  replace N := Lib.hid ((N.out.still TU (fun hm => by
   rcases hTU _ hm with h | h
   ·have := hB0.out _ h; have := hg0.out; have := hg1.out; omega
   ·have := hg0.out; have := hg1.out; omega)).still T23 (by have := hg.out; have := hg0.out; have := hg1.out; simp; omega))
  rw [show (src, (wMark nx bs ii).1, (wMark nx bs ii).2) = (src, wMark nx bs ii) from rfl, ← hset.out] at W23
  replace W23 := Lib.hid W23
  clear m1 hTU TU RU GU T23 f51' hIm hVV hVs V1 V2
  push_cast at W23 S23 V23 V13 Z N
  go_upto_region 24 with (fail)
  clear z51 f51
  generalize (w22.setCell _ _) = w23 at *
  obtain ⟨hN, hh⟩ : ∃ hN, hdrN b1 = (hN, true) := ⟨(hdrN b1).1, by rw [← hhd]⟩
  have hge := hdrN_ge b1 hhd
  have ch := Lib.hid (hrh w23 V23.out ((n : Int) - 10) hl10.out)
  have hO4 := hO3.out
  rw [hh] at ch hge hO4
  dsimp only at ch hge hO4
  rw [hl1.out] at hge
  clear hO3 hh hhd hrh
  have cs := fun wz (h : BW w23 wz) => Lib.hid (rsealed_ok KK W23.out.len W23.out.byt sb (n - 10) cb b1 hN src ii hge.2 hsrc (by have := hi2.out; omega) (by omega) wz (V13.out.bw h))
  have hspl := spinN_len KK hN src ii b1 (by have := hge.2; have := hl1.out; omega)
  generalize spinN KK hN src ii b1 = sp at *
  generalize tagN KK sp ii = tg2 at *
  generalize hRd : readN sp = RR at *
  obtain ⟨er, hd, d⟩ := RR
  dsimp only at hO4
  rw [hl1.out] at hspl
  replace hge := Lib.hid hge
  replace hO4 := Lib.hid hO4
  replace hRd := Lib.hid hRd
  replace hspl := Lib.hid hspl
  go_wp2_with fail
  refine Calls.mono ch.out ?_
  rintro e w' ⟨rfl, rfl⟩
  dsimp only
  clear ch V23
  have hKl2 : Hid (KK.length = 50) := W23.out.len
  go_upto_region 25 with (fail)
  refine wp_region_gg [] [] [10] (by kernel_rfl) ?_
  refine hoist [] [] (a1 := ?_) 0 rfl (by kernel_rfl) (.inl ⟨rfl, rfl⟩) rfl rfl rfl (fun x K hK => ?_) ?_
  rotate_left
  ·go_big_quiet_op
   exact hK
  refine hoist [] [] (a1 := ?_) 1 rfl (by kernel_rfl) (.inl ⟨rfl, rfl⟩) rfl rfl rfl (fun x K hK => ?_) ?_
  rotate_left
  ·go_big_quiet_op
   exact hK
  refine hoist [] [] (a1 := ?_) 2 rfl (by kernel_rfl) (.inl ⟨rfl, rfl⟩) rfl rfl rfl (fun x K hK => ?_) ?_
  rotate_left
  ·go_big_quiet_op
   exact hK
  refine hoist [] [] (a1 := ?_) 3 rfl (by kernel_rfl) (.inl ⟨rfl, rfl⟩) rfl rfl rfl (fun x K hK => ?_) ?_
  rotate_left
  ·refine qlW ar50 rfl (by rfl) hKl2.out (fun w' hw => by subst hw; exact (W23.out.bw x.bw).range) (by simp only [Act.put, List.setIfInBounds_toArray, List.set_cons_succ, List.set_cons_zero]; rfl) ?_
   exact hK
  refine hoist [] [] (a1 := ?_) 4 rfl (by kernel_rfl) (.inl ⟨rfl, rfl⟩) rfl rfl rfl (fun x K hK => ?_) ?_
  rotate_left
  ·go_big_quiet_op
   exact hK
  refine hoist [] [] (a1 := ?_) 5 rfl (by kernel_rfl) (.inl ⟨rfl, rfl⟩) rfl rfl rfl (fun x K hK => ?_) ?_
  rotate_left
  ·go_big_quiet_op
   exact hK
  refine hoist [] [] (a1 := ?_) 6 rfl (by kernel_rfl) (.inl ⟨rfl, rfl⟩) rfl rfl rfl (fun x K hK => ?_) ?_
  rotate_left
  ·refine qlCutH (hi := n - 10) rfl (by rfl) (by rfl) (by have := hl10.out; omega) (by omega) (by simp only [Act.put, List.setIfInBounds_toArray, List.set_cons_succ, List.set_cons_zero]; rfl) ?_
   exact hK
  refine hoist [] [] (a1 := ?_) 7 rfl (by kernel_rfl) (.inl ⟨rfl, rfl⟩) rfl rfl rfl (fun x K hK => ?_) ?_
  rotate_left
  ·go_big_quiet_op
   exact hK
  refine hoist [] [] (a1 := ?_) 8 rfl (by kernel_rfl) (.inl ⟨rfl, rfl⟩) rfl rfl rfl (fun x K hK => ?_) ?_
  rotate_left
  ·go_big_quiet_op
   exact hK
  refine hoist [] [] (a1 := ?_) 9 rfl (by kernel_rfl) (.inl ⟨rfl, rfl⟩) rfl rfl rfl (fun x K hK => ?_) ?_
  rotate_left
  ·go_big_quiet_op
   exact hK
  refine tail 10 rfl (by kernel_rfl) rfl (fun xr => ?_)
  simp only [List.drop_succ_cons, List.drop_zero]
  go_wp2_with fail
  refine Calls.mono (cs xr.now xr.bw).out ?_
  rintro e w11 ⟨s11, c11, rfl, O11, hb⟩
  obtain ⟨_, _, he, hc11, hm11⟩ := O11.len
  cases he
  unfold maxLen at hm11
  have hb11 := xr.bw.trans hb
  replace Z := Lib.hid (Z.out.bw hb11)
  replace N := Lib.hid (N.out.bw hb11)
  have W11 := Lib.hid (W23.out.bw hb11)
  have S11 := Lib.hid (S23.out.bw' hb11)
  have V11 := O11.sb.takeW (n - 10) (by omega)
  rw [List.take_left' hspl.out] at V11
  have cr := Lib.hid (refRead_any _ _ _ (by omega) w11 V11)
  rw [hRd.out] at cr
  have hz11 := Lib.hid (show w.heap.size ≤ w11.heap.size from S11.out.size)
  have h0l := Lib.hid Z.out.lt
  clear hb hb11 O11 V11 W23 S23 cs hRd V13
  dsimp only
  have hl10' := hl10.out
  go_wp2_with fail
  refine Calls.mono cr.out ?_
  rintro e w12 ⟨c, rfl, O, hb⟩
  clear hl10'
  obtain ⟨so_, co, se, ce, sp_, cp, rfl, -, -, -⟩ := O.open
  dsimp only at O ⊢
  replace Z := Lib.hid (Z.out.bw hb)
  replace N := Lib.hid (N.out.bw hb)
  have W12 := Lib.hid (W11.out.bw hb)
  have S12 := Lib.hid (S11.out.bw' hb)
  clear cr W11 S11
  generalize d.others.length = no at *
  generalize d.extra.length = ne at *
  generalize d.payload.length = np at *
  obtain ⟨mk, ty, sq_, st, so, ot, xb, pf, ex, pl, pd⟩ := d
  simp only [rtpC] at O ⊢
  have B3 : BW w12 (w12.alloc (.cells #[.bool mk, .int .u8 (ty : Nat), .int .u16 (sq_ : Nat), .int .u32 (st : Nat), .int .u32 (so : Nat), .slice so_ no co, .bool xb, .int .u16 (pf : Nat), .slice se ne ce, .slice sp_ np cp, .int .u8 (pd : Nat)] 37)) := (BW.refl _).alloc
  have P3 : Hid (PkV (w12.alloc (.cells #[.bool mk, .int .u8 (ty : Nat), .int .u16 (sq_ : Nat), .int .u32 (st : Nat), .int .u32 (so : Nat), .slice so_ no co, .bool xb, .int .u16 (pf : Nat), .slice se ne ce, .slice sp_ np cp, .int .u8 (pd : Nat)] 37)) w12.heap.size #[.bool mk, .int .u8 (ty : Nat), .int .u16 (sq_ : Nat), .int .u32 (st : Nat), .int .u32 (so : Nat), .slice so_ no co, .bool xb, .int .u16 (pf : Nat), .slice se ne ce, .slice sp_ np cp, .int .u8 (pd : Nat)]) := HpB.new w12 _
  have W13 := Lib.hid (W12.out.bw B3)
  have S13 := Lib.hid (S12.out.bw' B3)
  have O3 := Lib.hid (O.bw B3)
  replace Z := Lib.hid (Z.out.bw B3)
  replace N := Lib.hid (N.out.bw B3)
  have hz12 := Lib.hid (Nat.le_trans hz11.out hb.size)
  replace O := Lib.hid O
  clear hb W12 S12 B3
  go_upto_region 27 with (fail)
  generalize w12.alloc (.cells #[.bool mk, .int .u8 (ty : Nat), .int .u16 (sq_ : Nat), .int .u32 (st : Nat), .int .u32 (so : Nat), .slice so_ no co, .bool xb, .int .u16 (pf : Nat), .slice se ne ce, .slice sp_ np cp, .int .u8 (pd : Nat)] 37) = w13 at *
  generalize w12.heap.size = g3 at *
  clear O
  by_cases her : er = 0
  rotate_left
  ·have d1 : ((er : Int) != 0) = true := by simpa using her
   have hR := hO4.out
   rw [if_pos her] at hR
   subst hR
   have Wz := W13
   have Sz := S13
   clear W13 S13 her P3 O3 hO4
   have z0 := hp_cell (Z.out) 0
   have y0 := hp_frz (Z.out) 0
   have z1 := hp_cell (Z.out) 1
   have y1 := hp_frz (Z.out) 1
   have z2 := hp_cell (Z.out) 2
   have y2 := hp_frz (Z.out) 2
   have z3 := hp_cell (Z.out) 3
   have y3 := hp_frz (Z.out) 3
   have z4 := hp_cell (Z.out) 4
   have y4 := hp_frz (Z.out) 4
   have z5 := hp_cell (Z.out) 5
   have y5 := hp_frz (Z.out) 5
   have z6 := hp_cell (Z.out) 6
   have y6 := hp_frz (Z.out) 6
   have z7 := hp_cell (Z.out) 7
   have y7 := hp_frz (Z.out) 7
   have z8 := hp_cell (Z.out) 8
   have y8 := hp_frz (Z.out) 8
   have z9 := hp_cell (Z.out) 9
   have y9 := hp_frz (Z.out) 9
   have z10 := hp_cell (Z.out) 10
   have y10 := hp_frz (Z.out) 10
   simp only [zC, rtpC, List.getElem?_toArray, List.getElem?_cons_zero, List.getElem?_cons_succ] at z0 z1 z2 z3 z4 z5 z6 z7 z8 z9 z10
   have k0 := hp_cell (N.out) 0
   have k1 := hp_cell (N.out) 1
   have k2 := hp_cell (N.out) 2
   have k3 := hp_cell (N.out) 3
   have k4 := hp_cell (N.out) 4
   have k5 := hp_cell (N.out) 5
   have k6 := hp_cell (N.out) 6
   have k7 := hp_cell (N.out) 7
   have k8 := hp_cell (N.out) 8
   have k9 := hp_cell (N.out) 9
   have k10 := hp_cell (N.out) 10
   simp only [zC, rtpC, List.getElem?_toArray, List.getElem?_cons_zero, List.getElem?_cons_succ] at k0 k1 k2 k3 k4 k5 k6 k7 k8 k9 k10
   go_wp2_with fail
   clear z0 z1 z2 z3 z4 z5 z6 z7 z8 z9 z10 y0 y1 y2 y3 y4 y5 y6 y7 y8 y9 y10 k0 k1 k2 k3 k4 k5 k6 k7 k8 k9 k10
   have TS := still_set11 w13 g0 (.bool false) (.int .u8 0) (.int .u16 0) (.int .u32 0) (.int .u32 0) (.slice none 0 0) (.bool false) (.int .u16 0) (.slice none 0 0) (.slice none 0 0) (.int .u8 0)
   have Z4 := Z.out.set11 rfl (.bool false) (.int .u8 0) (.int .u16 0) (.int .u32 0) (.int .u32 0) (.slice none 0 0) (.bool false) (.int .u16 0) (.slice none 0 0) (.slice none 0 0) (.int .u8 0)
   have W4 := Wz.out.still TS (fun j hj => by obtain rfl : j = g0 := (by simpa using hj); exact Wz.out.not_pkt Z.out)
   have S4 := Sz.out.own2 TS (fun j hj => .inr (by have := hg0.out; obtain rfl : j = g0 := (by simpa using hj); omega))
   have z0 := hp_cell (Z4) 0
   have z1 := hp_cell (Z4) 1
   have z2 := hp_cell (Z4) 2
   have z3 := hp_cell (Z4) 3
   have z4 := hp_cell (Z4) 4
   have z5 := hp_cell (Z4) 5
   have z6 := hp_cell (Z4) 6
   have z7 := hp_cell (Z4) 7
   have z8 := hp_cell (Z4) 8
   have z9 := hp_cell (Z4) 9
   have z10 := hp_cell (Z4) 10
   simp only [List.getElem?_toArray, List.getElem?_cons_zero, List.getElem?_cons_succ] at z0 z1 z2 z3 z4 z5 z6 z7 z8 z9 z10
   replace Z4 := Lib.hid Z4
   replace TS := Lib.hid TS
   replace W4 := Lib.hid W4
   replace S4 := Lib.hid S4
   refine bodyPost_ret (v := .tuple #[.agg zC, .int .i64 0, .int .i64 3]) ?_ rfl ⟨⟨zC, rfl, RtpO.zero _ _⟩, ⟨_, _, _, _, _, W4.out⟩, S4.out⟩
   simp [results, Tryz.results13, go_sem, z0, z1, z2, z3, z4, z5, z6, z7, z8, z9, z10, zC, rtpC]
  have d1 : ((er : Int) != 0) = false := by simpa using her
  have hR := hO4.out
  rw [if_neg (by omega)] at hR
  subst hR
  clear her hO4
  go_upto_region 29 with (fail)
  clear d1
  have z0 := hp_cell (Z.out) 0
  have y0 := hp_frz (Z.out) 0
  have z1 := hp_cell (Z.out) 1
  have y1 := hp_frz (Z.out) 1
  have z2 := hp_cell (Z.out) 2
  have y2 := hp_frz (Z.out) 2
  have z3 := hp_cell (Z.out) 3
  have y3 := hp_frz (Z.out) 3
  have z4 := hp_cell (Z.out) 4
  have y4 := hp_frz (Z.out) 4
  have z5 := hp_cell (Z.out) 5
  have y5 := hp_frz (Z.out) 5
  have z6 := hp_cell (Z.out) 6
  have y6 := hp_frz (Z.out) 6
  have z7 := hp_cell (Z.out) 7
  have y7 := hp_frz (Z.out) 7
  have z8 := hp_cell (Z.out) 8
  have y8 := hp_frz (Z.out) 8
  have z9 := hp_cell (Z.out) 9
  have y9 := hp_frz (Z.out) 9
  have z10 := hp_cell (Z.out) 10
  have y10 := hp_frz (Z.out) 10
  simp only [zC, rtpC, List.getElem?_toArray, List.getElem?_cons_zero, List.getElem?_cons_succ] at z0 z1 z2 z3 z4 z5 z6 z7 z8 z9 z10
  have k0 := hp_cell (P3.out) 0
  have k1 := hp_cell (P3.out) 1
  have k2 := hp_cell (P3.out) 2
  have k3 := hp_cell (P3.out) 3
  have k4 := hp_cell (P3.out) 4
  have k5 := hp_cell (P3.out) 5
  have k6 := hp_cell (P3.out) 6
  have k7 := hp_cell (P3.out) 7
  have k8 := hp_cell (P3.out) 8
  have k9 := hp_cell (P3.out) 9
  have k10 := hp_cell (P3.out) 10
  simp only [List.getElem?_toArray, List.getElem?_cons_zero, List.getElem?_cons_succ] at k0 k1 k2 k3 k4 k5 k6 k7 k8 k9 k10
  go_wp2_with fail
  clear z0 z1 z2 z3 z4 z5 z6 z7 z8 z9 z10 y0 y1 y2 y3 y4 y5 y6 y7 y8 y9 y10 k0 k1 k2 k3 k4 k5 k6 k7 k8 k9 k10
  have TS := still_set11 w13 g0 (.bool mk) (.int .u8 (ty : Nat)) (.int .u16 (sq_ : Nat)) (.int .u32 (st : Nat)) (.int .u32 (so : Nat)) (.slice so_ no co) (.bool xb) (.int .u16 (pf : Nat)) (.slice se ne ce) (.slice sp_ np cp) (.int .u8 (pd : Nat))
  have Z4 := Z.out.set11 rfl (.bool mk) (.int .u8 (ty : Nat)) (.int .u16 (sq_ : Nat)) (.int .u32 (st : Nat)) (.int .u32 (so : Nat)) (.slice so_ no co) (.bool xb) (.int .u16 (pf : Nat)) (.slice se ne ce) (.slice sp_ np cp) (.int .u8 (pd : Nat))
  have O4 := (O3.out.still TS (by have := h0l.out; simp; omega)).up hz11.out
  have W4 := W13.out.still TS (fun j hj => by obtain rfl : j = g0 := (by simpa using hj); exact W13.out.not_pkt Z.out)
  have S4 := S13.out.own2 TS (fun j hj => .inr (by have := hg0.out; obtain rfl : j = g0 := (by simpa using hj); omega))
  have z0 := hp_cell (Z4) 0
  have z1 := hp_cell (Z4) 1
  have z2 := hp_cell (Z4) 2
  have z3 := hp_cell (Z4) 3
  have z4 := hp_cell (Z4) 4
  have z5 := hp_cell (Z4) 5
  have z6 := hp_cell (Z4) 6
  have z7 := hp_cell (Z4) 7
  have z8 := hp_cell (Z4) 8
  have z9 := hp_cell (Z4) 9
  have z10 := hp_cell (Z4) 10
  simp only [List.getElem?_toArray, List.getElem?_cons_zero, List.getElem?_cons_succ] at z0 z1 z2 z3 z4 z5 z6 z7 z8 z9 z10
  replace Z4 := Lib.hid Z4
  replace TS := Lib.hid TS
  replace O4 := Lib.hid O4
  replace W4 := Lib.hid W4
  replace S4 := Lib.hid S4
  refine bodyPost_ret (v := .tuple #[.agg #[.bool mk, .int .u8 (ty : Nat), .int .u16 (sq_ : Nat), .int .u32 (st : Nat), .int .u32 (so : Nat), .slice so_ no co, .bool xb, .int .u16 (pf : Nat), .slice se ne ce, .slice sp_ np cp, .int .u8 (pd : Nat)], .int .i64 (ii : Nat), .int .i64 0]) ?_ rfl ⟨⟨_, rfl, O4.out⟩, ⟨_, _, _, _, _, W4.out⟩, S4.out⟩
  simp [results, Tryz.results13, go_sem, z0, z1, z2, z3, z4, z5, z6, z7, z8, z9, z10]
 ·rw [ea]
  rw [eh] at hF2
  by_cases h8 : 8 ≤ M.length
  ·have d8 : decide ((8 : Int) ≤ (M.length : Int)) = true := by simp; omega
   have hR := hO1.out
   rw [hF2.out, if_pos (show false = false ∧ 8 ≤ M.length from ⟨rfl, h8⟩)] at hR
   replace hR : R = ((6, 0, rZero), used, M) := hR
   subst hR
   clear hO1 h8 hF2
   have Wz := Lib.hid (hWW.out.bw B.out)
   have Sz := Lib.hid (B.out.still (rwBs g M.length (.slice sN M.length cN) vW ps v))
   have z0 := hp_cell (Z.out) 0
   have y0 := hp_frz (Z.out) 0
   have z1 := hp_cell (Z.out) 1
   have y1 := hp_frz (Z.out) 1
   have z2 := hp_cell (Z.out) 2
   have y2 := hp_frz (Z.out) 2
   have z3 := hp_cell (Z.out) 3
   have y3 := hp_frz (Z.out) 3
   have z4 := hp_cell (Z.out) 4
   have y4 := hp_frz (Z.out) 4
   have z5 := hp_cell (Z.out) 5
   have y5 := hp_frz (Z.out) 5
   have z6 := hp_cell (Z.out) 6
   have y6 := hp_frz (Z.out) 6
   have z7 := hp_cell (Z.out) 7
   have y7 := hp_frz (Z.out) 7
   have z8 := hp_cell (Z.out) 8
   have y8 := hp_frz (Z.out) 8
   have z9 := hp_cell (Z.out) 9
   have y9 := hp_frz (Z.out) 9
   have z10 := hp_cell (Z.out) 10
   have y10 := hp_frz (Z.out) 10
   simp only [zC, rtpC, List.getElem?_toArray, List.getElem?_cons_zero, List.getElem?_cons_succ] at z0 z1 z2 z3 z4 z5 z6 z7 z8 z9 z10
   have k0 := hp_cell (N.out) 0
   have k1 := hp_cell (N.out) 1
   have k2 := hp_cell (N.out) 2
   have k3 := hp_cell (N.out) 3
   have k4 := hp_cell (N.out) 4
   have k5 := hp_cell (N.out) 5
   have k6 := hp_cell (N.out) 6
   have k7 := hp_cell (N.out) 7
   have k8 := hp_cell (N.out) 8
   have k9 := hp_cell (N.out) 9
   have k10 := hp_cell (N.out) 10
   simp only [zC, rtpC, List.getElem?_toArray, List.getElem?_cons_zero, List.getElem?_cons_succ] at k0 k1 k2 k3 k4 k5 k6 k7 k8 k9 k10
   go_wp2_with fail
   clear z0 z1 z2 z3 z4 z5 z6 z7 z8 z9 z10 y0 y1 y2 y3 y4 y5 y6 y7 y8 y9 y10 k0 k1 k2 k3 k4 k5 k6 k7 k8 k9 k10
   have TS := still_set11 w2 g0 (.bool false) (.int .u8 0) (.int .u16 0) (.int .u32 0) (.int .u32 0) (.slice none 0 0) (.bool false) (.int .u16 0) (.slice none 0 0) (.slice none 0 0) (.int .u8 0)
   have Z4 := Z.out.set11 rfl (.bool false) (.int .u8 0) (.int .u16 0) (.int .u32 0) (.int .u32 0) (.slice none 0 0) (.bool false) (.int .u16 0) (.slice none 0 0) (.slice none 0 0) (.int .u8 0)
   have W4 := Wz.out.still TS (fun j hj => by obtain rfl : j = g0 := (by simpa using hj); exact Wz.out.not_pkt Z.out)
   have S4 := Sz.out.own2 TS (fun j hj => .inr (by have := hg0.out; obtain rfl : j = g0 := (by simpa using hj); omega))
   have z0 := hp_cell (Z4) 0
   have z1 := hp_cell (Z4) 1
   have z2 := hp_cell (Z4) 2
   have z3 := hp_cell (Z4) 3
   have z4 := hp_cell (Z4) 4
   have z5 := hp_cell (Z4) 5
   have z6 := hp_cell (Z4) 6
   have z7 := hp_cell (Z4) 7
   have z8 := hp_cell (Z4) 8
   have z9 := hp_cell (Z4) 9
   have z10 := hp_cell (Z4) 10
   simp only [List.getElem?_toArray, List.getElem?_cons_zero, List.getElem?_cons_succ] at z0 z1 z2 z3 z4 z5 z6 z7 z8 z9 z10
   replace Z4 := Lib.hid Z4
   replace TS := Lib.hid TS
   replace W4 := Lib.hid W4
   replace S4 := Lib.hid S4
   refine bodyPost_ret (v := .tuple #[.agg zC, .int .i64 0, .int .i64 6]) ?_ rfl ⟨⟨zC, rfl, RtpO.zero _ _⟩, ⟨_, _, _, _, _, W4.out⟩, S4.out⟩
   simp [results, Tryz.results13, go_sem, z0, z1, z2, z3, z4, z5, z6, z7, z8, z9, z10, zC, rtpC]
  have d8 : decide ((8 : Int) ≤ (M.length : Int)) = false := by simp; omega
  have hF3 := Lib.hid (hF2.out.trans (if_neg (fun h => h8 h.2)))
  go_upto_region 10 with (fail)
  clear hF2 z52 ea d8 h8
  go_wp2_with fail
  refine Calls.mono (cH w2 B.out).out ?_
  rintro e w' ⟨rfl, rfl⟩
  dsimp only
  clear cH
  go_wp2_with fail
  refine Calls.mono (cI w2).out ?_
  rintro e w' ⟨rfl, rfl⟩
  dsimp only
  clear cI
  by_cases hbig : 281474976710656 ≤ ix
  ·have d1 : decide (281474976710656 ≤ ix) = true := by simpa using hbig
   have hR := hO1.out
   rw [hF3.out, if_pos hbig] at hR
   replace hR : R = ((3, 0, rZero), used, M) := hR
   subst hR
   clear hO1 hbig hF3
   have Wz := Lib.hid (hWW.out.bw B.out)
   have Sz := Lib.hid (B.out.still (rwBs g M.length (.slice sN M.length cN) vW ps v))
   have z0 := hp_cell (Z.out) 0
   have y0 := hp_frz (Z.out) 0
   have z1 := hp_cell (Z.out) 1
   have y1 := hp_frz (Z.out) 1
   have z2 := hp_cell (Z.out) 2
   have y2 := hp_frz (Z.out) 2
   have z3 := hp_cell (Z.out) 3
   have y3 := hp_frz (Z.out) 3
   have z4 := hp_cell (Z.out) 4
   have y4 := hp_frz (Z.out) 4
   have z5 := hp_cell (Z.out) 5
   have y5 := hp_frz (Z.out) 5
   have z6 := hp_cell (Z.out) 6
   have y6 := hp_frz (Z.out) 6
   have z7 := hp_cell (Z.out) 7
   have y7 := hp_frz (Z.out) 7
   have z8 := hp_cell (Z.out) 8
   have y8 := hp_frz (Z.out) 8
   have z9 := hp_cell (Z.out) 9
   have y9 := hp_frz (Z.out) 9
   have z10 := hp_cell (Z.out) 10
   have y10 := hp_frz (Z.out) 10
   simp only [zC, rtpC, List.getElem?_toArray, List.getElem?_cons_zero, List.getElem?_cons_succ] at z0 z1 z2 z3 z4 z5 z6 z7 z8 z9 z10
   have k0 := hp_cell (N.out) 0
   have k1 := hp_cell (N.out) 1
   have k2 := hp_cell (N.out) 2
   have k3 := hp_cell (N.out) 3
   have k4 := hp_cell (N.out) 4
   have k5 := hp_cell (N.out) 5
   have k6 := hp_cell (N.out) 6
   have k7 := hp_cell (N.out) 7
   have k8 := hp_cell (N.out) 8
   have k9 := hp_cell (N.out) 9
   have k10 := hp_cell (N.out) 10
   simp only [zC, rtpC, List.getElem?_toArray, List.getElem?_cons_zero, List.getElem?_cons_succ] at k0 k1 k2 k3 k4 k5 k6 k7 k8 k9 k10
   go_wp2_with fail
   clear z0 z1 z2 z3 z4 z5 z6 z7 z8 z9 z10 y0 y1 y2 y3 y4 y5 y6 y7 y8 y9 y10 k0 k1 k2 k3 k4 k5 k6 k7 k8 k9 k10
   have TS := still_set11 w2 g0 (.bool false) (.int .u8 0) (.int .u16 0) (.int .u32 0) (.int .u32 0) (.slice none 0 0) (.bool false) (.int .u16 0) (.slice none 0 0) (.slice none 0 0) (.int .u8 0)
   have Z4 := Z.out.set11 rfl (.bool false) (.int .u8 0) (.int .u16 0) (.int .u32 0) (.int .u32 0) (.slice none 0 0) (.bool false) (.int .u16 0) (.slice none 0 0) (.slice none 0 0) (.int .u8 0)
   have W4 := Wz.out.still TS (fun j hj => by obtain rfl : j = g0 := (by simpa using hj); exact Wz.out.not_pkt Z.out)
   have S4 := Sz.out.own2 TS (fun j hj => .inr (by have := hg0.out; obtain rfl : j = g0 := (by simpa using hj); omega))
   have z0 := hp_cell (Z4) 0
   have z1 := hp_cell (Z4) 1
   have z2 := hp_cell (Z4) 2
   have z3 := hp_cell (Z4) 3
   have z4 := hp_cell (Z4) 4
   have z5 := hp_cell (Z4) 5
   have z6 := hp_cell (Z4) 6
   have z7 := hp_cell (Z4) 7
   have z8 := hp_cell (Z4) 8
   have z9 := hp_cell (Z4) 9
   have z10 := hp_cell (Z4) 10
   simp only [List.getElem?_toArray, List.getElem?_cons_zero, List.getElem?_cons_succ] at z0 z1 z2 z3 z4 z5 z6 z7 z8 z9 z10
   replace Z4 := Lib.hid Z4
   replace TS := Lib.hid TS
   replace W4 := Lib.hid W4
   replace S4 := Lib.hid S4
   refine bodyPost_ret (v := .tuple #[.agg zC, .int .i64 0, .int .i64 3]) ?_ rfl ⟨⟨zC, rfl, RtpO.zero _ _⟩, ⟨_, _, _, _, _, W4.out⟩, S4.out⟩
   simp [results, Tryz.results13, go_sem, z0, z1, z2, z3, z4, z5, z6, z7, z8, z9, z10, zC, rtpC]
  have d1 : decide (281474976710656 ≤ ix) = false := by simpa using hbig
  have hF4 := Lib.hid (hF3.out.trans (if_neg hbig))
  clear hF3
  go_upto_region 13 with (fail)
  clear d1
  have hfr : ¬ wFresh nx bs ix = false := by
   obtain ⟨rfl, rfl⟩ : nx = 0 ∧ bs = 0 := by simpa using e2k
   rcases hge.out with h | h
   ·obtain ⟨i0, rfl⟩ := Int.eq_ofNat_of_zero_le h.1
    rw [wFresh_new]; decide
   ·have := h.2; subst this
    rw [wFresh_new]; decide
  have hF5 := Lib.hid (hF4.out.trans (if_neg hfr))
  clear hF4
  have hfz := hfi.out
  rw [hF5.out] at hfz
  obtain ⟨h0i, hi48, hfr'⟩ := hfz rfl
  dsimp only at h0i hi48 hfr'
  obtain ⟨ii, rfl⟩ : ∃ ii : Nat, ix = (ii : Nat) := ⟨ix.toNat, by omega⟩
  have hO2 := hO1.out
  rw [hF5.out] at hO2
  rw [if_neg (fun h => h rfl)] at hO2
  rw [Int.toNat_natCast] at hO2
  clear hfi hO1 hF5 hfr hbig hfz
  have hi2 : Hid (ii < 2 ^ 48) := by show _ < _; omega
  clear h0i hi48
  replace hO2 := Lib.hid hO2
  replace hfr' := Lib.hid hfr'
  go_upto_region 16 with (fail)
  have V1 := Lib.hid (hVV.out.takeW (n - 10) (by omega))
  have V2 := Lib.hid (hVV.out.dropW (n - 10) (by omega))
  have hl1 : (b.take (n - 10)).length = n - 10 := by rw [List.length_take, hbl.out]; omega
  have hrh := fun wz (h : SB wz (.slice sb n cb) n b) u hu => Lib.hid (rhead_ok sb n cb (n - 10) b (by omega) (by omega) (by omega) wz h u hu)
  generalize b.take (n - 10) = b1 at *
  generalize b.drop (n - 10) = b2 at *
  have hTb : ByL (tagN KK b1 ii) := by
   unfold tagN
   exact (hmac_byt _ _).take _
  have hE := bstr_eqb hTb V2.out.2.1
  have cT := fun wz (h : BW w wz) => Lib.hid (rwtagI_ok KK hWW.out.len hWW.out.byt sb (n - 10) cb b1 ii (by have := hi2.out; omega) (by omega) wz (V1.out.bw h))
  generalize hTG : tagN KK b1 ii = TG at *
  generalize hbq : decide (TG = b2) = bq at *
  have E2 : ∀ y : LaterS [] w2, _ := fun y => conv_sb (V2.out.bw (B.out.trans y.bw))
  generalize bstr b2 = S2 at *
  generalize hS1 : bstr TG = S1 at *
  have hl10 : (n : Int) - 10 = ((n - 10 : Nat) : Int) := by omega
  have hKl : Hid (KK.length = 50) := hWW.out.len
  replace hTb := Lib.hid hTb
  replace hTG := Lib.hid hTG
  replace hbq := Lib.hid hbq
  replace hS1 := Lib.hid hS1
  replace hl10 := Lib.hid hl10
  replace hl1 := Lib.hid hl1
  try simp only [Act.put, List.setIfInBounds_toArray, List.set_cons_succ, List.set_cons_zero]
  refine wp_region_gg [] [] [] (by kernel_rfl) ?_
  refine hoist [] [] (a1 := ?_) 0 rfl (by kernel_rfl) (.inl ⟨rfl, rfl⟩) rfl rfl rfl (fun x K hK => ?_) ?_
  rotate_left
  ·go_big_quiet_op
   exact hK
  refine hoist [] [] (a1 := ?_) 1 rfl (by kernel_rfl) (.inl ⟨rfl, rfl⟩) rfl rfl rfl (fun x K hK => ?_) ?_
  rotate_left
  ·go_big_quiet_op
   exact hK
  refine hoist [] [] (a1 := ?_) 2 rfl (by kernel_rfl) (.inl ⟨rfl, rfl⟩) rfl rfl rfl (fun x K hK => ?_) ?_
  rotate_left
  ·go_big_quiet_op
   exact hK
  refine hoist [] [] (a1 := ?_) 3 rfl (by kernel_rfl) (.inl ⟨rfl, rfl⟩) rfl rfl rfl (fun x K hK => ?_) ?_
  rotate_left
  ·refine qlW ar50 rfl (by rfl) hKl.out (fun w' hw => by subst hw; exact (hWW.out.bw (B.out.trans x.bw)).range) (by simp only [Act.put, List.setIfInBounds_toArray, List.set_cons_succ, List.set_cons_zero]; rfl) ?_
   exact hK
  refine hoist [] [] (a1 := ?_) 4 rfl (by kernel_rfl) (.inl ⟨rfl, rfl⟩) rfl rfl rfl (fun x K hK => ?_) ?_
  rotate_left
  ·go_big_quiet_op
   exact hK
  refine hoist [] [] (a1 := ?_) 5 rfl (by kernel_rfl) (.inl ⟨rfl, rfl⟩) rfl rfl rfl (fun x K hK => ?_) ?_
  rotate_left
  ·go_big_quiet_op
   exact hK
  refine hoist [] [] (a1 := ?_) 6 rfl (by kernel_rfl) (.inl ⟨rfl, rfl⟩) rfl rfl rfl (fun x K hK => ?_) ?_
  rotate_left
  ·refine qlCutH (hi := n - 10) rfl (by rfl) (by rfl) (by omega) (by omega) (by simp only [Act.put, List.setIfInBounds_toArray, List.set_cons_succ, List.set_cons_zero]; rfl) ?_
   exact hK
  refine hoist [] [] (a1 := ?_) 7 rfl (by kernel_rfl) (.inl ⟨rfl, rfl⟩) rfl rfl rfl (fun x K hK => ?_) ?_
  rotate_left
  ·go_big_quiet_op
   exact hK
  refine hoist [] [] (a1 := ?_) 10 rfl (by kernel_rfl) (.inl ⟨rfl, rfl⟩) rfl rfl rfl (fun x K hK => ?_) ?_
  rotate_left
  ·go_big_quiet_op
   exact hK
  refine hoist [] [] (a1 := ?_) 11 rfl (by kernel_rfl) (.inl ⟨rfl, rfl⟩) rfl rfl rfl (fun x K hK => ?_) ?_
  rotate_left
  ·go_big_quiet_op
   exact hK
  refine hoist [] [] (a1 := ?_) 12 rfl (by kernel_rfl) (.inl ⟨rfl, rfl⟩) rfl rfl rfl (fun x K hK => ?_) ?_
  rotate_left
  ·refine qlCutL (lo := n - 10) rfl (by rfl) (by rfl) (by omega) (by omega) (by simp only [Act.put, List.setIfInBounds_toArray, List.set_cons_succ, List.set_cons_zero]; rfl) ?_
   exact hK
  refine hoist [] [] (a1 := ?_) 13 rfl (by kernel_rfl) (.inl ⟨rfl, rfl⟩) rfl rfl rfl (fun x K hK => ?_) ?_
  rotate_left
  ·go_big_quiet_op
   exact hK
  refine effect 8 rfl (by kernel_rfl) (by kernel_rfl) rfl (fun x8 K hK => ?_)
  go_simp
  refine Calls.mono (cT x8.now (B.out.trans x8.bw)).out ?_
  rintro e w18 ⟨s9, c9, rfl, O9, hb⟩
  refine hK _ _ (hb.still []) ?_
  clear hK K
  replace Z := Lib.hid (Z.out.bw (x8.bw.trans hb))
  replace N := Lib.hid (N.out.bw (x8.bw.trans hb))
  replace B := Lib.hid (B.out.trans (x8.bw.trans hb))
  clear hb E2 cT
  have E2 : ∀ y : LaterS [] w18, _ := fun y => conv_sb (V2.out.bw (B.out.trans y.bw))
  have E1 : ∀ y : LaterS [] w18, _ := fun y => conv_sb (O9.bw y.bw).sb
  rw [hS1.out] at E1
  clear O9
  try simp only [Act.put, List.setIfInBounds_toArray, List.set_cons_succ, List.set_cons_zero]
  refine hoist [] [] (a1 := ?_) 9 rfl (by kernel_rfl) (.inl ⟨rfl, rfl⟩) rfl rfl rfl (fun x K hK => ?_) ?_
  rotate_left
  ·go_big_quiet_op
   exact hK
  refine hoist [] [] (a1 := ?_) 14 rfl (by kernel_rfl) (.inl ⟨rfl, rfl⟩) rfl rfl rfl (fun x K hK => ?_) ?_
  rotate_left
  ·go_big_quiet_op
   exact hK
  refine done (by kernel_rfl) (fun xr => ?_)
  replace Z := Lib.hid (Z.out.bw xr.bw)
  replace N := Lib.hid (N.out.bw xr.bw)
  replace B := Lib.hid (B.out.trans xr.bw)
  clear E1 E2
  generalize xr.now = w3 at *
  cases bq with
  | false =>
   have ht : b2 ≠ TG := fun h => (of_decide_eq_false hbq.out) h.symm
   have hR := hO2.out
   rw [if_pos ht] at hR
   subst hR
   clear hO2 ht
   have Wz := Lib.hid (hWW.out.bw B.out)
   have Sz := Lib.hid (B.out.still (rwBs g M.length (.slice sN M.length cN) vW ps v))
   have z0 := hp_cell (Z.out) 0
   have y0 := hp_frz (Z.out) 0
   have z1 := hp_cell (Z.out) 1
   have y1 := hp_frz (Z.out) 1
   have z2 := hp_cell (Z.out) 2
   have y2 := hp_frz (Z.out) 2
   have z3 := hp_cell (Z.out) 3
   have y3 := hp_frz (Z.out) 3
   have z4 := hp_cell (Z.out) 4
   have y4 := hp_frz (Z.out) 4
   have z5 := hp_cell (Z.out) 5
   have y5 := hp_frz (Z.out) 5
   have z6 := hp_cell (Z.out) 6
   have y6 := hp_frz (Z.out) 6
   have z7 := hp_cell (Z.out) 7
   have y7 := hp_frz (Z.out) 7
   have z8 := hp_cell (Z.out) 8
   have y8 := hp_frz (Z.out) 8
   have z9 := hp_cell (Z.out) 9
   have y9 := hp_frz (Z.out) 9
   have z10 := hp_cell (Z.out) 10
   have y10 := hp_frz (Z.out) 10
   simp only [zC, rtpC, List.getElem?_toArray, List.getElem?_cons_zero, List.getElem?_cons_succ] at z0 z1 z2 z3 z4 z5 z6 z7 z8 z9 z10
   have k0 := hp_cell (N.out) 0
   have k1 := hp_cell (N.out) 1
   have k2 := hp_cell (N.out) 2
   have k3 := hp_cell (N.out) 3
   have k4 := hp_cell (N.out) 4
   have k5 := hp_cell (N.out) 5
   have k6 := hp_cell (N.out) 6
   have k7 := hp_cell (N.out) 7
   have k8 := hp_cell (N.out) 8
   have k9 := hp_cell (N.out) 9
   have k10 := hp_cell (N.out) 10
   simp only [zC, rtpC, List.getElem?_toArray, List.getElem?_cons_zero, List.getElem?_cons_succ] at k0 k1 k2 k3 k4 k5 k6 k7 k8 k9 k10
   go_wp2_with fail
   clear z0 z1 z2 z3 z4 z5 z6 z7 z8 z9 z10 y0 y1 y2 y3 y4 y5 y6 y7 y8 y9 y10 k0 k1 k2 k3 k4 k5 k6 k7 k8 k9 k10
   have TS := still_set11 w3 g0 (.bool false) (.int .u8 0) (.int .u16 0) (.int .u32 0) (.int .u32 0) (.slice none 0 0) (.bool false) (.int .u16 0) (.slice none 0 0) (.slice none 0 0) (.int .u8 0)
   have Z4 := Z.out.set11 rfl (.bool false) (.int .u8 0) (.int .u16 0) (.int .u32 0) (.int .u32 0) (.slice none 0 0) (.bool false) (.int .u16 0) (.slice none 0 0) (.slice none 0 0) (.int .u8 0)
   have W4 := Wz.out.still TS (fun j hj => by obtain rfl : j = g0 := (by simpa using hj); exact Wz.out.not_pkt Z.out)
   have S4 := Sz.out.own2 TS (fun j hj => .inr (by have := hg0.out; obtain rfl : j = g0 := (by simpa using hj); omega))
   have z0 := hp_cell (Z4) 0
   have z1 := hp_cell (Z4) 1
   have z2 := hp_cell (Z4) 2
   have z3 := hp_cell (Z4) 3
   have z4 := hp_cell (Z4) 4
   have z5 := hp_cell (Z4) 5
   have z6 := hp_cell (Z4) 6
   have z7 := hp_cell (Z4) 7
   have z8 := hp_cell (Z4) 8
   have z9 := hp_cell (Z4) 9
   have z10 := hp_cell (Z4) 10
   simp only [List.getElem?_toArray, List.getElem?_cons_zero, List.getElem?_cons_succ] at z0 z1 z2 z3 z4 z5 z6 z7 z8 z9 z10
   replace Z4 := Lib.hid Z4
   replace TS := Lib.hid TS
   replace W4 := Lib.hid W4
   replace S4 := Lib.hid S4
   refine bodyPost_ret (v := .tuple #[.agg zC, .int .i64 0, .int .i64 4]) ?_ rfl ⟨⟨zC, rfl, RtpO.zero _ _⟩, ⟨_, _, _, _, _, W4.out⟩, S4.out⟩
   simp [results, Tryz.results13, go_sem, z0, z1, z2, z3, z4, z5, z6, z7, z8, z9, z10, zC, rtpC]
  | true =>
  have ht : b2 = TG := (of_decide_eq_true hbq.out).symm
  have hO3 := hO2.out
  rw [if_neg (fun h => h ht)] at hO3
  clear hO2 ht hE
  replace hO3 := Lib.hid hO3
  obtain ⟨rfl, rfl⟩ : nx = 0 ∧ bs = 0 := by simpa using e2k
  clear e2k
  have dN : decide ((-1 : Int) < 0) = true := by decide
  have z52 := (hWW.out.bw B.out).nam
  go_upto_region 20 with (fail)
  have f52 := hp_frz (hWW.out.bw B.out).hp 52
  have BA : BW w3 (w3.alloc (.cells #[.int .u32 (src : Nat)] 33)) := (BW.refl _).alloc
  have L4 := Lib.hid (Sls.new1 (E := U4) w3 33 [.int .u32 (src : Nat)] rfl)
  have O4 := Lib.hid ((hWW.out.bw B.out).nm.bw BA)
  have P4 := Lib.hid ((hWW.out.bw B.out).bw BA)
  have B4 := Lib.hid (B.out.trans BA)
  have hz4 := Nat.le_trans hbw.out B4.out.size
  replace Z := Lib.hid (Z.out.bw BA)
  replace N := Lib.hid (N.out.bw BA)
  replace BA := Lib.hid BA
  clear B
  go_upto_region 21 with (at_builtin; go_must (refine wpList_apEQ slU32 rfl _ _ rfl base (.slice sN M.length cN) M.length _ rfl O4.out _ rfl 1 [src] [.int .u32 (src : Nat)] L4.out (EL.single rfl) rfl (by omega) hz4 (fun _ _ => trivial) ?_; intro s6 c6 w6 hc6 hm6 O6 T6 hb6 G6; unfold maxLen at hm6; replace O6 := Lib.hid O6; replace T6 := Lib.hid T6; replace G6 := Lib.hid G6; clear hb6; have f6 := hp_frz (P4.out.hp.st T6.out (fun hm => O4.out.ne P4.out.hp (by decide) g (by simpa using hm) rfl)) 52; have z6 := (hp_cell (P4.out.hp.st T6.out (fun hm => O4.out.ne P4.out.hp (by decide) g (by simpa using hm) rfl)) 52).trans (rwayC_at P4.out.len 2)))
  have hgB : Hid (g ∈ rwBs g M.length (.slice sN M.length cN) vW ps v) := (mem_rwBs hpl.out).2 (.inl rfl)
  have hnB : Hid (∀ j, (Value.slice sN M.length cN).ownBlock = some j → j ∈ rwBs g M.length (.slice sN M.length cN) vW ps v) := fun j hj => (mem_rwBs hpl.out).2 (.inr (.inl hj))
  have hwB : Hid (∀ j, vW.ownBlock = some j → j ∈ rwBs g M.length (.slice sN M.length cN) vW ps v) := fun j hj => (mem_rwBs hpl.out).2 (.inr (.inr (.inl hj)))
  have hBl : Hid (∀ j ∈ rwBs g M.length (.slice sN M.length cN) vW ps v, j < w.heap.size) := fun j hj => hblw.out j ((mem_rwBs hpl.out).1 hj)
  have I7 := Lib.hid (RwV.name P4.out (fun k hk => by simpa using hk) T6.out O6.out)
  have T7 := still_setR w6 g 52 (.slice s6 (M.length + 1) c6)
  have S7 := Lib.hid (((B4.out.still (rwBs g M.length (.slice sN M.length cN) vW ps v)).own2 T6.out (fun j hj => .inl (hnB.out j (by simpa using hj)))).own2 T7 (fun j hj => .inl (by obtain rfl : j = g := (by simpa using hj); exact hgB.out)))
  replace Z := Lib.hid ((Z.out.still T6.out (fun hm => by have := hBl.out g0 (hnB.out g0 (by simpa using hm)); have := hg0.out; omega)).still T7 (by have := hg.out; have := hg0.out; simp; omega))
  replace N := Lib.hid ((N.out.still T6.out (fun hm => by have := hBl.out g1 (hnB.out g1 (by simpa using hm)); have := hg0.out; have := hg1.out; omega)).still T7 (by have := hg.out; have := hg0.out; have := hg1.out; simp; omega))
  clear f6 z6 f52 z52 T6 T7 O6 O4 L4 P4 B4 G6 hz4
  generalize (w6.setCell _ _) = w7 at *
  have hN7 := Lib.hid N.out.lt
  have z53 := I7.out.win'
  have f53 := hp_frz I7.out.hp 53
  obtain ⟨sW, cW, hvW, hnW, hmW⟩ := I7.out.wi.len
  unfold maxLen at hmW
  subst hvW
  have BA : BW w7 (w7.alloc (.cells #[.slice none 0 0] 109)) := (BW.refl _).alloc
  have BC : BW (w7.alloc (.cells #[.slice none 0 0] 109)) ((w7.alloc (.cells #[.slice none 0 0] 109)).alloc (.cells #[.pointer (some ⟨w7.heap.size, 0, none⟩)] 104)) := (BW.refl _).alloc
  have Q8 := Lib.hid ((HpB.new w7 (.cells #[.slice none 0 0] 109)).bw BC)
  have L8 := Lib.hid (Sls.new1 (E := PW) (w7.alloc (.cells #[.slice none 0 0] 109)) 104 [.pointer (some ⟨w7.heap.size, 0, none⟩)] rfl)
  have L9 : Hid (Sls ((w7.alloc (.cells #[.slice none 0 0] 109)).alloc (.cells #[.pointer (some ⟨w7.heap.size, 0, none⟩)] 104)) PW.size (.slice (some ⟨w7.heap.size + 1, 0, none⟩) 1 1) 1 [.pointer (some ⟨w7.heap.size, 0, none⟩)]) := by
   have := L8.out
   rw [show (w7.alloc (.cells #[.slice none 0 0] 109)).heap.size = w7.heap.size + 1 from by simp] at this
   exact this
  have B8 := BA.trans BC
  have I8 := Lib.hid (I7.out.bw B8)
  have S8 := Lib.hid (S7.out.bw' B8)
  have hz8 := Nat.le_trans hbw.out S8.out.size
  replace Z := Lib.hid (Z.out.bw B8)
  replace N := Lib.hid (N.out.bw B8)
  have hpn : Hid (∀ i, i < M.length → ps.getD i 0 ≠ w7.heap.size) := fun i hi e => by have := (I7.out.ea i hi).1.1.lt; omega
  have h7z := Lib.hid (Nat.le_trans (Nat.succ_le_of_lt N.out.lt) (Nat.le_refl _))
  have h7s := Lib.hid S7.out.size
  replace BA := Lib.hid BA
  replace BC := Lib.hid BC
  replace B8 := Lib.hid B8
  clear S7 I7
  go_upto_region 22 with (at_builtin; go_must (refine wpList_apEQ slPW rfl _ _ rfl base (.slice sW M.length cW) M.length _ rfl I8.out.wi _ rfl 1 [w7.heap.size] [.pointer (some ⟨w7.heap.size, 0, none⟩)] L9.out (EL.single rfl) rfl (by omega) hz8 (fun _ _ => trivial) ?_; intro s9 c9 w9 hc9 hm9 O9 T9 hb9 G9; unfold maxLen at hm9; replace O9 := Lib.hid O9; replace T9 := Lib.hid T9; replace G9 := Lib.hid G9; clear hb9; have f9 := hp_frz (I8.out.hp.st T9.out (fun hm => I8.out.wi.ne I8.out.hp (by decide) g (by simpa using hm) rfl)) 53; have z9 := (hp_cell (I8.out.hp.st T9.out (fun hm => I8.out.wi.ne I8.out.hp (by decide) g (by simpa using hm) rfl)) 53).trans (rwayC_at I8.out.len 3)))
  have W10 := RwI.grow I8.out Q8.out (Nat.le_trans hbw.out h7s.out) hpn.out (fun k hk => by simpa using hk) T9.out O9.out
  have T10 := still_setR w9 g 53 (.slice s9 (M.length + 1) c9)
  have S10 := (S8.out.own2 T9.out (fun j hj => .inl (hwB.out j (by simpa using hj)))).own2 T10 (fun j hj => .inl (by obtain rfl : j = g := (by simpa using hj); exact hgB.out))
  replace Z := Lib.hid ((Z.out.still T9.out (fun hm => by have := hBl.out g0 (hwB.out g0 (by simpa using hm)); have := hg0.out; omega)).still T10 (by have := hg.out; have := hg0.out; simp; omega))
  replace N := Lib.hid ((N.out.still T9.out (fun hm => by have := hBl.out g1 (hwB.out g1 (by simpa using hm)); have := hg0.out; have := hg1.out; omega)).still T10 (by have := hg.out; have := hg0.out; have := hg1.out; simp; omega))
  have hpd : (ps ++ [w7.heap.size]).getD M.length 0 = w7.heap.size := by rw [List.getD_eq_getElem?_getD, List.getElem?_append_right (by rw [hpl.out]; exact Nat.le_refl _), hpl.out, Nat.sub_self]; rfl
  obtain ⟨M1, vN1, vW1, ps1, v1, L1, m1⟩ : ∃ M1 vN1 vW1 ps1 v1 L1, RwMid w (w9.setCell ⟨g, 53, none⟩ (.slice s9 (M.length + 1) c9)) base g KK lim used M M1 (rwBs g M.length (.slice sN M.length cN) (.slice sW M.length cW) ps v) vN1 vW1 ps1 v1 L1 M.length src 0 0 :=
   ⟨_, _, _, _, _, _, W10, by simp, by simp, fun u => by rw [setW_new eh]; simp, S10, fun j hj => .inr (by
    rw [hpd, if_pos rfl] at hj
    rcases hj with rfl | hj
    ·have := hN7.out; have := hg0.out; have := hg1.out; omega
    ·cases hj)⟩
  clear f9 z9 z53 f53 T9 O9 G9 W10 T10 S10 I8 Q8 L8 L9 S8 hz8 hpn h7z h7s hWW
  generalize (w9.setCell _ _) = w10 at *
  have hB0 : Hid (∀ j ∈ rwBs g M.length (.slice sN M.length cN) (.slice sW M.length cW) ps v, j < w.heap.size) := fun j hj => hblw.out j ((mem_rwBs hpl.out).1 hj)
  have hgB0 : Hid (g ∈ rwBs g M.length (.slice sN M.length cN) (.slice sW M.length cW) ps v) := (mem_rwBs hpl.out).2 (.inl rfl)
  obtain ⟨r1, r2, r3⟩ := m1.way.ea M.length m1.hk
  rw [m1.at_] at r2
  dsimp only at r2
  have cM := Lib.hid (rwmark_ok base _ _ _ (by omega) ii (by have := hi2.out; omega) (by rw [← r2.fresh]; exact hfr'.out) w10 (Nat.le_trans hbw.out m1.st.size) r1)
  have hIm := r2.mark ii hfr'.out hgb.out.2
  have z53 := m1.way.win
  obtain ⟨sW1, cW1, hvW1, hnW1, hmW1⟩ := m1.way.wi.len
  unfold maxLen at hmW1
  obtain ⟨gW1, oW1, hsW1, hcW1⟩ := pw_form (by rw [← hvW1]; exact m1.way.wi) (by have := m1.hk; omega)
  have y53 := hcW1 M.length (by rw [m1.way.wi.1]; exact m1.hk)
  have e3 : ps1[M.length]'(by rw [m1.way.wi.1]; exact m1.hk) = ps1.getD M.length 0 := by rw [List.getD_eq_getElem?_getD, List.getElem?_eq_getElem]; rfl
  rw [e3] at y53
  rw [hvW1, hsW1] at z53
  have hkm1 : ((M.length : Nat) : Int) < (M1.length : Int) := by have := m1.hk; omega
  have hset := Lib.hid (m1.set (wMark 0 0 ii))
  clear hcW1 r1 r2 e3
  replace hvW1 := Lib.hid hvW1
  replace hsW1 := Lib.hid hsW1
  replace hIm := Lib.hid hIm
  replace m1 := Lib.hid m1
  go_wp2_with fail
  refine Calls.mono cM.out ?_
  rintro e w22 ⟨rfl, u, RU, TU, GU⟩
  dsimp only
  clear cM z53 y53 hkm1
  obtain ⟨z51, f51', W23⟩ := m1.out.way.marked (k := M.length) (s := src) m1.out.hk (by rw [m1.out.at_]) (S := ps1.getD M.length 0 :: (v1 M.length).ownBlock.toList) (fun j hj => by simpa using hj) TU RU hIm.out (by rw [List.length_append]; simp; omega) GU
  have hTU : ∀ j ∈ ps1.getD M.length 0 :: (v1 M.length).ownBlock.toList, j ∈ rwBs g M.length (.slice sN M.length cN) (.slice sW M.length cW) ps v ∨ w.heap.size + 2 ≤ j := fun j hj => m1.out.own j (by simpa using hj)
  have f51 := f51' 51
  have T23 := still_setR w22 g 51 (.int .i64 ((used + 1 : Nat) : Int))
  have S23 := Lib.hid ((m1.out.st.own2 TU (fun j hj => (hTU j hj).imp id (fun h => by omega))).own2 T23 (fun j hj => .inl (by obtain rfl : j = g := (by simpa using hj); exact hgB0.out)))
  have hVs : ∀ {m : Nat} {l : List Nat}, SB w (.slice sb m cb) m l → SB _ (.slice sb m cb) m l := fun {m l} hv => ((hv.still m1.out.st (fun k hk hm => (hvow.out k (by revert hk; cases sb <;> simp [Value.ownBlock]) (by omega)).1 hm)).still TU (fun k hk hm => by
   have h1 := hvow.out k (by revert hk; cases sb <;> simp [Value.ownBlock]) (by omega)
   rcases hTU k hm with h | h
   ·exact h1.1 h
   ·have := h1.2; have := hg0.out; omega)).still T23 (fun k hk hm => by
   have h1 := hvow.out k (by revert hk; cases sb <;> simp [Value.ownBlock]) (by omega)
   obtain rfl : k = g := by simpa using hm
   exact h1.1 hgB0.out)
  have V23 := Lib.hid (hVs hVV.out)
  have V13 := Lib.hid (hVs V1.out)
  replace Z := Lib.hid ((Z.out.still TU (fun hm => by
   rcases hTU _ hm with h | h
   ·have := hB0.out _ h; have := hg0.out; omega
   ·have := hg0.out; omega)).still T23 (by have := hg.out; have := hg0.out; simp; omega))
  replace N := Lib.hid ((N.out.still TU (fun hm => by
   rcases hTU _ hm with h | h
   ·have := hB0.out _ h; have := hg0.out; have := hg1.out; omega
   ·have := hg0.out; have := hg1.out; omega)).still T23 (by have := hg.out; have := hg0.out; have := hg1.out; simp; omega))
  rw [show (src, (wMark 0 0 ii).1, (wMark 0 0 ii).2) = (src, wMark 0 0 ii) from rfl, ← hset.out] at W23
  replace W23 := Lib.hid W23
  clear m1 hTU TU RU GU T23 f51' hIm hVV hVs V1 V2
  push_cast at W23 S23 V23 V13 Z N
  go_upto_region 24 with (fail)
  clear z51 f51
  generalize (w22.setCell _ _) = w23 at *
  obtain ⟨hN, hh⟩ : ∃ hN, hdrN b1 = (hN, true) := ⟨(hdrN b1).1, by rw [← hhd]⟩
  have hge := hdrN_ge b1 hhd
  have ch := Lib.hid (hrh w23 V23.out ((n : Int) - 10) hl10.out)
  have hO4 := hO3.out
  rw [hh] at ch hge hO4
  dsimp only at ch hge hO4
  rw [hl1.out] at hge
  clear hO3 hh hhd hrh
  have cs := fun wz (h : BW w23 wz) => Lib.hid (rsealed_ok KK W23.out.len W23.out.byt sb (n - 10) cb b1 hN src ii hge.2 hsrc (by have := hi2.out; omega) (by omega) wz (V13.out.bw h))
  have hspl := spinN_len KK hN src ii b1 (by have := hge.2; have := hl1.out; omega)
  generalize spinN KK hN src ii b1 = sp at *
  generalize tagN KK sp ii = tg2 at *
  generalize hRd : readN sp = RR at *
  obtain ⟨er, hd, d⟩ := RR
  dsimp only at hO4
  rw [hl1.out] at hspl
  replace hge := Lib.hid hge
  replace hO4 := Lib.hid hO4
  replace hRd := Lib.hid hRd
  replace hspl := Lib.hid hspl
  go_wp2_with fail
  refine Calls.mono ch.out ?_
  rintro e w' ⟨rfl, rfl⟩
  dsimp only
  clear ch V23
  have hKl2 : Hid (KK.length = 50) := W23.out.len
  go_upto_region 25 with (fail)
  refine wp_region_gg [] [] [10] (by kernel_rfl) ?_
  refine hoist [] [] (a1 := ?_) 0 rfl (by kernel_rfl) (.inl ⟨rfl, rfl⟩) rfl rfl rfl (fun x K hK => ?_) ?_
  rotate_left
  ·go_big_quiet_op
   exact hK
  refine hoist [] [] (a1 := ?_) 1 rfl (by kernel_rfl) (.inl ⟨rfl, rfl⟩) rfl rfl rfl (fun x K hK => ?_) ?_
  rotate_left
  ·go_big_quiet_op
   exact hK
  refine hoist [] [] (a1 := ?_) 2 rfl (by kernel_rfl) (.inl ⟨rfl, rfl⟩) rfl rfl rfl (fun x K hK => ?_) ?_
  rotate_left
  ·go_big_quiet_op
   exact hK
  refine hoist [] [] (a1 := ?_) 3 rfl (by kernel_rfl) (.inl ⟨rfl, rfl⟩) rfl rfl rfl (fun x K hK => ?_) ?_
  rotate_left
  ·refine qlW ar50 rfl (by rfl) hKl2.out (fun w' hw => by subst hw; exact (W23.out.bw x.bw).range) (by simp only [Act.put, List.setIfInBounds_toArray, List.set_cons_succ, List.set_cons_zero]; rfl) ?_
   exact hK
  refine hoist [] [] (a1 := ?_) 4 rfl (by kernel_rfl) (.inl ⟨rfl, rfl⟩) rfl rfl rfl (fun x K hK => ?_) ?_
  rotate_left
  ·go_big_quiet_op
   exact hK
  refine hoist [] [] (a1 := ?_) 5 rfl (by kernel_rfl) (.inl ⟨rfl, rfl⟩) rfl rfl rfl (fun x K hK => ?_) ?_
  rotate_left
  ·go_big_quiet_op
   exact hK
  refine hoist [] [] (a1 := ?_) 6 rfl (by kernel_rfl) (.inl ⟨rfl, rfl⟩) rfl rfl rfl (fun x K hK => ?_) ?_
  rotate_left
  ·refine qlCutH (hi := n - 10) rfl (by rfl) (by rfl) (by have := hl10.out; omega) (by omega) (by simp only [Act.put, List.setIfInBounds_toArray, List.set_cons_succ, List.set_cons_zero]; rfl) ?_
   exact hK
  refine hoist [] [] (a1 := ?_) 7 rfl (by kernel_rfl) (.inl ⟨rfl, rfl⟩) rfl rfl rfl (fun x K hK => ?_) ?_
  rotate_left
  ·go_big_quiet_op
   exact hK
  refine hoist [] [] (a1 := ?_) 8 rfl (by kernel_rfl) (.inl ⟨rfl, rfl⟩) rfl rfl rfl (fun x K hK => ?_) ?_
  rotate_left
  ·go_big_quiet_op
   exact hK
  refine hoist [] [] (a1 := ?_) 9 rfl (by kernel_rfl) (.inl ⟨rfl, rfl⟩) rfl rfl rfl (fun x K hK => ?_) ?_
  rotate_left
  ·go_big_quiet_op
   exact hK
  refine tail 10 rfl (by kernel_rfl) rfl (fun xr => ?_)
  simp only [List.drop_succ_cons, List.drop_zero]
  go_wp2_with fail
  refine Calls.mono (cs xr.now xr.bw).out ?_
  rintro e w11 ⟨s11, c11, rfl, O11, hb⟩
  obtain ⟨_, _, he, hc11, hm11⟩ := O11.len
  cases he
  unfold maxLen at hm11
  have hb11 := xr.bw.trans hb
  replace Z := Lib.hid (Z.out.bw hb11)
  replace N := Lib.hid (N.out.bw hb11)
  have W11 := Lib.hid (W23.out.bw hb11)
  have S11 := Lib.hid (S23.out.bw' hb11)
  have V11 := O11.sb.takeW (n - 10) (by omega)
  rw [List.take_left' hspl.out] at V11
  have cr := Lib.hid (refRead_any _ _ _ (by omega) w11 V11)
  rw [hRd.out] at cr
  have hz11 := Lib.hid (show w.heap.size ≤ w11.heap.size from S11.out.size)
  have h0l := Lib.hid Z.out.lt
  clear hb hb11 O11 V11 W23 S23 cs hRd V13
  dsimp only
  have hl10' := hl10.out
  go_wp2_with fail
  refine Calls.mono cr.out ?_
  rintro e w12 ⟨c, rfl, O, hb⟩
  clear hl10'
  obtain ⟨so_, co, se, ce, sp_, cp, rfl, -, -, -⟩ := O.open
  dsimp only at O ⊢
  replace Z := Lib.hid (Z.out.bw hb)
  replace N := Lib.hid (N.out.bw hb)
  have W12 := Lib.hid (W11.out.bw hb)
  have S12 := Lib.hid (S11.out.bw' hb)
  clear cr W11 S11
  generalize d.others.length = no at *
  generalize d.extra.length = ne at *
  generalize d.payload.length = np at *
  obtain ⟨mk, ty, sq_, st, so, ot, xb, pf, ex, pl, pd⟩ := d
  simp only [rtpC] at O ⊢
  have B3 : BW w12 (w12.alloc (.cells #[.bool mk, .int .u8 (ty : Nat), .int .u16 (sq_ : Nat), .int .u32 (st : Nat), .int .u32 (so : Nat), .slice so_ no co, .bool xb, .int .u16 (pf : Nat), .slice se ne ce, .slice sp_ np cp, .int .u8 (pd : Nat)] 37)) := (BW.refl _).alloc
  have P3 : Hid (PkV (w12.alloc (.cells #[.bool mk, .int .u8 (ty : Nat), .int .u16 (sq_ : Nat), .int .u32 (st : Nat), .int .u32 (so : Nat), .slice so_ no co, .bool xb, .int .u16 (pf : Nat), .slice se ne ce, .slice sp_ np cp, .int .u8 (pd : Nat)] 37)) w12.heap.size #[.bool mk, .int .u8 (ty : Nat), .int .u16 (sq_ : Nat), .int .u32 (st : Nat), .int .u32 (so : Nat), .slice so_ no co, .bool xb, .int .u16 (pf : Nat), .slice se ne ce, .slice sp_ np cp, .int .u8 (pd : Nat)]) := HpB.new w12 _
  have W13 := Lib.hid (W12.out.bw B3)
  have S13 := Lib.hid (S12.out.bw' B3)
  have O3 := Lib.hid (O.bw B3)
  replace Z := Lib.hid (Z.out.bw B3)
  replace N := Lib.hid (N.out.bw B3)
  have hz12 := Lib.hid (Nat.le_trans hz11.out hb.size)
  replace O := Lib.hid O
  clear hb W12 S12 B3
  go_upto_region 27 with (fail)
  generalize w12.alloc (.cells #[.bool mk, .int .u8 (ty : Nat), .int .u16 (sq_ : Nat), .int .u32 (st : Nat), .int .u32 (so : Nat), .slice so_ no co, .bool xb, .int .u16 (pf : Nat), .slice se ne ce, .slice sp_ np cp, .int .u8 (pd : Nat)] 37) = w13 at *
  generalize w12.heap.size = g3 at *
  clear O
  by_cases her : er = 0
  rotate_left
  ·have d1 : ((er : Int) != 0) = true := by simpa using her
   have hR := hO4.out
   rw [if_pos her] at hR
   subst hR
   have Wz := W13
   have Sz := S13
   clear W13 S13 her P3 O3 hO4
   have z0 := hp_cell (Z.out) 0
   have y0 := hp_frz (Z.out) 0
   have z1 := hp_cell (Z.out) 1
   have y1 := hp_frz (Z.out) 1
   have z2 := hp_cell (Z.out) 2
   have y2 := hp_frz (Z.out) 2
   have z3 := hp_cell (Z.out) 3
   have y3 := hp_frz (Z.out) 3
   have z4 := hp_cell (Z.out) 4
   have y4 := hp_frz (Z.out) 4
   have z5 := hp_cell (Z.out) 5
   have y5 := hp_frz (Z.out) 5
   have z6 := hp_cell (Z.out) 6
   have y6 := hp_frz (Z.out) 6
   have z7 := hp_cell (Z.out) 7
   have y7 := hp_frz (Z.out) 7
   have z8 := hp_cell (Z.out) 8
   have y8 := hp_frz (Z.out) 8
   have z9 := hp_cell (Z.out) 9
   have y9 := hp_frz (Z.out) 9
   have z10 := hp_cell (Z.out) 10
   have y10 := hp_frz (Z.out) 10
   simp only [zC, rtpC, List.getElem?_toArray, List.getElem?_cons_zero, List.getElem?_cons_succ] at z0 z1 z2 z3 z4 z5 z6 z7 z8 z9 z10
   have k0 := hp_cell (N.out) 0
   have k1 := hp_cell (N.out) 1
   have k2 := hp_cell (N.out) 2
   have k3 := hp_cell (N.out) 3
   have k4 := hp_cell (N.out) 4
   have k5 := hp_cell (N.out) 5
   have k6 := hp_cell (N.out) 6
   have k7 := hp_cell (N.out) 7
   have k8 := hp_cell (N.out) 8
   have k9 := hp_cell (N.out) 9
   have k10 := hp_cell (N.out) 10
   simp only [zC, rtpC, List.getElem?_toArray, List.getElem?_cons_zero, List.getElem?_cons_succ] at k0 k1 k2 k3 k4 k5 k6 k7 k8 k9 k10
   go_wp2_with fail
   clear z0 z1 z2 z3 z4 z5 z6 z7 z8 z9 z10 y0 y1 y2 y3 y4 y5 y6 y7 y8 y9 y10 k0 k1 k2 k3 k4 k5 k6 k7 k8 k9 k10
   have TS := still_set11 w13 g0 (.bool false) (.int .u8 0) (.int .u16 0) (.int .u32 0) (.int .u32 0) (.slice none 0 0) (.bool false) (.int .u16 0) (.slice none 0 0) (.slice none 0 0) (.int .u8 0)
   have Z4 := Z.out.set11 rfl (.bool false) (.int .u8 0) (.int .u16 0) (.int .u32 0) (.int .u32 0) (.slice none 0 0) (.bool false) (.int .u16 0) (.slice none 0 0) (.slice none 0 0) (.int .u8 0)
   have W4 := Wz.out.still TS (fun j hj => by obtain rfl : j = g0 := (by simpa using hj); exact Wz.out.not_pkt Z.out)
   have S4 := Sz.out.own2 TS (fun j hj => .inr (by have := hg0.out; obtain rfl : j = g0 := (by simpa using hj); omega))
   have z0 := hp_cell (Z4) 0
   have z1 := hp_cell (Z4) 1
   have z2 := hp_cell (Z4) 2
   have z3 := hp_cell (Z4) 3
   have z4 := hp_cell (Z4) 4
   have z5 := hp_cell (Z4) 5
   have z6 := hp_cell (Z4) 6
   have z7 := hp_cell (Z4) 7
   have z8 := hp_cell (Z4) 8
   have z9 := hp_cell (Z4) 9
   have z10 := hp_cell (Z4) 10
   simp only [List.getElem?_toArray, List.getElem?_cons_zero, List.getElem?_cons_succ] at z0 z1 z2 z3 z4 z5 z6 z7 z8 z9 z10
   replace Z4 := Lib.hid Z4
   replace TS := Lib.hid TS
   replace W4 := Lib.hid W4
   replace S4 := Lib.hid S4
   refine bodyPost_ret (v := .tuple #[.agg zC, .int .i64 0, .int .i64 3]) ?_ rfl ⟨⟨zC, rfl, RtpO.zero _ _⟩, ⟨_, _, _, _, _, W4.out⟩, S4.out⟩
   simp [results, Tryz.results13, go_sem, z0, z1, z2, z3, z4, z5, z6, z7, z8, z9, z10, zC, rtpC]
  have d1 : ((er : Int) != 0) = false := by simpa using her
  have hR := hO4.out
  rw [if_neg (by omega)] at hR
  subst hR
  clear her hO4
  go_upto_region 29 with (fail)
  clear d1
  have z0 := hp_cell (Z.out) 0
  have y0 := hp_frz (Z.out) 0
  have z1 := hp_cell (Z.out) 1
  have y1 := hp_frz (Z.out) 1
  have z2 := hp_cell (Z.out) 2
  have y2 := hp_frz (Z.out) 2
  have z3 := hp_cell (Z.out) 3
  have y3 := hp_frz (Z.out) 3
  have z4 := hp_cell (Z.out) 4
  have y4 := hp_frz (Z.out) 4
  have z5 := hp_cell (Z.out) 5
  have y5 := hp_frz (Z.out) 5
  have z6 := hp_cell (Z.out) 6
  have y6 := hp_frz (Z.out) 6
  have z7 := hp_cell (Z.out) 7
  have y7 := hp_frz (Z.out) 7
  have z8 := hp_cell (Z.out) 8
  have y8 := hp_frz (Z.out) 8
  have z9 := hp_cell (Z.out) 9
  have y9 := hp_frz (Z.out) 9
  have z10 := hp_cell (Z.out) 10
  have y10 := hp_frz (Z.out) 10
  simp only [zC, rtpC, List.getElem?_toArray, List.getElem?_cons_zero, List.getElem?_cons_succ] at z0 z1 z2 z3 z4 z5 z6 z7 z8 z9 z10
  have k0 := hp_cell (P3.out) 0
  have k1 := hp_cell (P3.out) 1
  have k2 := hp_cell (P3.out) 2
  have k3 := hp_cell (P3.out) 3
  have k4 := hp_cell (P3.out) 4
  have k5 := hp_cell (P3.out) 5
  have k6 := hp_cell (P3.out) 6
  have k7 := hp_cell (P3.out) 7
  have k8 := hp_cell (P3.out) 8
  have k9 := hp_cell (P3.out) 9
  have k10 := hp_cell (P3.out) 10
  simp only [List.getElem?_toArray, List.getElem?_cons_zero, List.getElem?_cons_succ] at k0 k1 k2 k3 k4 k5 k6 k7 k8 k9 k10
  go_wp2_with fail
  clear z0 z1 z2 z3 z4 z5 z6 z7 z8 z9 z10 y0 y1 y2 y3 y4 y5 y6 y7 y8 y9 y10 k0 k1 k2 k3 k4 k5 k6 k7 k8 k9 k10
  have TS := still_set11 w13 g0 (.bool mk) (.int .u8 (ty : Nat)) (.int .u16 (sq_ : Nat)) (.int .u32 (st : Nat)) (.int .u32 (so : Nat)) (.slice so_ no co) (.bool xb) (.int .u16 (pf : Nat)) (.slice se ne ce) (.slice sp_ np cp) (.int .u8 (pd : Nat))
  have Z4 := Z.out.set11 rfl (.bool mk) (.int .u8 (ty : Nat)) (.int .u16 (sq_ : Nat)) (.int .u32 (st : Nat)) (.int .u32 (so : Nat)) (.slice so_ no co) (.bool xb) (.int .u16 (pf : Nat)) (.slice se ne ce) (.slice sp_ np cp) (.int .u8 (pd : Nat))
  have O4 := (O3.out.still TS (by have := h0l.out; simp; omega)).up hz11.out
  have W4 := W13.out.still TS (fun j hj => by obtain rfl : j = g0 := (by simpa using hj); exact W13.out.not_pkt Z.out)
  have S4 := S13.out.own2 TS (fun j hj => .inr (by have := hg0.out; obtain rfl : j = g0 := (by simpa using hj); omega))
  have z0 := hp_cell (Z4) 0
  have z1 := hp_cell (Z4) 1
  have z2 := hp_cell (Z4) 2
  have z3 := hp_cell (Z4) 3
  have z4 := hp_cell (Z4) 4
  have z5 := hp_cell (Z4) 5
  have z6 := hp_cell (Z4) 6
  have z7 := hp_cell (Z4) 7
  have z8 := hp_cell (Z4) 8
  have z9 := hp_cell (Z4) 9
  have z10 := hp_cell (Z4) 10
  simp only [List.getElem?_toArray, List.getElem?_cons_zero, List.getElem?_cons_succ] at z0 z1 z2 z3 z4 z5 z6 z7 z8 z9 z10
  replace Z4 := Lib.hid Z4
  replace TS := Lib.hid TS
  replace O4 := Lib.hid O4
  replace W4 := Lib.hid W4
  replace S4 := Lib.hid S4
  refine bodyPost_ret (v := .tuple #[.agg #[.bool mk, .int .u8 (ty : Nat), .int .u16 (sq_ : Nat), .int .u32 (st : Nat), .int .u32 (so : Nat), .slice so_ no co, .bool xb, .int .u16 (pf : Nat), .slice se ne ce, .slice sp_ np cp, .int .u8 (pd : Nat)], .int .i64 (ii : Nat), .int .i64 0]) ?_ rfl ⟨⟨_, rfl, O4.out⟩, ⟨_, _, _, _, _, W4.out⟩, S4.out⟩
  simp [results, Tryz.results13, go_sem, z0, z1, z2, z3, z4, z5, z6, z7, z8, z9, z10]
end Go.Proofs.YtikmhlbpefednaaGreat
