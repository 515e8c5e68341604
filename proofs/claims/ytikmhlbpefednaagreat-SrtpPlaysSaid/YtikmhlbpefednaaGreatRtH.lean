/- The reference's packet of all bytes. No condition but the sizes'. -/
import Derived.Test.YtikmhlbpefednaaGreatGRc
import Derived.Test.YtikmhlbpefednaaGreatGRn
namespace Go.Proofs.YtikmhlbpefednaaGreat
open Go.RowKit
theorem Ows.apart {w : World} {b1 b2 : Nat} {E1 E2 : TypeId} {s1 s2 : Nat} {v1 v2 : Value} {n1 n2 : Nat} {xs1 xs2 : List Value} (h1 : Ows w b1 E1 s1 v1 n1 xs1) (h2 : Ows w b2 E2 s2 v2 n2 xs2) (hE : E1 ≠ E2) : ∀ g, v1.ownBlock = some g → g ∉ v2.ownBlock.toList := by
 obtain ⟨_, ⟨rfl, _⟩ | ⟨g, o, cap, cur, rfl, _, hh, _⟩⟩ := h1
 ·intro g hg; cases hg
 ·intro g' hg'
  cases hg'
  exact h2.notin hh hE
theorem sb_at {w : World} {b o len cap : Nat} {l : List Nat} (h : SB w (.slice (some ⟨b, o, none⟩) len cap) len l) (i : Nat) (hi : i < len) : w.cell? ⟨b, o + i, none⟩ = some (.int .u8 (l.getD i 0 : Nat)) := by
 obtain ⟨b', o', cap', he, _, _, _, hc⟩ := h.form (by omega)
 cases he
 exact hc i hi
set_option maxRecDepth 100000 in
set_option maxHeartbeats 8000000 in
theorem refRead_any (v : Value) (len : Nat) (l : List Nat) (hlen : len ≤ 1000000000000) (w : World) (hv : SB w v len l) :
  Calls Tryz.prog 49 #[v] w (ReadPost (readN l) w) := by
 have hll := Lib.hid hv.1
 have hlb := Lib.hid hv.2.1
 generalize hR : readN l = R at *
 obtain ⟨sa, cap, rfl, hcap, hm⟩ := hv.len
 unfold maxLen at hm
 have B1 : BW w (w.alloc (.cells #[.bool false, .int .u8 0, .int .u16 0, .int .u32 0, .int .u32 0, .slice none 0 0, .bool false, .int .u16 0, .slice none 0 0, .slice none 0 0, .int .u8 0] 37)) := (BW.refl w).alloc
 have B2' : BW (w.alloc (.cells #[.bool false, .int .u8 0, .int .u16 0, .int .u32 0, .int .u32 0, .slice none 0 0, .bool false, .int .u16 0, .slice none 0 0, .slice none 0 0, .int .u8 0] 37)) ((w.alloc (.cells #[.bool false, .int .u8 0, .int .u16 0, .int .u32 0, .int .u32 0, .slice none 0 0, .bool false, .int .u16 0, .slice none 0 0, .slice none 0 0, .int .u8 0] 37)).alloc (.cells #[.bool false, .int .u8 0, .int .u16 0, .int .u32 0, .int .u32 0, .slice none 0 0, .bool false, .int .u16 0, .slice none 0 0, .slice none 0 0, .int .u8 0] 37)) := (BW.refl _).alloc
 have Z2 : Hid (PkV ((w.alloc (.cells #[.bool false, .int .u8 0, .int .u16 0, .int .u32 0, .int .u32 0, .slice none 0 0, .bool false, .int .u16 0, .slice none 0 0, .slice none 0 0, .int .u8 0] 37)).alloc (.cells #[.bool false, .int .u8 0, .int .u16 0, .int .u32 0, .int .u32 0, .slice none 0 0, .bool false, .int .u16 0, .slice none 0 0, .slice none 0 0, .int .u8 0] 37)) w.heap.size zC) := HpB.bw (HpB.new w _) B2'
 have P2 : Hid (PkV ((w.alloc (.cells #[.bool false, .int .u8 0, .int .u16 0, .int .u32 0, .int .u32 0, .slice none 0 0, .bool false, .int .u16 0, .slice none 0 0, .slice none 0 0, .int .u8 0] 37)).alloc (.cells #[.bool false, .int .u8 0, .int .u16 0, .int .u32 0, .int .u32 0, .slice none 0 0, .bool false, .int .u16 0, .slice none 0 0, .slice none 0 0, .int .u8 0] 37)) (w.heap.size + 1) zC) := HpB.newAt _ _ _ (by simp)
 have B2 := Lib.hid (B1.trans B2')
 have V2 := Lib.hid (hv.bw B2.out)
 have hz2 : w.heap.size + 1 + 1 = ((w.alloc (.cells #[.bool false, .int .u8 0, .int .u16 0, .int .u32 0, .int .u32 0, .slice none 0 0, .bool false, .int .u16 0, .slice none 0 0, .slice none 0 0, .int .u8 0] 37)).alloc (.cells #[.bool false, .int .u8 0, .int .u16 0, .int .u32 0, .int .u32 0, .slice none 0 0, .bool false, .int .u16 0, .slice none 0 0, .slice none 0 0, .int .u8 0] 37)).heap.size := by simp
 replace hv := Lib.hid hv
 replace hR := Lib.hid hR
 replace hz2 := Lib.hid hz2
 clear B1 B2'
 go_enter Tryz.func49, Tryz.ntmps49
 go_upto_region 3 with (fail)
 generalize (w.alloc (.cells #[.bool false, .int .u8 0, .int .u16 0, .int .u32 0, .int .u32 0, .slice none 0 0, .bool false, .int .u16 0, .slice none 0 0, .slice none 0 0, .int .u8 0] 37)).alloc (.cells #[.bool false, .int .u8 0, .int .u16 0, .int .u32 0, .int .u32 0, .slice none 0 0, .bool false, .int .u16 0, .slice none 0 0, .slice none 0 0, .int .u8 0] 37) = w2 at *
 have TSz := still_set11 w2 w.heap.size (.bool false) (.int .u8 0) (.int .u16 0) (.int .u32 0) (.int .u32 0) (.slice none 0 0) (.bool false) (.int .u16 0) (.slice none 0 0) (.slice none 0 0) (.int .u8 0)
 have Z4 := Lib.hid (Z2.out.set11 rfl (.bool false) (.int .u8 0) (.int .u16 0) (.int .u32 0) (.int .u32 0) (.slice none 0 0) (.bool false) (.int .u16 0) (.slice none 0 0) (.slice none 0 0) (.int .u8 0))
 have B4 := Lib.hid (B2.out.stl TSz (by simp))
 replace TSz := Lib.hid TSz
 have z0 := hp_cell (Z2.out) 0
 have y0 := hp_frz (Z2.out) 0
 have z1 := hp_cell (Z2.out) 1
 have y1 := hp_frz (Z2.out) 1
 have z2 := hp_cell (Z2.out) 2
 have y2 := hp_frz (Z2.out) 2
 have z3 := hp_cell (Z2.out) 3
 have y3 := hp_frz (Z2.out) 3
 have z4 := hp_cell (Z2.out) 4
 have y4 := hp_frz (Z2.out) 4
 have z5 := hp_cell (Z2.out) 5
 have y5 := hp_frz (Z2.out) 5
 have z6 := hp_cell (Z2.out) 6
 have y6 := hp_frz (Z2.out) 6
 have z7 := hp_cell (Z2.out) 7
 have y7 := hp_frz (Z2.out) 7
 have z8 := hp_cell (Z2.out) 8
 have y8 := hp_frz (Z2.out) 8
 have z9 := hp_cell (Z2.out) 9
 have y9 := hp_frz (Z2.out) 9
 have z10 := hp_cell (Z2.out) 10
 have y10 := hp_frz (Z2.out) 10
 simp only [zC, rtpC, List.getElem?_toArray, List.getElem?_cons_zero, List.getElem?_cons_succ] at z0 z1 z2 z3 z4 z5 z6 z7 z8 z9 z10
 have k0 := hp_cell (P2.out) 0
 have k1 := hp_cell (P2.out) 1
 have k2 := hp_cell (P2.out) 2
 have k3 := hp_cell (P2.out) 3
 have k4 := hp_cell (P2.out) 4
 have k5 := hp_cell (P2.out) 5
 have k6 := hp_cell (P2.out) 6
 have k7 := hp_cell (P2.out) 7
 have k8 := hp_cell (P2.out) 8
 have k9 := hp_cell (P2.out) 9
 have k10 := hp_cell (P2.out) 10
 simp only [zC, rtpC, List.getElem?_toArray, List.getElem?_cons_zero, List.getElem?_cons_succ] at k0 k1 k2 k3 k4 k5 k6 k7 k8 k9 k10
 by_cases h1 : 1200 < len
 ·have d : decide ((1200 : Int) < len) = true := by simp; omega
  have hRk := Lib.hid (show R = (3, 0, rZero) from by rw [← hR.out]; unfold readN; rw [hll.out, if_pos h1])
  go_wp2_with fail
  have s0 := hp_cell (Z4.out) 0
  have s1 := hp_cell (Z4.out) 1
  have s2 := hp_cell (Z4.out) 2
  have s3 := hp_cell (Z4.out) 3
  have s4 := hp_cell (Z4.out) 4
  have s5 := hp_cell (Z4.out) 5
  have s6 := hp_cell (Z4.out) 6
  have s7 := hp_cell (Z4.out) 7
  have s8 := hp_cell (Z4.out) 8
  have s9 := hp_cell (Z4.out) 9
  have s10 := hp_cell (Z4.out) 10
  simp only [List.getElem?_toArray, List.getElem?_cons_zero, List.getElem?_cons_succ] at s0 s1 s2 s3 s4 s5 s6 s7 s8 s9 s10
  exact bodyPost_ret (v := .tuple #[.agg #[.bool false, .int .u8 0, .int .u16 0, .int .u32 0, .int .u32 0, .slice none 0 0, .bool false, .int .u16 0, .slice none 0 0, .slice none 0 0, .int .u8 0], .int .i64 0, .int .i64 3]) (by simp [results, Tryz.results49, go_sem, s0, s1, s2, s3, s4, s5, s6, s7, s8, s9, s10]) rfl ⟨_, by rw [hRk.out]; rfl, by rw [hRk.out]; exact RtpO.zero _ _, B4.out⟩
 have d : decide ((1200 : Int) < len) = false := by simp; omega
 go_upto_region 5 with (fail)
 clear d
 by_cases h2 : len < 12
 ·have d : decide ((len : Int) < 12) = true := by simp; omega
  have hRk := Lib.hid (show R = (2, 0, rZero) from by rw [← hR.out]; unfold readN; rw [hll.out, if_neg h1, if_pos h2])
  go_wp2_with fail
  have s0 := hp_cell (Z4.out) 0
  have s1 := hp_cell (Z4.out) 1
  have s2 := hp_cell (Z4.out) 2
  have s3 := hp_cell (Z4.out) 3
  have s4 := hp_cell (Z4.out) 4
  have s5 := hp_cell (Z4.out) 5
  have s6 := hp_cell (Z4.out) 6
  have s7 := hp_cell (Z4.out) 7
  have s8 := hp_cell (Z4.out) 8
  have s9 := hp_cell (Z4.out) 9
  have s10 := hp_cell (Z4.out) 10
  simp only [List.getElem?_toArray, List.getElem?_cons_zero, List.getElem?_cons_succ] at s0 s1 s2 s3 s4 s5 s6 s7 s8 s9 s10
  exact bodyPost_ret (v := .tuple #[.agg #[.bool false, .int .u8 0, .int .u16 0, .int .u32 0, .int .u32 0, .slice none 0 0, .bool false, .int .u16 0, .slice none 0 0, .slice none 0 0, .int .u8 0], .int .i64 0, .int .i64 2]) (by simp [results, Tryz.results49, go_sem, s0, s1, s2, s3, s4, s5, s6, s7, s8, s9, s10]) rfl ⟨_, by rw [hRk.out]; rfl, by rw [hRk.out]; exact RtpO.zero _ _, B4.out⟩
 have d : decide ((len : Int) < 12) = false := by simp; omega
 go_upto_region 7 with (fail)
 clear d
 obtain ⟨b, o, cp, hsl, _, _, hblt, _⟩ := hv.out.form (by omega)
 simp only [Value.slice.injEq] at hsl
 obtain ⟨rfl, -, rfl⟩ := hsl
 have hvb : ∀ k, (Value.slice (some ⟨b, o, none⟩) len cap).ownBlock = some k → k < w.heap.size := fun k hk => by
  simp only [Value.ownBlock, Option.some.injEq] at hk
  omega
 have hb0 := hlb.out.get 0
 have hb1 := hlb.out.get 1
 have e0 := sb_at V2.out 0 (by omega)
 rw [Nat.add_zero] at e0
 generalize hx0 : l.getD 0 0 = x0 at *
 generalize hx1 : l.getD 1 0 = x1 at *
 have u0 : (x0 : Int) ≤ 255 := by omega
 replace hx0 := Lib.hid hx0
 replace hx1 := Lib.hid hx1
 by_cases h3 : x0 / 64 ≠ 2
 ·have d : ((x0 : Int) / 64 != 2) = true := by simp; omega
  have hRk := Lib.hid (show R = (3, 0, rZero) from by rw [← hR.out]; unfold readN; rw [hll.out, if_neg h1, if_neg h2, hx0.out, if_pos h3])
  go_wp2_with fail
  have s0 := hp_cell (Z4.out) 0
  have s1 := hp_cell (Z4.out) 1
  have s2 := hp_cell (Z4.out) 2
  have s3 := hp_cell (Z4.out) 3
  have s4 := hp_cell (Z4.out) 4
  have s5 := hp_cell (Z4.out) 5
  have s6 := hp_cell (Z4.out) 6
  have s7 := hp_cell (Z4.out) 7
  have s8 := hp_cell (Z4.out) 8
  have s9 := hp_cell (Z4.out) 9
  have s10 := hp_cell (Z4.out) 10
  simp only [List.getElem?_toArray, List.getElem?_cons_zero, List.getElem?_cons_succ] at s0 s1 s2 s3 s4 s5 s6 s7 s8 s9 s10
  exact bodyPost_ret (v := .tuple #[.agg #[.bool false, .int .u8 0, .int .u16 0, .int .u32 0, .int .u32 0, .slice none 0 0, .bool false, .int .u16 0, .slice none 0 0, .slice none 0 0, .int .u8 0], .int .i64 0, .int .i64 3]) (by simp [results, Tryz.results49, go_sem, s0, s1, s2, s3, s4, s5, s6, s7, s8, s9, s10]) rfl ⟨_, by rw [hRk.out]; rfl, by rw [hRk.out]; exact RtpO.zero _ _, B4.out⟩
 have d : ((x0 : Int) / 64 != 2) = false := by simp; omega
 go_upto_region 9 with (fail)
 clear d
 have q1 : (x0 : Int) % 16 = ((x0 % 16 : Nat) : Int) := by omega
 have q2 : ((x0 : Int) / 16 % 2 == 1) = (x0 / 16 % 2 == 1) := by rw [Bool.eq_iff_iff, beq_iff_eq, beq_iff_eq]; omega
 have q3 : ((x0 : Int) / 32 % 2 == 1) = (x0 / 32 % 2 == 1) := by rw [Bool.eq_iff_iff, beq_iff_eq, beq_iff_eq]; omega
 have hk16 : x0 % 16 < 16 := Nat.mod_lt _ (by decide)
 generalize hk : x0 % 16 = k at *
 generalize hxb : (x0 / 16 % 2 == 1) = xb at *
 generalize hpb : (x0 / 32 % 2 == 1) = pb at *
 replace hk := Lib.hid hk
 replace hxb := Lib.hid hxb
 replace hpb := Lib.hid hpb
 obtain ⟨A, hA⟩ : ∃ A, 12 + 4 * k = A := ⟨_, rfl⟩
 have qA : 12 + 4 * (k : Int) = (A : Int) := by omega
 replace hA := Lib.hid hA
 by_cases h4 : len < A
 ·have d : decide ((len : Int) < (A : Int)) = true := by simp; omega
  have hRk := Lib.hid (show R = (2, 0, rZero) from by rw [← hR.out]; unfold readN; rw [hll.out, if_neg h1, if_neg h2, hx0.out, if_neg h3, hk.out, hA.out, if_pos h4])
  go_wp2_with fail
  have s0 := hp_cell (Z4.out) 0
  have s1 := hp_cell (Z4.out) 1
  have s2 := hp_cell (Z4.out) 2
  have s3 := hp_cell (Z4.out) 3
  have s4 := hp_cell (Z4.out) 4
  have s5 := hp_cell (Z4.out) 5
  have s6 := hp_cell (Z4.out) 6
  have s7 := hp_cell (Z4.out) 7
  have s8 := hp_cell (Z4.out) 8
  have s9 := hp_cell (Z4.out) 9
  have s10 := hp_cell (Z4.out) 10
  simp only [List.getElem?_toArray, List.getElem?_cons_zero, List.getElem?_cons_succ] at s0 s1 s2 s3 s4 s5 s6 s7 s8 s9 s10
  exact bodyPost_ret (v := .tuple #[.agg #[.bool false, .int .u8 0, .int .u16 0, .int .u32 0, .int .u32 0, .slice none 0 0, .bool false, .int .u16 0, .slice none 0 0, .slice none 0 0, .int .u8 0], .int .i64 0, .int .i64 2]) (by simp [results, Tryz.results49, go_sem, s0, s1, s2, s3, s4, s5, s6, s7, s8, s9, s10]) rfl ⟨_, by rw [hRk.out]; rfl, by rw [hRk.out]; exact RtpO.zero _ _, B4.out⟩
 have d : decide ((len : Int) < (A : Int)) = false := by simp; omega
 have hR9 := Lib.hid (hR.out.symm.trans (readN_at l (by rw [hll.out]; exact h1) (by rw [hll.out]; exact h2) hx0.out h3 hk.out hxb.out hpb.out (by rw [hll.out, hA.out]; omega)))
 rw [hA.out] at hR9
 go_upto_if 43 with (fail)
 clear d qA
 have hA12 : 12 ≤ A := by have := hA.out; omega
 have hAl : (A : Int) ≤ 100 := by have := hA.out; omega
 go_cut [8] (fun t8 wc => ∃ (ae pf : Nat) (ex : List Nat) (se : Option Addr) (ne ce : Nat), t8 = .int .i64 (ae : Nat) ∧ Hid (rExt l xb A = (0, ae, pf, ex)) ∧ 12 ≤ ae ∧ ae ≤ len ∧ pf < 65536 ∧ Hid (PkV wc (w.heap.size + 1) (rtpC false 0 0 0 0 (.slice none 0 0) xb pf (.slice se ne ce) (.slice none 0 0) 0)) ∧ Hid (PkV wc w.heap.size zC) ∧ Hid (OB wc w2.heap.size 5 (.slice se ne ce) ex.length ex) ∧ Hid (SB wc (.slice (some ⟨b, o, none⟩) len cap) len l) ∧ Hid (BW w wc) ∧ Hid (w2.heap.size ≤ wc.heap.size))
 case first =>
  cases xb
  ·go_wp2_with fail
   go_meet
   exact ⟨A, 0, [], none, 0, 0, rfl, (by simp [rExt] : rExt l false A = (0, A, 0, [])), hA12, by omega, by omega, P2, Z2, OB.nil _ _ _, V2, B2, Nat.le_refl _⟩
  ·by_cases g1 : len < A + 4
   ·have d : decide ((len : Int) < (A : Int) + 4) = true := by simp; omega
    have hRk := Lib.hid (show R = (2, 0, rZero) from by rw [hR9.out, show rExt l true A = (2, 0, 0, []) from by unfold rExt; rw [if_pos rfl, hll.out, if_pos g1]]; rfl)
    go_wp2_with fail
    have s0 := hp_cell (Z4.out) 0
    have s1 := hp_cell (Z4.out) 1
    have s2 := hp_cell (Z4.out) 2
    have s3 := hp_cell (Z4.out) 3
    have s4 := hp_cell (Z4.out) 4
    have s5 := hp_cell (Z4.out) 5
    have s6 := hp_cell (Z4.out) 6
    have s7 := hp_cell (Z4.out) 7
    have s8 := hp_cell (Z4.out) 8
    have s9 := hp_cell (Z4.out) 9
    have s10 := hp_cell (Z4.out) 10
    simp only [List.getElem?_toArray, List.getElem?_cons_zero, List.getElem?_cons_succ] at s0 s1 s2 s3 s4 s5 s6 s7 s8 s9 s10
    exact bodyPost_ret (v := .tuple #[.agg #[.bool false, .int .u8 0, .int .u16 0, .int .u32 0, .int .u32 0, .slice none 0 0, .bool false, .int .u16 0, .slice none 0 0, .slice none 0 0, .int .u8 0], .int .i64 0, .int .i64 2]) (by simp [results, Tryz.results49, go_sem, s0, s1, s2, s3, s4, s5, s6, s7, s8, s9, s10]) rfl ⟨_, by rw [hRk.out]; rfl, by rw [hRk.out]; exact RtpO.zero _ _, B4.out⟩
   have d : decide ((len : Int) < (A : Int) + 4) = false := by simp; omega
   have hWb := nm_lt l hlb.out (A + 2) 2
   have hXb := nm_lt l hlb.out A 2
   have cW := fun wz hv => Lib.hid (rnum_ok (.slice (some ⟨b, o, none⟩) len cap) len l (A + 2) 2 ((A : Int) + 2) 2 (by decide) (by decide) (by omega) hlen (by push_cast; rfl) rfl wz hv)
   have cX := fun wz hv => Lib.hid (rnum_ok (.slice (some ⟨b, o, none⟩) len cap) len l A 2 (A : Int) 2 (by decide) (by decide) (by omega) hlen rfl rfl wz hv)
   have eW : numB ((l.drop (A + 2)).take 2) = nm l (A + 2) 2 := rfl
   have eX : numB ((l.drop A).take 2) = nm l A 2 := rfl
   rw [eW] at cW
   rw [eX] at cX
   clear eW eX
   have rE : rExt l true A = (if l.length < A + 4 then (2, 0, 0, []) else if l.length < A + 4 + 4 * nm l (A + 2) 2 then (2, 0, 0, []) else if 255 < nm l (A + 2) 2 then (3, 0, 0, []) else (0, A + 4 + 4 * nm l (A + 2) 2, nm l A 2, (l.drop (A + 4)).take (4 * nm l (A + 2) 2))) := by unfold rExt; rw [if_pos rfl]
   generalize nm l (A + 2) 2 = W at *
   generalize nm l A 2 = X at *
   have uW : (W : Int) ≤ 65535 := by omega
   have uX : (X : Int) ≤ 65535 := by omega
   replace rE := Lib.hid rE
   go_wp2_with fail
   refine Calls.mono (cW w2 V2.out).out ?_
   rintro e w' ⟨rfl, rfl⟩
   dsimp only
   clear d cW
   by_cases g2 : len < A + 4 + 4 * W
   ·have d : decide ((len : Int) < (A : Int) + 4 + 4 * (W : Int)) = true := by simp; omega
    have hRk := Lib.hid (show R = (2, 0, rZero) from by rw [hR9.out, rE.out, hll.out, if_neg g1, if_pos g2]; rfl)
    go_wp2_with fail
    have s0 := hp_cell (Z4.out) 0
    have s1 := hp_cell (Z4.out) 1
    have s2 := hp_cell (Z4.out) 2
    have s3 := hp_cell (Z4.out) 3
    have s4 := hp_cell (Z4.out) 4
    have s5 := hp_cell (Z4.out) 5
    have s6 := hp_cell (Z4.out) 6
    have s7 := hp_cell (Z4.out) 7
    have s8 := hp_cell (Z4.out) 8
    have s9 := hp_cell (Z4.out) 9
    have s10 := hp_cell (Z4.out) 10
    simp only [List.getElem?_toArray, List.getElem?_cons_zero, List.getElem?_cons_succ] at s0 s1 s2 s3 s4 s5 s6 s7 s8 s9 s10
    exact bodyPost_ret (v := .tuple #[.agg #[.bool false, .int .u8 0, .int .u16 0, .int .u32 0, .int .u32 0, .slice none 0 0, .bool false, .int .u16 0, .slice none 0 0, .slice none 0 0, .int .u8 0], .int .i64 0, .int .i64 2]) (by simp [results, Tryz.results49, go_sem, s0, s1, s2, s3, s4, s5, s6, s7, s8, s9, s10]) rfl ⟨_, by rw [hRk.out]; rfl, by rw [hRk.out]; exact RtpO.zero _ _, B4.out⟩
   have d : decide ((len : Int) < (A : Int) + 4 + 4 * (W : Int)) = false := by simp; omega
   by_cases g3 : 255 < W
   ·have d' : decide ((255 : Int) < (W : Int)) = true := by simp; omega
    have hRk := Lib.hid (show R = (3, 0, rZero) from by rw [hR9.out, rE.out, hll.out, if_neg g1, if_neg g2, if_pos g3]; rfl)
    go_wp2_with fail
    have s0 := hp_cell (Z4.out) 0
    have s1 := hp_cell (Z4.out) 1
    have s2 := hp_cell (Z4.out) 2
    have s3 := hp_cell (Z4.out) 3
    have s4 := hp_cell (Z4.out) 4
    have s5 := hp_cell (Z4.out) 5
    have s6 := hp_cell (Z4.out) 6
    have s7 := hp_cell (Z4.out) 7
    have s8 := hp_cell (Z4.out) 8
    have s9 := hp_cell (Z4.out) 9
    have s10 := hp_cell (Z4.out) 10
    simp only [List.getElem?_toArray, List.getElem?_cons_zero, List.getElem?_cons_succ] at s0 s1 s2 s3 s4 s5 s6 s7 s8 s9 s10
    exact bodyPost_ret (v := .tuple #[.agg #[.bool false, .int .u8 0, .int .u16 0, .int .u32 0, .int .u32 0, .slice none 0 0, .bool false, .int .u16 0, .slice none 0 0, .slice none 0 0, .int .u8 0], .int .i64 0, .int .i64 3]) (by simp [results, Tryz.results49, go_sem, s0, s1, s2, s3, s4, s5, s6, s7, s8, s9, s10]) rfl ⟨_, by rw [hRk.out]; rfl, by rw [hRk.out]; exact RtpO.zero _ _, B4.out⟩
   have d' : decide ((255 : Int) < (W : Int)) = false := by simp; omega
   have f6 := P2.out.frz 6
   have f7 := P2.out.frz 7
   go_upto_region 23 with (fail)
   clear d d' f6
   have P3 : Hid (PkV (w2.setCell ⟨w.heap.size + 1, 6, none⟩ (.bool true)) (w.heap.size + 1) (rtpC false 0 0 0 0 (.slice none 0 0) true 0 (.slice none 0 0) (.slice none 0 0) 0)) := P2.out.set 6 (.bool true)
   have TS := still_setCR w2 (w.heap.size + 1) 6 (.bool true)
   have Z3 := Lib.hid (Z2.out.still TS (by simp))
   have V3 := Lib.hid (V2.out.still TS (fun k hk => by have := hvb k hk; simp; omega))
   have B3 := Lib.hid (B2.out.stl TS (by simp))
   have S3 := Lib.hid TS.size
   clear TS f7
   clear z0 z1 z2 z3 z4 z5 z6 z7 z8 z9 z10 y0 y1 y2 y3 y4 y5 y6 y7 y8 y9 y10 k0 k1 k2 k3 k4 k5 k6 k7 k8 k9 k10
   generalize w2.setCell ⟨w.heap.size + 1, 6, none⟩ (.bool true) = w3 at *
   have f7 := P3.out.frz 7
   have e7 : w3.cell? ⟨w.heap.size + 1, 7, none⟩ = some (.int .u16 0) := P3.out.cell 7
   go_wp2_with fail
   refine Calls.mono (cX w3 V3.out).out ?_
   rintro e w' ⟨rfl, rfl⟩
   dsimp only
   clear cX
   go_upto_region 24 with (fail)
   have P4' : Hid (PkV (w3.setCell ⟨w.heap.size + 1, 7, none⟩ (.int .u16 (X : Nat))) (w.heap.size + 1) (rtpC false 0 0 0 0 (.slice none 0 0) true X (.slice none 0 0) (.slice none 0 0) 0)) := P3.out.set 7 (.int .u16 (X : Nat))
   have TS := still_setCR w3 (w.heap.size + 1) 7 (.int .u16 (X : Nat))
   have Z4' := Lib.hid (Z3.out.still TS (by simp))
   have V4 := Lib.hid (V3.out.still TS (fun k hk => by have := hvb k hk; simp; omega))
   have B4' := Lib.hid (B3.out.stl TS (by simp))
   have S4 := Lib.hid (Nat.le_trans S3.out TS.size)
   clear TS f7 e7 P3 Z3 V3 B3 S3
   generalize w3.setCell ⟨w.heap.size + 1, 7, none⟩ (.int .u16 (X : Nat)) = w4 at *
   have l8 : ∀ x : LaterS [] w4, x.now.cell? ⟨w.heap.size + 1, 8, none⟩ = some (.slice none 0 0) := fun x => x.cell (P4'.out.cell 8) (by simp)
   have hc := fun w => run_cut_lh (P := Tryz.prog) Tryz.underlying35 info_u8 (some ⟨b, o, none⟩) len cap (A + 4) (A + 4 + 4 * W) ((A : Int) + 4) ((A : Int) + 4 + 4 * (W : Int)) (by push_cast; rfl) (by push_cast; rfl) .i64 .i64 (by omega) (by omega) w
   have C := Lib.hid (V4.out.cut (A + 4) (A + 4 + 4 * W) cap (by omega) (by omega) (by omega) (Nat.le_refl _))
   rw [show A + 4 + 4 * W - (A + 4) = 4 * W by omega] at hc C
   have q4 : IntKind.i64.wrap ((A : Int) + 4) = (A : Int) + 4 := IntWalk.i64_in _ (by omega)
   have q5 : IntKind.i64.wrap (4 * (W : Int)) = 4 * (W : Int) := IntWalk.i64_in _ (by omega)
   have q6 : IntKind.i64.wrap ((A : Int) + 4 + 4 * (W : Int)) = (A : Int) + 4 + 4 * (W : Int) := IntWalk.i64_in _ (by omega)
   refine wp_region_gg [] [] [11] (by kernel_rfl) ?_
   refine hoist [] [] (a1 := ?_) 0 rfl (by kernel_rfl) (.inl ⟨rfl, rfl⟩) rfl rfl rfl (fun x K hK => ?_) ?_
   rotate_left
   ·go_big_quiet_op
    exact hK
   refine hoist [] [] (a1 := ?_) 1 rfl (by kernel_rfl) (.inl ⟨rfl, rfl⟩) rfl rfl rfl (fun x K hK => ?_) ?_
   rotate_left
   ·go_big_quiet_op
    exact hK
   refine hoist [] [] (a1 := ?_) 2 rfl (by kernel_rfl) (.inl ⟨rfl, rfl⟩) rfl rfl rfl (fun x K hK => ?_) ?_
   rotate_left
   ·go_big_quiet_op
    exact hK
   refine hoist [] [] (a1 := ?_) 3 rfl (by kernel_rfl) (.inl ⟨rfl, rfl⟩) rfl rfl rfl (fun x K hK => ?_) ?_
   rotate_left
   ·go_big_quiet_op
    exact hK
   refine hoist [] [] (a1 := ?_) 4 rfl (by kernel_rfl) (.inl ⟨rfl, rfl⟩) rfl rfl rfl (fun x K hK => ?_) ?_
   rotate_left
   ·go_big_quiet_op
    exact hK
   refine hoist [] [] (a1 := ?_) 5 rfl (by kernel_rfl) (.inl ⟨rfl, rfl⟩) rfl rfl rfl (fun x K hK => ?_) ?_
   rotate_left
   ·go_big_quiet_op
    exact hK
   refine hoist [] [] (a1 := ?_) 6 rfl (by kernel_rfl) (.inl ⟨rfl, rfl⟩) rfl rfl rfl (fun x K hK => ?_) ?_
   rotate_left
   ·go_big_quiet_op
    exact hK
   refine hoist [] [] (a1 := ?_) 7 rfl (by kernel_rfl) (.inl ⟨rfl, rfl⟩) rfl rfl rfl (fun x K hK => ?_) ?_
   rotate_left
   ·go_big_quiet_op
    exact hK
   refine hoist [] [] (a1 := ?_) 8 rfl (by kernel_rfl) (.inl ⟨rfl, rfl⟩) rfl rfl rfl (fun x K hK => ?_) ?_
   rotate_left
   ·go_big_quiet_op
    exact hK
   refine hoist [] [] (a1 := ?_) 9 rfl (by kernel_rfl) (.inl ⟨rfl, rfl⟩) rfl rfl rfl (fun x K hK => ?_) ?_
   rotate_left
   ·go_big_quiet_op
    exact hK
   refine hoist [] [] (a1 := ?_) 10 rfl (by kernel_rfl) (.inl ⟨rfl, rfl⟩) rfl rfl rfl (fun x K hK => ?_) ?_
   rotate_left
   ·go_big_quiet_op
    exact hK
   refine tail 11 rfl (by kernel_rfl) rfl (fun xr => ?_)
   simp only [List.drop_succ_cons, List.drop_zero]
   clear hc q4 q5 q6 l8
   have S5 := Lib.hid (Nat.le_trans S4.out xr.bw.size)
   have C5 := Lib.hid (C.out.bw xr.bw)
   go_wp2_with (at_builtin; go_must (refine wpList_apOB rfl _ _ rfl w2.heap.size (.slice none 0 0) 0 [] rfl (OB.nil _ _ _) _ rfl (4 * W) ((l.drop (A + 4)).take (4 * W)) C5.out (by omega) S5.out ?_; intro s5 c5 w5 hc5 hm5 O5 T5 B5 G5; rw [Nat.zero_add] at *; unfold maxLen at hm5; have P5 := (P4'.out.bw xr.bw).still T5 (by simp [Value.ownBlock]); have Z5 := Lib.hid ((Z4'.out.bw xr.bw).still T5 (by simp [Value.ownBlock])); have V5 := Lib.hid ((V4.out.bw xr.bw).still T5 (by simp [Value.ownBlock])); have BB := Lib.hid ((B4'.out.trans xr.bw).stl T5 (by simp [Value.ownBlock])); have SS := Lib.hid (Nat.le_trans S5.out T5.size); have f8 := P5.frz 8; have e8 : w5.cell? ⟨w.heap.size + 1, 8, none⟩ = some (.slice none 0 0) := P5.cell 8; replace P5 := Lib.hid P5; replace O5 := Lib.hid O5; clear T5 B5 G5))
   go_meet
   have TS := still_setCR w5 (w.heap.size + 1) 8 (.slice s5 (4 * W) c5)
   have P6 : Hid (PkV (w5.setCell ⟨w.heap.size + 1, 8, none⟩ (.slice s5 (4 * W) c5)) (w.heap.size + 1) (rtpC false 0 0 0 0 (.slice none 0 0) true X (.slice s5 (4 * W) c5) (.slice none 0 0) 0)) := P5.out.set 8 (.slice s5 (4 * W) c5)
   have O6 := O5.out.still TS (fun k hk => by have := O5.out.ge' k hk; have := hz2.out; simp; omega)
   have hO := O5.out.1
   rw [List.nil_append] at O6 hO
   refine ⟨A + 4 + 4 * W, X, (l.drop (A + 4)).take (4 * W), s5, 4 * W, c5, by push_cast; rfl, ?_, by omega, by omega, by omega, P6, Z5.out.still TS (by simp), ?_, V5.out.still TS (fun k hk => by have := hvb k hk; simp; omega), BB.out.stl TS (by simp), Nat.le_trans SS.out TS.size⟩
   ·rw [rE.out, hll.out, if_neg g1, if_neg g2, if_neg g3]; rfl
   ·rw [hO]; exact O6
 clear Z4 B4 TSz P2 Z2 V2 B2 e0
 clear z0 z1 z2 z3 z4 z5 z6 z7 z8 z9 z10 y0 y1 y2 y3 y4 y5 y6 y7 y8 y9 y10 k0 k1 k2 k3 k4 k5 k6 k7 k8 k9 k10
 obtain ⟨ae, pf, ex, se, ne, ce, rfl, hE, hae, hael, hpf, P, Z, O, V, B, S⟩ := hcut
 have hR10 := hR9.out
 rw [hE.out] at hR10
 dsimp only at hR10
 rw [if_neg (by decide)] at hR10
 replace hR10 := Lib.hid hR10
 clear hR9
 obtain ⟨wa, rfl⟩ : ∃ x, x = wc := ⟨_, rfl⟩
 have TSz := still_set11 wa w.heap.size (.bool false) (.int .u8 0) (.int .u16 0) (.int .u32 0) (.int .u32 0) (.slice none 0 0) (.bool false) (.int .u16 0) (.slice none 0 0) (.slice none 0 0) (.int .u8 0)
 have Z4 := Lib.hid (Z.out.set11 rfl (.bool false) (.int .u8 0) (.int .u16 0) (.int .u32 0) (.int .u32 0) (.slice none 0 0) (.bool false) (.int .u16 0) (.slice none 0 0) (.slice none 0 0) (.int .u8 0))
 have B4 := Lib.hid (B.out.stl TSz (by simp))
 replace TSz := Lib.hid TSz
 have e0 := sb_at V.out 0 (by omega)
 rw [Nat.add_zero, hx0.out] at e0
 have hdl : (l.drop ae).length = len - ae := by rw [List.length_drop, hll.out]
 go_upto_if 94 with (fail)
 go_cut [10] (fun t10 wb => ∃ pd : Nat, t10 = .int .i64 (pd : Nat) ∧ Hid (rPad pb (l.drop ae) = some pd) ∧ pd ≤ len - ae ∧ pd < 256 ∧ wb = wa)
 case first =>
  cases pb
  ·go_wp2_with fail
   go_meet
   exact ⟨0, rfl, rfl, by omega, by decide, rfl⟩
  ·have el := sb_at V.out (len - 1) (by omega)
   have hlt := hlb.out.get (len - 1)
   have hgd : ae < len → (l.drop ae).getD (len - ae - 1) 0 = l.getD (len - 1) 0 := fun h => by
    rw [List.getD_eq_getElem?_getD, List.getElem?_drop, show ae + (len - ae - 1) = len - 1 by omega, ← List.getD_eq_getElem?_getD]
   generalize l.getD (len - 1) 0 = lst at *
   have ul : (lst : Int) ≤ 255 := by omega
   have tn : ((len : Int) - 1).toNat = len - 1 := by omega
   have z0 := hp_cell (Z.out) 0
   have y0 := hp_frz (Z.out) 0
   have z1 := hp_cell (Z.out) 1
   have y1 := hp_frz (Z.out) 1
   have z2 := hp_cell (Z.out) 2
   have y2 := hp_frz (Z.out) 2
   have z3 := hp_cell (Z.out) 3
   have y3 := hp_frz (Z.out) 3
   have z4 := hp_cell (Z.out) 4
   have y4 := hp_frz (Z.out) 4
   have z5 := hp_cell (Z.out) 5
   have y5 := hp_frz (Z.out) 5
   have z6 := hp_cell (Z.out) 6
   have y6 := hp_frz (Z.out) 6
   have z7 := hp_cell (Z.out) 7
   have y7 := hp_frz (Z.out) 7
   have z8 := hp_cell (Z.out) 8
   have y8 := hp_frz (Z.out) 8
   have z9 := hp_cell (Z.out) 9
   have y9 := hp_frz (Z.out) 9
   have z10 := hp_cell (Z.out) 10
   have y10 := hp_frz (Z.out) 10
   simp only [zC, rtpC, List.getElem?_toArray, List.getElem?_cons_zero, List.getElem?_cons_succ] at z0 z1 z2 z3 z4 z5 z6 z7 z8 z9 z10
   by_cases g1 : ae = len
   ·have d : ((ae : Int) == (len : Int)) = true := by simp; omega
    have hp : rPad true (l.drop ae) = none := by unfold rPad; rw [if_pos rfl, hdl, if_pos (.inl (by omega))]
    replace hp := Lib.hid hp
    replace hgd := Lib.hid hgd
    have hRk := Lib.hid (show R = (3, 0, rZero) from by rw [hR10.out, hp.out])
    go_wp2_with fail
    have s0 := hp_cell (Z4.out) 0
    have s1 := hp_cell (Z4.out) 1
    have s2 := hp_cell (Z4.out) 2
    have s3 := hp_cell (Z4.out) 3
    have s4 := hp_cell (Z4.out) 4
    have s5 := hp_cell (Z4.out) 5
    have s6 := hp_cell (Z4.out) 6
    have s7 := hp_cell (Z4.out) 7
    have s8 := hp_cell (Z4.out) 8
    have s9 := hp_cell (Z4.out) 9
    have s10 := hp_cell (Z4.out) 10
    simp only [List.getElem?_toArray, List.getElem?_cons_zero, List.getElem?_cons_succ] at s0 s1 s2 s3 s4 s5 s6 s7 s8 s9 s10
    exact bodyPost_ret (v := .tuple #[.agg #[.bool false, .int .u8 0, .int .u16 0, .int .u32 0, .int .u32 0, .slice none 0 0, .bool false, .int .u16 0, .slice none 0 0, .slice none 0 0, .int .u8 0], .int .i64 0, .int .i64 3]) (by simp [results, Tryz.results49, go_sem, s0, s1, s2, s3, s4, s5, s6, s7, s8, s9, s10]) rfl ⟨_, by rw [hRk.out]; rfl, by rw [hRk.out]; exact RtpO.zero _ _, B4.out⟩
   have d : ((ae : Int) == (len : Int)) = false := by simp; omega
   have hgd' := hgd (by omega)
   clear hgd
   have hp : rPad true (l.drop ae) = if lst = 0 ∨ len - ae < lst then none else some lst := by
    unfold rPad
    rw [if_pos rfl, hdl, hgd']
    by_cases hz : lst = 0
    ·rw [if_pos (.inr (.inl hz)), if_pos (.inl hz)]
    ·by_cases hq : len - ae < lst
     ·rw [if_pos (.inr (.inr hq)), if_pos (.inr hq)]
     ·rw [if_neg (by omega), if_neg (by omega)]
   clear hgd'
   replace hp := Lib.hid hp
   by_cases hz : lst = 0
   ·have d2 : ((lst : Int) == 0) = true := by simp; omega
    have hRk := Lib.hid (show R = (3, 0, rZero) from by rw [hR10.out, hp.out, if_pos (.inl hz)])
    go_wp2_with fail
    have s0 := hp_cell (Z4.out) 0
    have s1 := hp_cell (Z4.out) 1
    have s2 := hp_cell (Z4.out) 2
    have s3 := hp_cell (Z4.out) 3
    have s4 := hp_cell (Z4.out) 4
    have s5 := hp_cell (Z4.out) 5
    have s6 := hp_cell (Z4.out) 6
    have s7 := hp_cell (Z4.out) 7
    have s8 := hp_cell (Z4.out) 8
    have s9 := hp_cell (Z4.out) 9
    have s10 := hp_cell (Z4.out) 10
    simp only [List.getElem?_toArray, List.getElem?_cons_zero, List.getElem?_cons_succ] at s0 s1 s2 s3 s4 s5 s6 s7 s8 s9 s10
    exact bodyPost_ret (v := .tuple #[.agg #[.bool false, .int .u8 0, .int .u16 0, .int .u32 0, .int .u32 0, .slice none 0 0, .bool false, .int .u16 0, .slice none 0 0, .slice none 0 0, .int .u8 0], .int .i64 0, .int .i64 3]) (by simp [results, Tryz.results49, go_sem, s0, s1, s2, s3, s4, s5, s6, s7, s8, s9, s10]) rfl ⟨_, by rw [hRk.out]; rfl, by rw [hRk.out]; exact RtpO.zero _ _, B4.out⟩
   have d2 : ((lst : Int) == 0) = false := by simp; omega
   by_cases hq : len - ae < lst
   ·have d3 : decide ((len : Int) - (ae : Int) < (lst : Int)) = true := by simp; omega
    have hRk := Lib.hid (show R = (3, 0, rZero) from by rw [hR10.out, hp.out, if_pos (.inr hq)])
    go_wp2_with fail
    have s0 := hp_cell (Z4.out) 0
    have s1 := hp_cell (Z4.out) 1
    have s2 := hp_cell (Z4.out) 2
    have s3 := hp_cell (Z4.out) 3
    have s4 := hp_cell (Z4.out) 4
    have s5 := hp_cell (Z4.out) 5
    have s6 := hp_cell (Z4.out) 6
    have s7 := hp_cell (Z4.out) 7
    have s8 := hp_cell (Z4.out) 8
    have s9 := hp_cell (Z4.out) 9
    have s10 := hp_cell (Z4.out) 10
    simp only [List.getElem?_toArray, List.getElem?_cons_zero, List.getElem?_cons_succ] at s0 s1 s2 s3 s4 s5 s6 s7 s8 s9 s10
    exact bodyPost_ret (v := .tuple #[.agg #[.bool false, .int .u8 0, .int .u16 0, .int .u32 0, .int .u32 0, .slice none 0 0, .bool false, .int .u16 0, .slice none 0 0, .slice none 0 0, .int .u8 0], .int .i64 0, .int .i64 3]) (by simp [results, Tryz.results49, go_sem, s0, s1, s2, s3, s4, s5, s6, s7, s8, s9, s10]) rfl ⟨_, by rw [hRk.out]; rfl, by rw [hRk.out]; exact RtpO.zero _ _, B4.out⟩
   have d3 : decide ((len : Int) - (ae : Int) < (lst : Int)) = false := by simp; omega
   clear Z4 B4
   go_wp2_with fail
   go_meet
   exact ⟨lst, rfl, Lib.hid (by rw [hp.out, if_neg (by omega)]), by omega, hlt, rfl⟩
 clear Z4 B4 TSz hdl e0 q1 q2 q3
 obtain ⟨pd, rfl, hpd, hpl, hpb2, rfl⟩ := hcut
 have hRg : Hid (R = (0, ae, ⟨x1 / 128 == 1, x1 % 128, nm l 2 2, nm l 4 4, nm l 8 4, rOthers l k, xb, pf, ex, (l.drop ae).take (len - ae - pd), pd⟩)) := by
  show R = _
  rw [hR10.out, hpd.out, hx1.out, hll.out]
 clear hR10 hpd hE
 have hkl : 12 + 4 * k ≤ len := by have := hA.out; omega
 have hzz : w.heap.size + 1 < w2.heap.size := by have := hz2.out; omega
 clear hb1 hz2 hv h4 hAl hA12 hA hb0 u0 hx0
 go_upto_region 32 with (fail)
 go_loopg [11] k (fun m' i wx => ∃ (j : Nat) (so_ : Option Addr) (co : Nat), m' = k - j ∧ j ≤ k ∧ i = .int .i64 (j : Nat) ∧ co ≤ 9223372036854775807 ∧ Hid (PkV wx (w.heap.size + 1) (rtpC false 0 0 0 0 (.slice so_ j co) xb pf (.slice se ne ce) (.slice none 0 0) 0)) ∧ Hid (PkV wx w.heap.size zC) ∧ Hid (NO wx w2.heap.size 33 .u32 (.slice so_ j co) j (nz (rOthers l j))) ∧ Hid (OB wx w2.heap.size 5 (.slice se ne ce) ex.length ex) ∧ Hid (SB wx (.slice (some ⟨b, o, none⟩) len cap) len l) ∧ Hid (BW w wx) ∧ Hid (w2.heap.size ≤ wx.heap.size))
 case atStart => exact ⟨0, none, 0, by omega, by omega, rfl, by omega, P, Z, NO.nil _ _ _ _, O, V, B, S⟩
 case round =>
  clear P Z O V B S
  obtain ⟨j, so_, co, rfl, hj, rfl, hco, P, Z, N, O, V, B, S⟩ := hrel
  by_cases hjk : j < k
  ·go_upto_region 34 with (fail)
   have l5 : ∀ x : LaterS [] wr, x.now.cell? ⟨w.heap.size + 1, 5, none⟩ = some (.slice so_ j co) := fun x => x.cell (P.out.cell 5) (by simp)
   have b4 := nm_lt l hlb.out (12 + 4 * j) 4
   have hsn := rOthers_snoc l j
   have cn := fun wz hv => Lib.hid (rnum_ok (.slice (some ⟨b, o, none⟩) len cap) len l (12 + 4 * j) 4 (12 + 4 * (j : Int)) 4 (by decide) (by decide) (by omega) hlen (by push_cast; rfl) rfl wz hv)
   have eX : numB ((l.drop (12 + 4 * j)).take 4) = nm l (12 + 4 * j) 4 := rfl
   rw [eX] at cn
   clear eX
   generalize nm l (12 + 4 * j) 4 = X at *
   have uX : (X : Int) ≤ 4294967295 := by omega
   have q4 : IntKind.i64.wrap (4 * (j : Int)) = 4 * (j : Int) := IntWalk.i64_in _ (by omega)
   have q5 : IntKind.i64.wrap (12 + 4 * (j : Int)) = 12 + 4 * (j : Int) := IntWalk.i64_in _ (by omega)
   replace hsn := Lib.hid hsn
   refine wp_region_gg [] [] [9] (by kernel_rfl) ?_
   refine hoist [] [] (a1 := ?_) 0 rfl (by kernel_rfl) (.inl ⟨rfl, rfl⟩) rfl rfl rfl (fun x K hK => ?_) ?_
   rotate_left
   ·go_big_quiet_op
    exact hK
   refine hoist [] [] (a1 := ?_) 1 rfl (by kernel_rfl) (.inl ⟨rfl, rfl⟩) rfl rfl rfl (fun x K hK => ?_) ?_
   rotate_left
   ·go_big_quiet_op
    exact hK
   refine hoist [] [] (a1 := ?_) 2 rfl (by kernel_rfl) (.inl ⟨rfl, rfl⟩) rfl rfl rfl (fun x K hK => ?_) ?_
   rotate_left
   ·go_big_quiet_op
    exact hK
   refine hoist [] [] (a1 := ?_) 3 rfl (by kernel_rfl) (.inl ⟨rfl, rfl⟩) rfl rfl rfl (fun x K hK => ?_) ?_
   rotate_left
   ·go_big_quiet_op
    exact hK
   refine hoist [] [] (a1 := ?_) 4 rfl (by kernel_rfl) (.inl ⟨rfl, rfl⟩) rfl rfl rfl (fun x K hK => ?_) ?_
   rotate_left
   ·go_big_quiet_op
    exact hK
   refine hoist [] [] (a1 := ?_) 5 rfl (by kernel_rfl) (.inl ⟨rfl, rfl⟩) rfl rfl rfl (fun x K hK => ?_) ?_
   rotate_left
   ·go_big_quiet_op
    exact hK
   refine hoist_call [] [] (a1 := ?_) 6 rfl (by kernel_rfl) (.inl ⟨rfl, rfl⟩) rfl rfl rfl (fun x K hK => ?_) ?_
   rotate_left
   ·go_big_quiet_op
    apply Exists.intro
    refine ⟨fun y => ?_, ?_⟩
    ·exact ((cn y.now (V.out.bw (x.bw.trans y.bw))).out).mono fun _ _ h => ⟨h.1, y, h.2.symm⟩
    ·exact hK
   refine hoist [] [] (a1 := ?_) 7 rfl (by kernel_rfl) (.inl ⟨rfl, rfl⟩) rfl rfl rfl (fun x K hK => ?_) ?_
   rotate_left
   ·go_big_quiet_op
    exact hK
   refine effect 8 rfl (by kernel_rfl) (by kernel_rfl) rfl (fun x8 K hK => ?_)
   go_simp
   refine hK _ _ (Still.of_below ((Below.refl _ _).alloc (Nat.le_refl _) _)) ?_
   clear hK K
   refine tail 9 rfl (by kernel_rfl) rfl (fun xr => ?_)
   simp only [List.drop_succ_cons, List.drop_zero]
   have N1 := Lib.hid ((NB.new1 x8.now 33 .u32 (X : Int)).bw xr.bw)
   have BA : BW wr xr.now := (x8.bw.trans (BW.refl _).alloc).trans xr.bw
   have P3 := Lib.hid (P.out.bw BA)
   have Z3 := Lib.hid (Z.out.bw BA)
   have N3 := Lib.hid (N.out.bw BA)
   have O3 := Lib.hid (O.out.bw BA)
   have V3 := Lib.hid (V.out.bw BA)
   have B3 := Lib.hid (B.out.trans BA)
   have S3 := Lib.hid (Nat.le_trans S.out BA.size)
   clear BA cn q4 q5 l5 P Z N O V B S
   generalize xr.now = w3 at *
   generalize x8.now.heap.size = nb at *
   have hnot : ∀ k, k < w2.heap.size → k ∉ (Value.slice so_ j co).ownBlock.toList := fun k hk hm => by
    have := N3.out.ge' k (by simpa using hm)
    omega
   have hge : ∀ k ∈ (Value.slice so_ j co).ownBlock.toList, w.heap.size ≤ k := fun k hm => by
    have := N3.out.ge' k (by simpa using hm)
    omega
   have hap := O3.out.2.2.apart N3.out.2 (by decide)
   go_wp2_with (at_builtin; go_must (refine wpList_apN slU32' rfl _ _ rfl w2.heap.size .u32 (.slice so_ j co) j _ rfl N3.out _ rfl 1 [(X : Int)] N1.out (by omega) S3.out ?_; intro s4 c4 w4 hc4 hm4 N4 T4 B5 G4; have P4 := P3.out.still T4 (hnot _ (by omega)); have Z4 := Lib.hid (Z3.out.still T4 (hnot _ (by omega))); have O4 := Lib.hid (O3.out.still T4 hap); have V4 := Lib.hid (V3.out.still T4 (fun k hk => hnot k (by have := hvb k hk; omega))); have B4 := Lib.hid (B3.out.stl T4 hge); have S4 := Lib.hid (Nat.le_trans S3.out T4.size); have f5 := P4.frz 5; have e5 : w4.cell? ⟨w.heap.size + 1, 5, none⟩ = some (.slice so_ j co) := P4.cell 5; replace P4 := Lib.hid P4; replace N4 := Lib.hid N4; clear T4 B5 G4 P3 Z3 N3 O3 V3 B3 S3 N1 hnot hge hap; unfold maxLen at hm4))
   have P5 : Hid (PkV (w4.setCell ⟨w.heap.size + 1, 5, none⟩ (.slice s4 (j + 1) c4)) (w.heap.size + 1) (rtpC false 0 0 0 0 (.slice s4 (j + 1) c4) xb pf (.slice se ne ce) (.slice none 0 0) 0)) := P4.out.set 5 (.slice s4 (j + 1) c4)
   have TS := still_setCR w4 (w.heap.size + 1) 5 (.slice s4 (j + 1) c4)
   have Z5 := Lib.hid (Z4.out.still TS (by simp))
   have N5 := N4.out.still TS (fun k hk => by have := N4.out.ge' k hk; simp; omega)
   have O5 := Lib.hid (O4.out.still TS (fun k hk => by have := O4.out.ge' k hk; simp; omega))
   have V5 := Lib.hid (V4.out.still TS (fun k hk => by have := hvb k hk; simp; omega))
   have B5 := Lib.hid (B4.out.stl TS (by simp))
   have S5 := Lib.hid (Nat.le_trans S4.out TS.size)
   clear TS P4 Z4 N4 O4 V4 B4 S4 f5 e5
   rw [show nz (rOthers l j) ++ [(X : Int)] = nz (rOthers l (j + 1)) by rw [← hsn.out]; simp [nz]] at N5
   replace N5 := Lib.hid N5
   generalize w4.setCell ⟨w.heap.size + 1, 5, none⟩ (.slice s4 (j + 1) c4) = w5 at *
   go_roundg (k - (j + 1))
   case measure => omega
   case rel => exact ⟨j + 1, s4, c4, rfl, by omega, by push_cast; rfl, by omega, P5, Z5, N5, O5, V5, B5, S5⟩
  ·obtain rfl : j = k := by omega
   clear hjk
   obtain ⟨wk, rfl⟩ : ∃ x, x = wr := ⟨_, rfl⟩
   have e1 := sb_at V.out 1 (by omega)
   rw [hx1.out] at e1
   have hx1b : x1 < 256 := by rw [← hx1.out]; exact hlb.out.get 1
   have u1 : (x1 : Int) ≤ 255 := by omega
   have q6 : decide ((127 : Int) < (x1 : Int)) = (x1 / 128 == 1) := by
    rw [Bool.eq_iff_iff, beq_iff_eq, decide_eq_true_iff]; omega
   have q7 : (x1 : Int) % 128 = ((x1 % 128 : Nat) : Int) := by omega
   generalize (x1 / 128 == 1) = mk at *
   generalize x1 % 128 = ty at *
   have f0 := P.out.frz 0
   have f1 := P.out.frz 1
   have g0 : wk.cell? ⟨w.heap.size + 1, 0, none⟩ = some (.bool false) := P.out.cell 0
   have g1 : wk.cell? ⟨w.heap.size + 1, 1, none⟩ = some (.int .u8 0) := P.out.cell 1
   go_upto_region 37 with (fail)
   clear f0 f1 g0 g1 q6 q7 e1
   have TSa := still_setCR wk (w.heap.size + 1) 0 (.bool mk)
   have TS := TSa.trans (still_setCR (wk.setCell ⟨w.heap.size + 1, 0, none⟩ (.bool mk)) (w.heap.size + 1) 1 (.int .u8 (ty : Nat)))
   have P1 : Hid (PkV ((wk.setCell ⟨w.heap.size + 1, 0, none⟩ (.bool mk)).setCell ⟨w.heap.size + 1, 1, none⟩ (.int .u8 (ty : Nat))) (w.heap.size + 1) (rtpC mk ty 0 0 0 (.slice so_ j co) xb pf (.slice se ne ce) (.slice none 0 0) 0)) := (P.out.set 0 (.bool mk)).set 1 (.int .u8 (ty : Nat))
   have Z1 := Lib.hid (Z.out.still TS (by simp))
   have N1 := Lib.hid (N.out.still TS (fun k hk => by have := N.out.ge' k hk; simp; omega))
   have O1 := Lib.hid (O.out.still TS (fun k hk => by have := O.out.ge' k hk; simp; omega))
   have V1 := Lib.hid (V.out.still TS (fun k hk => by have := hvb k hk; simp; omega))
   have B1 := Lib.hid (B.out.stl TS (by simp))
   have S1 := Lib.hid (Nat.le_trans S.out TS.size)
   clear TS Z N O V B S
   clear P TSa
   generalize (wk.setCell ⟨w.heap.size + 1, 0, none⟩ (.bool mk)).setCell ⟨w.heap.size + 1, 1, none⟩ (.int .u8 (ty : Nat)) = w1 at *
   have c2 := fun wz hv => Lib.hid (rnum_ok (.slice (some ⟨b, o, none⟩) len cap) len l 2 2 2 2 (by decide) (by decide) (by omega) hlen rfl rfl wz hv)
   have c4 := fun wz hv => Lib.hid (rnum_ok (.slice (some ⟨b, o, none⟩) len cap) len l 4 4 4 4 (by decide) (by decide) (by omega) hlen rfl rfl wz hv)
   have c8 := fun wz hv => Lib.hid (rnum_ok (.slice (some ⟨b, o, none⟩) len cap) len l 8 4 8 4 (by decide) (by decide) (by omega) hlen rfl rfl wz hv)
   rw [show numB ((l.drop 2).take 2) = nm l 2 2 from rfl] at c2
   rw [show numB ((l.drop 4).take 4) = nm l 4 4 from rfl] at c4
   rw [show numB ((l.drop 8).take 4) = nm l 8 4 from rfl] at c8
   have b2 := nm_lt l hlb.out 2 2
   have b4 := nm_lt l hlb.out 4 4
   have b8 := nm_lt l hlb.out 8 4
   generalize nm l 2 2 = sq at *
   generalize nm l 4 4 = st at *
   generalize nm l 8 4 = so at *
   have u2 : (sq : Int) ≤ 65535 := by omega
   have u4 : (st : Int) ≤ 4294967295 := by omega
   have u8 : (so : Int) ≤ 4294967295 := by omega
   have f2 := P1.out.frz 2
   have g2 : w1.cell? ⟨w.heap.size + 1, 2, none⟩ = some (.int .u16 0) := P1.out.cell 2
   go_wp2_with fail
   refine Calls.mono (c2 w1 V1.out).out ?_
   rintro e w' ⟨rfl, rfl⟩
   dsimp only
   go_upto_region 38 with (fail)
   have TS := still_setCR w1 (w.heap.size + 1) 2 (.int .u16 (sq : Nat))
   have P2 : Hid (PkV (w1.setCell ⟨w.heap.size + 1, 2, none⟩ (.int .u16 (sq : Nat))) (w.heap.size + 1) (rtpC mk ty sq 0 0 (.slice so_ j co) xb pf (.slice se ne ce) (.slice none 0 0) 0)) := P1.out.set 2 (.int .u16 (sq : Nat))
   have Z2 := Lib.hid (Z1.out.still TS (by simp))
   have N2 := Lib.hid (N1.out.still TS (fun k hk => by have := N1.out.ge' k hk; simp; omega))
   have O2 := Lib.hid (O1.out.still TS (fun k hk => by have := O1.out.ge' k hk; simp; omega))
   have V2 := Lib.hid (V1.out.still TS (fun k hk => by have := hvb k hk; simp; omega))
   have B2 := Lib.hid (B1.out.stl TS (by simp))
   have S2 := Lib.hid (Nat.le_trans S1.out TS.size)
   clear TS Z1 N1 O1 V1 B1 S1
   clear P1 f2 g2 c2
   generalize w1.setCell ⟨w.heap.size + 1, 2, none⟩ (.int .u16 (sq : Nat)) = w3 at *
   have f3 := P2.out.frz 3
   have g3 : w3.cell? ⟨w.heap.size + 1, 3, none⟩ = some (.int .u32 0) := P2.out.cell 3
   go_wp2_with fail
   refine Calls.mono (c4 w3 V2.out).out ?_
   rintro e w' ⟨rfl, rfl⟩
   dsimp only
   go_upto_region 39 with (fail)
   have TS := still_setCR w3 (w.heap.size + 1) 3 (.int .u32 (st : Nat))
   have P3 : Hid (PkV (w3.setCell ⟨w.heap.size + 1, 3, none⟩ (.int .u32 (st : Nat))) (w.heap.size + 1) (rtpC mk ty sq st 0 (.slice so_ j co) xb pf (.slice se ne ce) (.slice none 0 0) 0)) := P2.out.set 3 (.int .u32 (st : Nat))
   have Z3 := Lib.hid (Z2.out.still TS (by simp))
   have N3 := Lib.hid (N2.out.still TS (fun k hk => by have := N2.out.ge' k hk; simp; omega))
   have O3 := Lib.hid (O2.out.still TS (fun k hk => by have := O2.out.ge' k hk; simp; omega))
   have V3 := Lib.hid (V2.out.still TS (fun k hk => by have := hvb k hk; simp; omega))
   have B3 := Lib.hid (B2.out.stl TS (by simp))
   have S3 := Lib.hid (Nat.le_trans S2.out TS.size)
   clear TS Z2 N2 O2 V2 B2 S2
   clear P2 f3 g3 c4
   generalize w3.setCell ⟨w.heap.size + 1, 3, none⟩ (.int .u32 (st : Nat)) = w4 at *
   have f4 := P3.out.frz 4
   have g4 : w4.cell? ⟨w.heap.size + 1, 4, none⟩ = some (.int .u32 0) := P3.out.cell 4
   go_wp2_with fail
   refine Calls.mono (c8 w4 V3.out).out ?_
   rintro e w' ⟨rfl, rfl⟩
   dsimp only
   go_upto_region 40 with (fail)
   have TS := still_setCR w4 (w.heap.size + 1) 4 (.int .u32 (so : Nat))
   have P4 : Hid (PkV (w4.setCell ⟨w.heap.size + 1, 4, none⟩ (.int .u32 (so : Nat))) (w.heap.size + 1) (rtpC mk ty sq st so (.slice so_ j co) xb pf (.slice se ne ce) (.slice none 0 0) 0)) := P3.out.set 4 (.int .u32 (so : Nat))
   have Z4 := Lib.hid (Z3.out.still TS (by simp))
   have N4 := Lib.hid (N3.out.still TS (fun k hk => by have := N3.out.ge' k hk; simp; omega))
   have O4 := Lib.hid (O3.out.still TS (fun k hk => by have := O3.out.ge' k hk; simp; omega))
   have V4 := Lib.hid (V3.out.still TS (fun k hk => by have := hvb k hk; simp; omega))
   have B4 := Lib.hid (B3.out.stl TS (by simp))
   have S4 := Lib.hid (Nat.le_trans S3.out TS.size)
   clear TS Z3 N3 O3 V3 B3 S3
   clear P3 f4 g4 c8
   generalize w4.setCell ⟨w.heap.size + 1, 4, none⟩ (.int .u32 (so : Nat)) = w5 at *
   have l9 : ∀ x : LaterS [] w5, x.now.cell? ⟨w.heap.size + 1, 9, none⟩ = some (.slice none 0 0) := fun x => x.cell (P4.out.cell 9) (by simp)
   have hc := fun w => run_cut_lh (P := Tryz.prog) Tryz.underlying35 info_u8 (some ⟨b, o, none⟩) len cap ae (len - pd) (ae : Int) ((len : Int) - (pd : Int)) rfl (by omega) .i64 .i64 (by omega) (by omega) w
   have C := Lib.hid (V4.out.cut ae (len - pd) cap (by omega) (by omega) (by omega) (Nat.le_refl _))
   rw [show len - pd - ae = len - ae - pd by omega] at hc C
   have q5 : IntKind.i64.wrap ((len : Int) - (pd : Int)) = (len : Int) - (pd : Int) := IntWalk.i64_in _ (by omega)
   have hnp : len - ae - pd ≤ 1000000000000 := by omega
   generalize len - ae - pd = np at *
   refine wp_region_gg [] [] [8] (by kernel_rfl) ?_
   refine hoist [] [] (a1 := ?_) 0 rfl (by kernel_rfl) (.inl ⟨rfl, rfl⟩) rfl rfl rfl (fun x K hK => ?_) ?_
   rotate_left
   ·go_big_quiet_op
    exact hK
   refine hoist [] [] (a1 := ?_) 1 rfl (by kernel_rfl) (.inl ⟨rfl, rfl⟩) rfl rfl rfl (fun x K hK => ?_) ?_
   rotate_left
   ·go_big_quiet_op
    exact hK
   refine hoist [] [] (a1 := ?_) 2 rfl (by kernel_rfl) (.inl ⟨rfl, rfl⟩) rfl rfl rfl (fun x K hK => ?_) ?_
   rotate_left
   ·go_big_quiet_op
    exact hK
   refine hoist [] [] (a1 := ?_) 3 rfl (by kernel_rfl) (.inl ⟨rfl, rfl⟩) rfl rfl rfl (fun x K hK => ?_) ?_
   rotate_left
   ·go_big_quiet_op
    exact hK
   refine hoist [] [] (a1 := ?_) 4 rfl (by kernel_rfl) (.inl ⟨rfl, rfl⟩) rfl rfl rfl (fun x K hK => ?_) ?_
   rotate_left
   ·go_big_quiet_op
    exact hK
   refine hoist [] [] (a1 := ?_) 5 rfl (by kernel_rfl) (.inl ⟨rfl, rfl⟩) rfl rfl rfl (fun x K hK => ?_) ?_
   rotate_left
   ·go_big_quiet_op
    exact hK
   refine hoist [] [] (a1 := ?_) 6 rfl (by kernel_rfl) (.inl ⟨rfl, rfl⟩) rfl rfl rfl (fun x K hK => ?_) ?_
   rotate_left
   ·go_big_quiet_op
    exact hK
   refine hoist [] [] (a1 := ?_) 7 rfl (by kernel_rfl) (.inl ⟨rfl, rfl⟩) rfl rfl rfl (fun x K hK => ?_) ?_
   rotate_left
   ·go_big_quiet_op
    exact hK
   refine tail 8 rfl (by kernel_rfl) rfl (fun xr => ?_)
   simp only [List.drop_succ_cons, List.drop_zero]
   clear hc q5 l9
   have C5 := Lib.hid (C.out.bw xr.bw)
   have P5 := Lib.hid (P4.out.bw xr.bw)
   have Z5 := Lib.hid (Z4.out.bw xr.bw)
   have N5 := Lib.hid (N4.out.bw xr.bw)
   have O5 := Lib.hid (O4.out.bw xr.bw)
   have B5 := Lib.hid (B4.out.trans xr.bw)
   have S5 := Lib.hid (Nat.le_trans S4.out xr.bw.size)
   clear P4 Z4 N4 O4 V4 B4 S4 C
   generalize xr.now = w6 at *
   go_wp2_with (at_builtin; go_must (refine wpList_apOB rfl _ _ rfl w2.heap.size (.slice none 0 0) 0 [] rfl (OB.nil _ _ _) _ rfl np ((l.drop ae).take np) C5.out (by omega) S5.out ?_; intro s7 c7 w7 hc7 hm7 D7 T7 B7 G7; rw [Nat.zero_add] at *; rw [List.nil_append] at D7; unfold maxLen at hm7; have P7 := P5.out.still T7 (by simp [Value.ownBlock]); have Z7 := Lib.hid (Z5.out.still T7 (by simp [Value.ownBlock])); have N7 := Lib.hid (N5.out.still T7 (by simp [Value.ownBlock])); have O7 := Lib.hid (O5.out.still T7 (by simp [Value.ownBlock])); have BB := Lib.hid (B5.out.stl T7 (by simp [Value.ownBlock])); have SS := Lib.hid (Nat.le_trans S5.out T7.size); have f9 := P7.frz 9; have f10 := P7.frz 10; have k0 := hp_cell P7 0; have k1 := hp_cell P7 1; have k2 := hp_cell P7 2; have k3 := hp_cell P7 3; have k4 := hp_cell P7 4; have k5 := hp_cell P7 5; have k6 := hp_cell P7 6; have k7 := hp_cell P7 7; have k8 := hp_cell P7 8; have k9 := hp_cell P7 9; have k10 := hp_cell P7 10; have z0 := hp_cell Z7.out 0; have y0 := hp_frz Z7.out 0; have z1 := hp_cell Z7.out 1; have y1 := hp_frz Z7.out 1; have z2 := hp_cell Z7.out 2; have y2 := hp_frz Z7.out 2; have z3 := hp_cell Z7.out 3; have y3 := hp_frz Z7.out 3; have z4 := hp_cell Z7.out 4; have y4 := hp_frz Z7.out 4; have z5 := hp_cell Z7.out 5; have y5 := hp_frz Z7.out 5; have z6 := hp_cell Z7.out 6; have y6 := hp_frz Z7.out 6; have z7 := hp_cell Z7.out 7; have y7 := hp_frz Z7.out 7; have z8 := hp_cell Z7.out 8; have y8 := hp_frz Z7.out 8; have z9 := hp_cell Z7.out 9; have y9 := hp_frz Z7.out 9; have z10 := hp_cell Z7.out 10; have y10 := hp_frz Z7.out 10; simp only [rtpC, zC, List.getElem?_toArray, List.getElem?_cons_zero, List.getElem?_cons_succ] at k0 z0 k1 z1 k2 z2 k3 z3 k4 z4 k5 z5 k6 z6 k7 z7 k8 z8 k9 z9 k10 z10; replace P7 := Lib.hid P7; replace D7 := Lib.hid D7; clear T7 B7 G7 P5 Z5 N5 O5 B5 S5 C5))
   clear z0 z1 z2 z3 z4 z5 z6 z7 z8 z9 z10 y0 y1 y2 y3 y4 y5 y6 y7 y8 y9 y10 k0 k1 k2 k3 k4 k5 k6 k7 k8 k9 k10
   clear f9 f10
   have TSa := still_setCR w7 (w.heap.size + 1) 9 (.slice s7 np c7)
   have TS := TSa.trans (still_setCR (w7.setCell ⟨w.heap.size + 1, 9, none⟩ (.slice s7 np c7)) (w.heap.size + 1) 10 (.int .u8 (pd : Nat)))
   have D8 := Lib.hid (D7.out.still TS (fun k hk => by have := D7.out.ge' k hk; simp; omega))
   have Z8 := Lib.hid (Z7.out.still TS (by simp))
   have N8 := Lib.hid (N7.out.still TS (fun k hk => by have := N7.out.ge' k hk; simp; omega))
   have O8 := Lib.hid (O7.out.still TS (fun k hk => by have := O7.out.ge' k hk; simp; omega))
   have B8 := Lib.hid (BB.out.stl TS (by simp))
   clear TSa TS P7 Z7 N7 O7 BB SS D7
   generalize (w7.setCell ⟨w.heap.size + 1, 9, none⟩ (.slice s7 np c7)).setCell ⟨w.heap.size + 1, 10, none⟩ (.int .u8 (pd : Nat)) = w8 at *
   have TS := still_set11 w8 w.heap.size (.bool mk) (.int .u8 (ty : Nat)) (.int .u16 (sq : Nat)) (.int .u32 (st : Nat)) (.int .u32 (so : Nat)) (.slice so_ j co) (.bool xb) (.int .u16 (pf : Nat)) (.slice se ne ce) (.slice s7 np c7) (.int .u8 (pd : Nat))
   have Z9 := Z8.out.set11 rfl (.bool mk) (.int .u8 (ty : Nat)) (.int .u16 (sq : Nat)) (.int .u32 (st : Nat)) (.int .u32 (so : Nat)) (.slice so_ j co) (.bool xb) (.int .u16 (pf : Nat)) (.slice se ne ce) (.slice s7 np c7) (.int .u8 (pd : Nat))
   have D9 := (D8.out.still TS (fun k hk => by have := D8.out.ge' k hk; simp; omega)).up (base' := w.heap.size) (by omega)
   have N9 := (N8.out.still TS (fun k hk => by have := N8.out.ge' k hk; simp; omega)).up (base' := w.heap.size) (by omega)
   have O9 := (O8.out.still TS (fun k hk => by have := O8.out.ge' k hk; simp; omega)).up (base' := w.heap.size) (by omega)
   have B9 := B8.out.stl TS (by simp)
   have z0 := hp_cell (Z9) 0
   have z1 := hp_cell (Z9) 1
   have z2 := hp_cell (Z9) 2
   have z3 := hp_cell (Z9) 3
   have z4 := hp_cell (Z9) 4
   have z5 := hp_cell (Z9) 5
   have z6 := hp_cell (Z9) 6
   have z7 := hp_cell (Z9) 7
   have z8 := hp_cell (Z9) 8
   have z9 := hp_cell (Z9) 9
   have z10 := hp_cell (Z9) 10
   simp only [List.getElem?_toArray, List.getElem?_cons_zero, List.getElem?_cons_succ] at z0 z1 z2 z3 z4 z5 z6 z7 z8 z9 z10
   replace Z9 := Lib.hid Z9
   replace D9 := Lib.hid D9
   replace N9 := Lib.hid N9
   replace O9 := Lib.hid O9
   replace B9 := Lib.hid B9
   replace TS := Lib.hid TS
   refine bodyPost_ret (v := .tuple #[.agg #[.bool mk, .int .u8 (ty : Nat), .int .u16 (sq : Nat), .int .u32 (st : Nat), .int .u32 (so : Nat), .slice so_ j co, .bool xb, .int .u16 (pf : Nat), .slice se ne ce, .slice s7 np c7, .int .u8 (pd : Nat)], .int .i64 (ae : Nat), .int .i64 0]) (by simp [results, Tryz.results49, go_sem, z0, z1, z2, z3, z4, z5, z6, z7, z8, z9, z10]) rfl ?_
   rw [hRg.out]
   exact ⟨_, rfl, ⟨_, _, _, rfl, by rw [rOthers_len]; exact N9.out, O9.out, by rw [D9.out.1]; exact D9.out⟩, B9.out⟩
end Go.Proofs.YtikmhlbpefednaaGreat
