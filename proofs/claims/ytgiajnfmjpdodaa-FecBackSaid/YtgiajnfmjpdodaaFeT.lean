/- Covers of packets: a packet of a text with zeros behind it. Of a text that is one; the sizes' conditions. -/
import Derived.Test.YtgiajnfmjpdodaaFeS
import Derived.Test.YtgiajnfmjpdodaaRtG
namespace Go.Proofs.Ytgiajnfmjpdodaa
open Go.RowKit

def nzB (x : Nat) : Bool := !(x == 0)
theorem nz_any (t : Nat) (w : World) : Calls Try.prog 110 #[.int .u8 (t : Nat)] w fun e w' => e = .returned (.bool (nzB t)) ∧ w = w' := by
  have q : ((t : Int) != 0) = nzB t := by
    unfold nzB
    rw [Bool.eq_iff_iff, bne_iff_ne, Bool.not_eq_true', beq_eq_false_iff_ne]; omega
  generalize nzB t = r at *
  go_enter Try.func110, Try.ntmps110
  go_wp2_with fail
  go_ret
  exact ⟨rfl, rfl⟩
set_option maxRecDepth 100000 in
set_option maxHeartbeats 8000000 in
theorem idxnz_any (v : Value) (n : Nat) (L : List Nat) (w : World) (h : SB w v n L) (hn : n ≤ 1000000) :
    Calls Try.prog 119 #[v, .func (.func 110) #[] #[]] w fun e w' => ∃ r : Int, e = .returned (.int .i64 r) ∧ decide (0 ≤ r) = L.any nzB ∧ w = w' := by
  obtain ⟨sa, cap, rfl, hnc, hcm⟩ := h.len
  unfold maxLen at hcm
  have hQ := Lib.hid h
  have hdl := Lib.hid h.1
  clear h
  have cF := Lib.hid nz_any
  go_enter Try.func119, Try.ntmps119
  go_upto_region 2 with (fail)
  go_loopg [8] n (fun m' i wx => ∃ k : Nat, m' = n - k ∧ k ≤ n ∧ i = .int .i64 (k : Nat) ∧ Hid (L.any nzB = (L.drop k).any nzB) ∧ w = wx)
  case atStart => exact ⟨0, by omega, by omega, rfl, Lib.hid (by rw [List.drop_zero]), rfl⟩
  case round =>
    obtain ⟨k, rfl, hk, rfl, hA, rfl⟩ := hrel
    by_cases hkn : k < n
    · have d : decide ((k : Int) < (n : Int)) = true := by simp; omega
      have hkL : k < L.length := by rw [hdl.out]; exact hkn
      obtain ⟨b, o, cap', he, _, _, _, hc⟩ := hQ.out.form (by omega)
      cases he
      have z := hc k hkn
      have hA2 := hA.out
      rw [List.drop_eq_getElem_cons hkL, List.any_cons, show L[k] = L.getD k 0 by rw [List.getD_eq_getElem?_getD, List.getElem?_eq_getElem hkL]; rfl] at hA2
      clear hc
      generalize L.getD k 0 = t at *
      have cF1 := cF.out t w
      go_wp2_with fail
      refine Calls.mono cF1 ?_
      rintro e w2 ⟨rfl, rfl⟩
      clear cF1
      dsimp only
      cases hb : nzB t with
      | true =>
        have hR : L.any nzB = true := by rw [hA2, hb]; rfl
        replace hR := Lib.hid hR
        replace hA2 := Lib.hid hA2
        replace hb := Lib.hid hb
        go_wp2_with fail
        go_ret
        exact ⟨(k : Int), rfl, by rw [hR.out]; simp, rfl⟩
      | false =>
        rw [hb, Bool.false_or] at hA2
        replace hA2 := Lib.hid hA2
        replace hb := Lib.hid hb
        clear z d
        go_wp2_with fail
        go_roundg (n - (k + 1))
        case measure => omega
        case rel => exact ⟨k + 1, rfl, by omega, by push_cast; rfl, hA2, rfl⟩
    · obtain rfl : k = n := by omega
      have d : decide ((k : Int) < (k : Int)) = false := by simp
      have hR : L.any nzB = false := by rw [hA.out, List.drop_of_length_le (by rw [hdl.out]; exact Nat.le_refl _)]; rfl
      replace hR := Lib.hid hR
      go_wp2_with fail
      go_ret
      exact ⟨-1, rfl, by rw [hR.out]; decide, rfl⟩
theorem hasnz_any (v : Value) (n : Nat) (L : List Nat) (w : World) (h : SB w v n L) (hn : n ≤ 1000000) :
    Calls Try.prog 109 #[v, .func (.func 110) #[] #[]] w fun e w' => e = .returned (.bool (L.any nzB)) ∧ w = w' := by
  have c := Lib.hid (idxnz_any v n L w h hn)
  obtain ⟨sa, cap, rfl, hnc, hcm⟩ := h.len
  clear h
  generalize L.any nzB = b at *
  go_enter Try.func109, Try.ntmps109
  go_wp2_with fail
  refine Calls.mono c.out ?_
  rintro e w2 ⟨r, rfl, hr, rfl⟩
  dsimp only
  go_wp2_with fail
  go_ret
  exact ⟨rfl, rfl⟩
def PackPost (d : RtpD) (w : World) (e : Ending) (w' : World) : Prop :=
  ∃ c : Array Value, e = .returned (.tuple #[.agg c, .int .i64 0]) ∧ RtpO w' w.heap.size c d ∧ BW w w'
set_option maxRecDepth 100000 in
set_option maxHeartbeats 8000000 in
theorem packet_any (v : Value) (n : Nat) (l : List Nat) (k hd s : Nat) (d : RtpD) (w : World) (h : SB w v n l) (hn : n ≤ 1000000) (h2 : 2 ≤ n) (hk : numB ((l.drop 0).take 2) = k) (hkn : k ≤ n - 2) (hz : (l.drop (2 + k)).any nzB = false) (hR : readN ((l.drop 2).take k) = (0, hd, d)) (hs : d.seq = s) :
    Calls Try.prog 91 #[v, .int .u16 (s : Nat)] w (PackPost d w) := by
  unfold PackPost
  obtain ⟨sa, cap, rfl, hnc, hcm⟩ := h.len
  unfold maxLen at hcm
  have c1 := fun wz hb => Lib.hid (num_ok (.slice sa n cap) n l 0 2 0 2 (by decide) (by decide) (by omega) rfl rfl wz (h.bw (a := w) hb))
  rw [hk] at c1
  have Z := h.cut (2 + k) n cap (by omega) (Nat.le_refl _) hnc (Nat.le_refl _)
  rw [show (l.drop (2 + k)).take (n - (2 + k)) = l.drop (2 + k) from List.take_of_length_le (by rw [List.length_drop, h.1]; exact Nat.le_refl _)] at Z
  have cz := fun wz hb => Lib.hid (hasnz_any _ _ _ wz (Z.bw (a := w) hb) (by omega))
  rw [hz] at cz
  have P := h.cut 2 (2 + k) cap (by omega) (by omega) (by omega) (Nat.le_refl _)
  rw [show 2 + k - 2 = k by omega] at P
  have cR := fun wz hb => Lib.hid (Read_any _ _ _ (by omega) wz (P.bw (a := w) hb))
  unfold ReadPost2 at cR
  rw [hR] at cR
  have r1 := fun w => run_cut_l (P := Try.prog) Try.underlying22 info_u8 sa n cap (2 + k) (2 + (k : Int)) (by push_cast; rfl) .u64 (by omega) w
  have r2 := fun w => run_cut_lh (P := Try.prog) Try.underlying22 info_u8 sa n cap 2 (2 + k) 2 (2 + (k : Int)) rfl (by push_cast; rfl) .i64 .u64 (by omega) (by omega) w
  rw [show 2 + k - 2 = k by omega] at r2
  have q0 : decide ((n : Int) - 2 < (k : Int)) = false := by simp; omega
  clear h Z P hk hz hR
  dsimp only at cR
  have Z1 : Hid (PkV (w.alloc (.cells #[.bool false, .int .u8 0, .int .u16 0, .int .u32 0, .int .u32 0, .slice none 0 0, .bool false, .int .u16 0, .slice none 0 0, .slice none 0 0, .int .u8 0] 28)) w.heap.size zC) := HpB.new w _
  have B1 : Hid (BW w (w.alloc (.cells #[.bool false, .int .u8 0, .int .u16 0, .int .u32 0, .int .u32 0, .slice none 0 0, .bool false, .int .u16 0, .slice none 0 0, .slice none 0 0, .int .u8 0] 28))) := (BW.refl w).alloc
  have hz1 : w.heap.size < (w.alloc (.cells #[.bool false, .int .u8 0, .int .u16 0, .int .u32 0, .int .u32 0, .slice none 0 0, .bool false, .int .u16 0, .slice none 0 0, .slice none 0 0, .int .u8 0] 28)).heap.size := by simp
  replace hs := Lib.hid hs
  go_enter Try.func91, Try.ntmps91
  go_upto_region 1 with (fail)
  generalize w.alloc (.cells #[.bool false, .int .u8 0, .int .u16 0, .int .u32 0, .int .u32 0, .slice none 0 0, .bool false, .int .u16 0, .slice none 0 0, .slice none 0 0, .int .u8 0] 28) = w1 at *
  have c2 := c1 w1 B1.out
  have cz2 := cz w1 B1.out
  have cR2 := cR w1 B1.out
  clear c1 cz cR
  go_wp2_with fail
  refine Calls.mono c2.out ?_
  rintro e w2 ⟨rfl, rfl⟩
  clear c2
  go_wp2_with fail
  refine Calls.mono cz2.out ?_
  rintro e w2 ⟨rfl, rfl⟩
  clear cz2
  go_wp2_with fail
  refine Calls.mono cR2.out ?_
  rintro e w2 ⟨c, rfl, O, hb⟩
  obtain ⟨so_, co, se, ce, sp, cp, rfl, -, -, -⟩ := O.open
  have Z2 := Z1.out.bw hb
  have B2 := Lib.hid (B1.out.trans hb)
  clear cR2 r1 r2 q0 Z1 B1
  generalize d.others.length = no at *
  generalize d.extra.length = ne at *
  generalize d.payload.length = np at *
  obtain ⟨mk, ty, sq, st, so, ot, xb, pf, ex, pl, pd⟩ := d
  simp only [rtpC] at O ⊢
  have B3 : BW w2 (w2.alloc (.cells #[.bool mk, .int .u8 (ty : Nat), .int .u16 (sq : Nat), .int .u32 (st : Nat), .int .u32 (so : Nat), .slice so_ no co, .bool xb, .int .u16 (pf : Nat), .slice se ne ce, .slice sp np cp, .int .u8 (pd : Nat)] 28)) := (BW.refl _).alloc
  have P3 : Hid (PkV (w2.alloc (.cells #[.bool mk, .int .u8 (ty : Nat), .int .u16 (sq : Nat), .int .u32 (st : Nat), .int .u32 (so : Nat), .slice so_ no co, .bool xb, .int .u16 (pf : Nat), .slice se ne ce, .slice sp np cp, .int .u8 (pd : Nat)] 28)) w2.heap.size #[.bool mk, .int .u8 (ty : Nat), .int .u16 (sq : Nat), .int .u32 (st : Nat), .int .u32 (so : Nat), .slice so_ no co, .bool xb, .int .u16 (pf : Nat), .slice se ne ce, .slice sp np cp, .int .u8 (pd : Nat)]) := HpB.new w2 _
  have Z3 := Z2.bw B3
  have O3 := Lib.hid (O.bw B3)
  have hz2 := HpB.lt Z2
  replace B2 := Lib.hid (B2.out.trans B3)
  have hs2 : sq = s := hs.out
  have q : ((sq : Int) != (s : Int)) = false := by rw [hs2]; simp
  replace Z2 := Lib.hid Z2
  replace O := Lib.hid O
  replace Z3 := Lib.hid Z3
  replace hs2 := Lib.hid hs2
  clear B3 hb
  go_upto_region 5 with (fail)
  generalize w2.alloc (.cells #[.bool mk, .int .u8 (ty : Nat), .int .u16 (sq : Nat), .int .u32 (st : Nat), .int .u32 (so : Nat), .slice so_ no co, .bool xb, .int .u16 (pf : Nat), .slice se ne ce, .slice sp np cp, .int .u8 (pd : Nat)] 28) = w3 at *
  have z0 := hp_cell (Z3.out) 0
  have y0 := hp_frz (Z3.out) 0
  have z1 := hp_cell (Z3.out) 1
  have y1 := hp_frz (Z3.out) 1
  have z2 := hp_cell (Z3.out) 2
  have y2 := hp_frz (Z3.out) 2
  have z3 := hp_cell (Z3.out) 3
  have y3 := hp_frz (Z3.out) 3
  have z4 := hp_cell (Z3.out) 4
  have y4 := hp_frz (Z3.out) 4
  have z5 := hp_cell (Z3.out) 5
  have y5 := hp_frz (Z3.out) 5
  have z6 := hp_cell (Z3.out) 6
  have y6 := hp_frz (Z3.out) 6
  have z7 := hp_cell (Z3.out) 7
  have y7 := hp_frz (Z3.out) 7
  have z8 := hp_cell (Z3.out) 8
  have y8 := hp_frz (Z3.out) 8
  have z9 := hp_cell (Z3.out) 9
  have y9 := hp_frz (Z3.out) 9
  have z10 := hp_cell (Z3.out) 10
  have y10 := hp_frz (Z3.out) 10
  simp only [zC, rtpC, List.getElem?_toArray, List.getElem?_cons_zero, List.getElem?_cons_succ] at z0 z1 z2 z3 z4 z5 z6 z7 z8 z9 z10
  have k0 := hp_cell (P3.out) 0
  have k1 := hp_cell (P3.out) 1
  have k2 := hp_cell (P3.out) 2
  have k3 := hp_cell (P3.out) 3
  have k4 := hp_cell (P3.out) 4
  have k5 := hp_cell (P3.out) 5
  have k6 := hp_cell (P3.out) 6
  have k7 := hp_cell (P3.out) 7
  have k8 := hp_cell (P3.out) 8
  have k9 := hp_cell (P3.out) 9
  have k10 := hp_cell (P3.out) 10
  simp only [List.getElem?_toArray, List.getElem?_cons_zero, List.getElem?_cons_succ] at k0 k1 k2 k3 k4 k5 k6 k7 k8 k9 k10
  go_wp2_with fail
  clear z0 z1 z2 z3 z4 z5 z6 z7 z8 z9 z10 y0 y1 y2 y3 y4 y5 y6 y7 y8 y9 y10 k0 k1 k2 k3 k4 k5 k6 k7 k8 k9 k10
  have TS := still_set11 w3 w.heap.size (.bool mk) (.int .u8 (ty : Nat)) (.int .u16 (sq : Nat)) (.int .u32 (st : Nat)) (.int .u32 (so : Nat)) (.slice so_ no co) (.bool xb) (.int .u16 (pf : Nat)) (.slice se ne ce) (.slice sp np cp) (.int .u8 (pd : Nat))
  have Z4 := Z3.out.set11 rfl (.bool mk) (.int .u8 (ty : Nat)) (.int .u16 (sq : Nat)) (.int .u32 (st : Nat)) (.int .u32 (so : Nat)) (.slice so_ no co) (.bool xb) (.int .u16 (pf : Nat)) (.slice se ne ce) (.slice sp np cp) (.int .u8 (pd : Nat))
  have O4 := (O3.out.still TS (by simpa using hz1)).up (Nat.le_of_lt hz1)
  have T4 := B2.out.stl TS (by simp)
  have z0 := hp_cell (Z4) 0
  have z1 := hp_cell (Z4) 1
  have z2 := hp_cell (Z4) 2
  have z3 := hp_cell (Z4) 3
  have z4 := hp_cell (Z4) 4
  have z5 := hp_cell (Z4) 5
  have z6 := hp_cell (Z4) 6
  have z7 := hp_cell (Z4) 7
  have z8 := hp_cell (Z4) 8
  have z9 := hp_cell (Z4) 9
  have z10 := hp_cell (Z4) 10
  simp only [List.getElem?_toArray, List.getElem?_cons_zero, List.getElem?_cons_succ] at z0 z1 z2 z3 z4 z5 z6 z7 z8 z9 z10
  replace Z4 := Lib.hid Z4
  replace TS := Lib.hid TS
  replace O4 := Lib.hid O4
  replace T4 := Lib.hid T4
  exact bodyPost_ret (v := .tuple #[.agg #[.bool mk, .int .u8 (ty : Nat), .int .u16 (sq : Nat), .int .u32 (st : Nat), .int .u32 (so : Nat), .slice so_ no co, .bool xb, .int .u16 (pf : Nat), .slice se ne ce, .slice sp np cp, .int .u8 (pd : Nat)], .int .i64 0]) (by simp [results, Try.results91, go_sem, z0, z1, z2, z3, z4, z5, z6, z7, z8, z9, z10]) rfl ⟨_, rfl, O4.out, T4.out⟩
end Go.Proofs.Ytgiajnfmjpdodaa
