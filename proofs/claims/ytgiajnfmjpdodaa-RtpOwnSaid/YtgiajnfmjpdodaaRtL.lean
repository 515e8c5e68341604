/- The law RtpOwn. No condition. -/
import Derived.Test.YtgiajnfmjpdodaaRtK
import Derived.Test.YtgiajnfmjpdodaaApO
namespace Go.Proofs.Ytgiajnfmjpdodaa
open Go.RowKit

set_option maxRecDepth 100000 in
set_option maxHeartbeats 8000000 in
theorem law_own (a : Option Addr) (len cap : Nat) (w : World) (h : Rd w (.loop (.label 4)) [.slice a len cap]) :
    Calls Try.prog 3 #[.slice a len cap] w fun e w' => e = .returned (.bool true) ∧ Below w.heap.size w w' := by
  obtain ⟨l, hv⟩ := SB_of_Rd h
  obtain ⟨_, _, he, hn, hm⟩ := hv.len
  simp only [Value.slice.injEq, true_and] at he
  obtain ⟨rfl, rfl⟩ := he
  unfold maxLen at hm
  clear h
  have ha := Lib.hid (rtp_alive w)
  replace hv := Lib.hid hv
  go_enter Try.func3, Try.ntmps3
  go_wp2_with fail
  refine Calls.mono ha.out ?_
  rintro e w1 ⟨rfl, B1⟩
  replace B1 := Lib.hid B1
  clear ha
  by_cases hl : 3000 < len
  · have d : decide ((3000 : Int) < (len : Int)) = true := by simp; omega
    go_wp2_with fail
    go_ret
    exact ⟨rfl, B1.out⟩
  have d : decide ((3000 : Int) < (len : Int)) = false := by simp; omega
  have hlen : (len : Int) ≤ 3000 := by omega
  go_upto_region 5 with (fail)
  clear d
  have V1 := Lib.hid (hv.out.bw B1.out)
  have z1 := B1.out.size
  have O1 := Lib.hid (OB.new0 w1 w.heap.size z1)
  have B2 : Hid (BW w (w1.alloc (.cells #[] 5))) := B1.out.alloc
  have V2 : Hid (SB (w1.alloc (.cells #[] 5)) (.slice a len cap) len l) := V1.out.bw ((BW.refl _).alloc)
  have cR := fun wz v hv => Lib.hid (Read_any v len l (by omega) wz hv)
  have cF := fun wz hv => Lib.hid (refRead_any (.slice a len cap) len l (by omega) wz hv)
  generalize readN l = R at *
  obtain ⟨er, hd, d⟩ := R
  go_wp2_with (at_builtin; go_must (refine wpList_apOB rfl _ _ rfl w.heap.size (.slice (some ⟨w1.heap.size, 0, none⟩) 0 0) 0 [] rfl O1.out _ rfl len l V2.out (by omega) B2.out.size ?_; intro sa c2 w2 hc2 hm2 O2 T2 hb G2; rw [Nat.zero_add] at *; rw [List.nil_append] at O2; unfold maxLen at hm2; replace B2 := Lib.hid (B2.out.step hb (Nat.le_refl _)); replace O2 := Lib.hid O2; clear T2 hb G2 O1 V1 V2))
  refine Calls.mono (cR w2 _ O2.out.sb).out ?_
  rintro e w3 ⟨c1, rfl, R1, hb⟩
  obtain ⟨s1, p1, s2, p2, s3, p3, rfl, -, -, -⟩ := R1.open
  obtain ⟨mk, ty, sq, st, so, ot, xb, pf, ex, pl, pd⟩ := d
  dsimp only at R1 ⊢
  simp only [rtpC] at R1 ⊢
  have W4 : BW w2 (w3.alloc (.cells #[.bool mk, .int .u8 (ty : Nat), .int .u16 (sq : Nat), .int .u32 (st : Nat), .int .u32 (so : Nat), .slice s1 ot.length p1, .bool xb, .int .u16 (pf : Nat), .slice s2 ex.length p2, .slice s3 pl.length p3, .int .u8 (pd : Nat)] 28)) := hb.alloc
  have P4 := PkV.newAt w3 #[.bool mk, .int .u8 (ty : Nat), .int .u16 (sq : Nat), .int .u32 (st : Nat), .int .u32 (so : Nat), .slice s1 ot.length p1, .bool xb, .int .u16 (pf : Nat), .slice s2 ex.length p2, .slice s3 pl.length p3, .int .u8 (pd : Nat)] w3.heap.size rfl
  have R4 := R1.bw ((BW.refl w3).alloc (o := .cells #[.bool mk, .int .u8 (ty : Nat), .int .u16 (sq : Nat), .int .u32 (st : Nat), .int .u32 (so : Nat), .slice s1 ot.length p1, .bool xb, .int .u16 (pf : Nat), .slice s2 ex.length p2, .slice s3 pl.length p3, .int .u8 (pd : Nat)] 28))
  have O4 := Lib.hid (O2.out.bw W4)
  have B4 := Lib.hid (B2.out.trans W4)
  have ho2 : ∀ k, (Value.slice sa len c2).ownBlock = some k → w.heap.size ≤ k ∧ k < w2.heap.size := fun k hk => ⟨O2.out.ge' k hk, O2.out.lt' k hk⟩
  have hz3 := hb.size
  clear hb R1 W4 O2 B2 cR
  replace P4 := Lib.hid P4
  replace R4 := Lib.hid R4
  go_upto_region 7 with (fail)
  generalize w3.alloc (.cells #[.bool mk, .int .u8 (ty : Nat), .int .u16 (sq : Nat), .int .u32 (st : Nat), .int .u32 (so : Nat), .slice s1 ot.length p1, .bool xb, .int .u16 (pf : Nat), .slice s2 ex.length p2, .slice s3 pl.length p3, .int .u8 (pd : Nat)] 28) = w4 at *
  have hg1 : w2.heap.size ≤ w3.heap.size := hz3
  generalize w3.heap.size = g1 at *
  clear hz3
  go_wp2_with fail
  refine Calls.mono (cF w4 (hv.out.bw B4.out)).out ?_
  rintro e w5 ⟨c2', rfl, F1, hb⟩
  obtain ⟨t1, r1, t2, r2, t3, r3, rfl, -, -, -⟩ := F1.open
  dsimp only at F1 ⊢
  simp only [rtpC] at F1 ⊢
  have W6 : BW w4 (w5.alloc (.cells #[.bool mk, .int .u8 (ty : Nat), .int .u16 (sq : Nat), .int .u32 (st : Nat), .int .u32 (so : Nat), .slice t1 ot.length r1, .bool xb, .int .u16 (pf : Nat), .slice t2 ex.length r2, .slice t3 pl.length r3, .int .u8 (pd : Nat)] 28)) := hb.alloc
  have P6 := Lib.hid (PkV.newAt w5 #[.bool mk, .int .u8 (ty : Nat), .int .u16 (sq : Nat), .int .u32 (st : Nat), .int .u32 (so : Nat), .slice t1 ot.length r1, .bool xb, .int .u16 (pf : Nat), .slice t2 ex.length r2, .slice t3 pl.length r3, .int .u8 (pd : Nat)] w5.heap.size rfl)
  have F6 := Lib.hid (F1.bw ((BW.refl w5).alloc (o := .cells #[.bool mk, .int .u8 (ty : Nat), .int .u16 (sq : Nat), .int .u32 (st : Nat), .int .u32 (so : Nat), .slice t1 ot.length r1, .bool xb, .int .u16 (pf : Nat), .slice t2 ex.length r2, .slice t3 pl.length r3, .int .u8 (pd : Nat)] 28)))
  have Q6 := Lib.hid (P4.out.bw W6)
  have R6 := Lib.hid (R4.out.bw W6)
  have O6 := Lib.hid (O4.out.bw W6)
  have B6 := Lib.hid (B4.out.trans W6)
  have z4 : w2.heap.size ≤ w4.heap.size := by
    have := HpB.lt P4.out
    omega
  have z5 := hb.size
  clear hb F1 W6 cF P4 R4 O4 B4
  go_upto_region 9 with (fail)
  generalize w5.alloc (.cells #[.bool mk, .int .u8 (ty : Nat), .int .u16 (sq : Nat), .int .u32 (st : Nat), .int .u32 (so : Nat), .slice t1 ot.length r1, .bool xb, .int .u16 (pf : Nat), .slice t2 ex.length r2, .slice t3 pl.length r3, .int .u8 (pd : Nat)] 28) = w6 at *
  have hg2 : w2.heap.size ≤ w5.heap.size := by omega
  generalize w5.heap.size = g2 at *
  go_loopg [9] len (fun m' i wx => ∃ (j : Nat) (l' : List Nat), m' = len - j ∧ j ≤ len ∧ i = .int .i64 (j : Nat) ∧ Hid (OB wx w.heap.size 5 (.slice sa len c2) len l') ∧ Hid (PkV wx g1 #[.bool mk, .int .u8 (ty : Nat), .int .u16 (sq : Nat), .int .u32 (st : Nat), .int .u32 (so : Nat), .slice s1 ot.length p1, .bool xb, .int .u16 (pf : Nat), .slice s2 ex.length p2, .slice s3 pl.length p3, .int .u8 (pd : Nat)]) ∧ Hid (PkV wx g2 #[.bool mk, .int .u8 (ty : Nat), .int .u16 (sq : Nat), .int .u32 (st : Nat), .int .u32 (so : Nat), .slice t1 ot.length r1, .bool xb, .int .u16 (pf : Nat), .slice t2 ex.length r2, .slice t3 pl.length r3, .int .u8 (pd : Nat)]) ∧ Hid (RtpO wx w2.heap.size (rtpC mk ty sq st so (.slice s1 ot.length p1) xb pf (.slice s2 ex.length p2) (.slice s3 pl.length p3) pd) ⟨mk, ty, sq, st, so, ot, xb, pf, ex, pl, pd⟩) ∧ Hid (RtpO wx w4.heap.size (rtpC mk ty sq st so (.slice t1 ot.length r1) xb pf (.slice t2 ex.length r2) (.slice t3 pl.length r3) pd) ⟨mk, ty, sq, st, so, ot, xb, pf, ex, pl, pd⟩) ∧ Hid (BW w wx))
  case atStart => exact ⟨0, l, by omega, by omega, rfl, O6, Q6, P6, R6, F6, B6⟩
  case round =>
    clear O6 P6 Q6 R6 F6 B6
    obtain ⟨j, l', rfl, hj, rfl, O, P, Q, R, F, B⟩ := hrel
    by_cases hjl : j < len
    · obtain ⟨b, o, c3, hs, hb0, hb1, _, _, hc, hf⟩ := O.out.form (by omega)
      simp only [Value.slice.injEq] at hs
      obtain ⟨rfl, -, rfl⟩ := hs
      have ej := hc j hjl
      have hby := O.out.2.1.get j
      have fj := hf (o + j)
      clear hc hf
      have hx : bits .xor .u8 ((l'.getD j 0 : Nat) : Int) 255 = ((l'.getD j 0 ^^^ 255 : Nat) : Int) := by rw [show (255 : Int) = ((255 : Nat) : Int) from rfl]; exact u8_xor_nat _ _ hby (by decide)
      have hx2 : l'.getD j 0 ^^^ 255 < 256 := Nat.xor_lt_two_pow (n := 8) hby (by decide)
      have O2 : Hid (OB (wr.setCell ⟨b, o + j, none⟩ (.int .u8 (l'.getD j 0 ^^^ 255 : Nat))) w.heap.size 5 (.slice (some ⟨b, o, none⟩) len c2) len (l'.set j (l'.getD j 0 ^^^ 255))) := O.out.set j hjl _ hx2
      have ht := ho2 b rfl
      have TS := still_setCR wr b (o + j) (.int .u8 (l'.getD j 0 ^^^ 255 : Nat))
      have P2 := Lib.hid (P.out.still TS (by simp; omega))
      have Q2 := Lib.hid (Q.out.still TS (by simp; omega))
      have R2 := Lib.hid (R.out.still TS (by simpa using ht.2))
      have F2 := Lib.hid (F.out.still TS (by simp; omega))
      have B2 := Lib.hid (B.out.stl TS (by simpa using ht.1))
      replace TS := Lib.hid TS
      generalize l'.getD j 0 = x at *
      have ux : (x : Int) ≤ 255 := by omega
      generalize x ^^^ 255 = y at *
      go_wp2_with fail
      go_roundg (len - (j + 1))
      case measure => omega
      case rel => exact ⟨j + 1, _, rfl, by omega, by push_cast; rfl, O2, P2, Q2, R2, F2, B2⟩
    · obtain rfl : j = len := by omega
      clear hjl
      obtain ⟨wk, rfl⟩ : ∃ x, x = wr := ⟨_, rfl⟩
      have z0 := hp_cell (P.out) 0
      have z1 := hp_cell (P.out) 1
      have z2 := hp_cell (P.out) 2
      have z3 := hp_cell (P.out) 3
      have z4 := hp_cell (P.out) 4
      have z5 := hp_cell (P.out) 5
      have z6 := hp_cell (P.out) 6
      have z7 := hp_cell (P.out) 7
      have z8 := hp_cell (P.out) 8
      have z9 := hp_cell (P.out) 9
      have z10 := hp_cell (P.out) 10
      simp only [List.getElem?_toArray, List.getElem?_cons_zero, List.getElem?_cons_succ] at z0 z1 z2 z3 z4 z5 z6 z7 z8 z9 z10
      have y0 := hp_cell (Q.out) 0
      have y1 := hp_cell (Q.out) 1
      have y2 := hp_cell (Q.out) 2
      have y3 := hp_cell (Q.out) 3
      have y4 := hp_cell (Q.out) 4
      have y5 := hp_cell (Q.out) 5
      have y6 := hp_cell (Q.out) 6
      have y7 := hp_cell (Q.out) 7
      have y8 := hp_cell (Q.out) 8
      have y9 := hp_cell (Q.out) 9
      have y10 := hp_cell (Q.out) 10
      simp only [List.getElem?_toArray, List.getElem?_cons_zero, List.getElem?_cons_succ] at y0 y1 y2 y3 y4 y5 y6 y7 y8 y9 y10
      go_wp2_with fail
      refine Calls.mono (same_true _ _ _ wk R.out.v F.out.v) ?_
      rintro e w7 ⟨rfl, hb⟩
      dsimp only
      have B8 := Lib.hid (B.out.trans hb)
      clear hb
      clear z0 z1 z2 z3 z4 z5 z6 z7 z8 z9 z10 y0 y1 y2 y3 y4 y5 y6 y7 y8 y9 y10
      go_wp2_with fail
      go_ret
      exact ⟨rfl, B8.out⟩
end Go.Proofs.Ytgiajnfmjpdodaa
