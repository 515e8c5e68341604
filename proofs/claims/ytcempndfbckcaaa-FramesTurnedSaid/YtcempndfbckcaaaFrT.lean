/- The laws FramesWrite and FramesRead. No condition. -/
import Derived.Test.YtcempndfbckcaaaFrS
namespace Go.Proofs.Ytcempndfbckcaaa
open Go.RowKit

theorem key_rd {w : World} {a : Option Addr} {len cap : Nat} (h : Rd w (.loop (.label 4)) [.slice a len cap]) : ∃ l, SB w (.slice a len cap) len l ∧ len ≤ cap ∧ cap ≤ 9223372036854775807 := by
  obtain ⟨l, hv⟩ := SB_of_Rd h
  obtain ⟨_, _, he, h1, h2⟩ := hv.len
  cases he
  unfold maxLen at h2
  exact ⟨l, hv, h1, by omega⟩
set_option maxRecDepth 100000 in
set_option maxHeartbeats 8000000 in
theorem law_frwrite (cs : Array Value) (a : Option Addr) (len cap : Nat) (w : World) (h : Rd w frTy cs.toList) (hk : Rd w (.loop (.label 4)) [.slice a len cap]) :
    Calls Try.prog 5 #[.agg cs, .slice a len cap] w fun e w' => e = .returned (.bool true) ∧ Below w.heap.size w w' := by
  obtain ⟨d, V, wf⟩ := FrV_of_Rd h
  obtain ⟨key, hK, hkc, hkm⟩ := key_rd hk
  clear h hk
  obtain ⟨ss, cp, rfl, -, hsc, hsm⟩ := V.open
  have ha := fun wz => Lib.hid (fr_alive wz)
  have cW := fun wz (hb : BW w wz) hnk => Lib.hid (frWrite_any _ d a len cap key wz (V.bw hb) wf (hK.bw hb) hnk)
  have cF := fun wz (hb : BW w wz) hnk => Lib.hid (frRWrite_any _ d a len cap key wz (V.bw hb) wf (hK.bw hb) hnk)
  unfold FrWPost at cW
  unfold FrRWPost at cF
  have cS := fun c wz (hb : BW w wz) (h : FrV wz c d) => Lib.hid (frSame_true _ c d wz (V.bw hb) h)
  have hXl := frN_len key d
  have hrd := fun hM => rd_write wf hM key
  have hst := fun hM => seat_write wf hM key
  have hb8 : mayF d = true → ((b8 d.seat : Nat) : Int) = d.seat := fun hM => b8_int' (may_parts hM).2.1
  generalize frN key d = X at *
  have hV := Lib.hid V
  have hKK := Lib.hid hK
  clear V hK wf
  generalize hM : mayF d = M at *
  generalize hdd : d = dd at *
  obtain ⟨k, s, nc, r, t, o, l, L⟩ := d
  rw [← hdd] at hb8 hXl
  have hds : frC dd.kind dd.seat dd.nonce dd.room dd.track dd.owner dd.layer (.slice ss dd.srcs.length cp) = frC k s nc r t o l (.slice ss L.length cp) := by rw [← hdd]
  rw [hds] at cW cF cS hV ⊢
  clear hds
  dsimp only at hb8 hXl
  have hnn : dd.srcs.length = L.length := by rw [← hdd]
  rw [hnn] at hsc
  clear hnn
  simp only [frC] at *
  generalize hLn : L.length = n at *
  have B1 : Hid (BW w (w.alloc (.cells #[.int .i64 k, .int .i64 s, .int .u64 (nc : Nat), .int .i64 r, .int .i64 t, .int .i64 o, .int .i64 l, .slice ss n cp] 35))) := (BW.refl w).alloc
  have P1 := Lib.hid (HpB.new w (.cells #[.int .i64 k, .int .i64 s, .int .u64 (nc : Nat), .int .i64 r, .int .i64 t, .int .i64 o, .int .i64 l, .slice ss n cp] 35))
  replace hM := Lib.hid hM
  replace hdd := Lib.hid hdd
  replace hXl := Lib.hid hXl
  replace hrd := Lib.hid hrd
  replace hst := Lib.hid hst
  replace hb8 := Lib.hid hb8
  replace hLn := Lib.hid hLn
  go_enter Try.func5, Try.ntmps5
  go_upto_region 1 with (fail)
  generalize w.alloc (.cells #[.int .i64 k, .int .i64 s, .int .u64 (nc : Nat), .int .i64 r, .int .i64 t, .int .i64 o, .int .i64 l, .slice ss n cp] 35) = w1 at *
  have ha1 := ha w1
  clear ha
  go_wp2_with fail
  refine Calls.mono ha1.out ?_
  rintro e w2 ⟨rfl, hb⟩
  have B2 := Lib.hid (B1.out.trans hb)
  have P2 := Lib.hid (P1.out.bw hb)
  clear ha1 hb B1 P1
  have z0 := hp_cell (P2.out) 0
  have z1 := hp_cell (P2.out) 1
  have z2 := hp_cell (P2.out) 2
  have z3 := hp_cell (P2.out) 3
  have z4 := hp_cell (P2.out) 4
  have z5 := hp_cell (P2.out) 5
  have z6 := hp_cell (P2.out) 6
  have z7 := hp_cell (P2.out) 7
  simp only [List.getElem?_toArray, List.getElem?_cons_zero, List.getElem?_cons_succ] at z0 z1 z2 z3 z4 z5 z6 z7
  by_cases h1 : 100 < n
  · have d1 : decide ((100 : Int) < (n : Int)) = true := by simp; omega
    go_wp2_with fail
    go_ret
    exact ⟨rfl, B2.out⟩
  have d1 : decide ((100 : Int) < (n : Int)) = false := by simp; omega
  by_cases h2 : 200 < len
  · have d2 : decide ((200 : Int) < (len : Int)) = true := by simp; omega
    go_wp2_with fail
    go_ret
    exact ⟨rfl, B2.out⟩
  have d2 : decide ((200 : Int) < (len : Int)) = false := by simp; omega
  have cW2 := cW w2 B2.out (by omega)
  clear cW
  go_wp2_with fail
  refine Calls.mono cW2.out ?_
  rintro e w3 ⟨hr, hb⟩
  have B3 := Lib.hid (B2.out.trans hb)
  have P3 := Lib.hid (P2.out.bw hb)
  clear z0 z1 z2 z3 z4 z5 z6 z7
  clear cW2 hb B2 P2
  have cF3 := cF w3 B3.out (by omega)
  clear cF
  rcases hr with ⟨rfl, v, rfl, O3⟩ | ⟨rfl, rfl⟩
  case inr =>
    dsimp only
    have z0 := hp_cell (P3.out) 0
    have z1 := hp_cell (P3.out) 1
    have z2 := hp_cell (P3.out) 2
    have z3 := hp_cell (P3.out) 3
    have z4 := hp_cell (P3.out) 4
    have z5 := hp_cell (P3.out) 5
    have z6 := hp_cell (P3.out) 6
    have z7 := hp_cell (P3.out) 7
    simp only [List.getElem?_toArray, List.getElem?_cons_zero, List.getElem?_cons_succ] at z0 z1 z2 z3 z4 z5 z6 z7
    go_wp2_with fail
    refine Calls.mono cF3.out ?_
    rintro e w4 ⟨hr, hb⟩
    have B4 := Lib.hid (B3.out.trans hb)
    clear cF3 hb
    rcases hr with ⟨h, _⟩ | ⟨-, rfl⟩
    · cases h
    dsimp only
    go_wp2_with fail
    go_ret
    exact ⟨rfl, B4.out⟩
  replace hrd := Lib.hid (hrd.out rfl)
  replace hst := Lib.hid (hst.out rfl)
  replace hb8 := Lib.hid (hb8.out rfl)
  obtain ⟨s3, c3, rfl, hc3, hm3⟩ := O3.len
  unfold maxLen at hm3
  have S3 := Lib.hid O3.sb
  clear O3
  generalize hXn : X.length = nX at *
  have hXn2 : nX ≤ 500 := by have := hXl.out; have := hLn.out; omega
  replace hXn := Lib.hid hXn
  dsimp only
  have z0 := hp_cell (P3.out) 0
  have z1 := hp_cell (P3.out) 1
  have z2 := hp_cell (P3.out) 2
  have z3 := hp_cell (P3.out) 3
  have z4 := hp_cell (P3.out) 4
  have z5 := hp_cell (P3.out) 5
  have z6 := hp_cell (P3.out) 6
  have z7 := hp_cell (P3.out) 7
  simp only [List.getElem?_toArray, List.getElem?_cons_zero, List.getElem?_cons_succ] at z0 z1 z2 z3 z4 z5 z6 z7
  go_wp2_with fail
  refine Calls.mono cF3.out ?_
  rintro e w4 ⟨hr, hb⟩
  clear z0 z1 z2 z3 z4 z5 z6 z7
  have B4 := Lib.hid (B3.out.trans hb)
  have P4 := Lib.hid (P3.out.bw hb)
  have S4 := Lib.hid (S3.out.bw hb)
  clear cF3 hb B3 P3 S3
  rcases hr with ⟨-, v, rfl, O4⟩ | ⟨h, _⟩
  case inr => cases h
  obtain ⟨s4, c4, rfl, hc4, hm4⟩ := O4.len
  unfold maxLen at hm4
  have T4 := Lib.hid O4.sb
  clear O4
  have cR := Lib.hid (frRead_any s3 nX c3 X a len cap key w4 S4.out (hKK.out.bw B4.out) (by omega) (by omega))
  unfold FrRdPost at cR
  rw [hrd.out] at cR
  dsimp only
  go_wp2_with fail
  refine Calls.mono cR.out ?_
  rintro e w5 ⟨c, rfl, V5, hb⟩
  obtain ⟨s5, c5, rfl, -, -, -⟩ := V5.open
  have B5 := Lib.hid (B4.out.trans hb)
  have P5 := Lib.hid (P4.out.bw hb)
  have S5 := Lib.hid (S4.out.bw hb)
  have T5 := Lib.hid (T4.out.bw hb)
  have V6 := Lib.hid V5
  clear cR hb B4 P4 S4 T4 V5
  have cT := Lib.hid (seat_any (.slice s3 nX c3) nX X)
  rw [hst.out] at cT
  have hV5 : frC dd.kind dd.seat dd.nonce dd.room dd.track dd.owner dd.layer (.slice s5 dd.srcs.length c5) = #[.int .i64 k, .int .i64 s, .int .u64 (nc : Nat), .int .i64 r, .int .i64 t, .int .i64 o, .int .i64 l, .slice s5 n c5] := by rw [← hdd.out, ← hLn.out]; rfl
  rw [hV5] at V6 ⊢
  clear hV5
  have BF : Hid (BW w5 (w5.alloc (.cells #[.int .i64 k, .int .i64 s, .int .u64 (nc : Nat), .int .i64 r, .int .i64 t, .int .i64 o, .int .i64 l, .slice s5 n c5] 35))) := (BW.refl _).alloc
  have F6 := Lib.hid (HpB.new w5 (.cells #[.int .i64 k, .int .i64 s, .int .u64 (nc : Nat), .int .i64 r, .int .i64 t, .int .i64 o, .int .i64 l, .slice s5 n c5] 35))
  go_upto_region 10 with (fail)
  generalize w5.alloc (.cells #[.int .i64 k, .int .i64 s, .int .u64 (nc : Nat), .int .i64 r, .int .i64 t, .int .i64 o, .int .i64 l, .slice s5 n c5] 35) = w6 at *
  generalize w5.heap.size = g6 at *
  have B6 := Lib.hid (B5.out.trans BF.out)
  have P6 := Lib.hid (P5.out.bw BF.out)
  have S6 := Lib.hid (S5.out.bw BF.out)
  have T6 := Lib.hid (T5.out.bw BF.out)
  have V7 := Lib.hid (V6.out.bw BF.out)
  clear B5 P5 S5 T5 V6 BF
  have cT6 := Lib.hid (cT.out w6 S6.out)
  have cS6 := cS _ w6 B6.out V7.out
  clear cT cS
  go_wp2_with fail
  refine Calls.mono cT6.out ?_
  rintro e w7 ⟨rfl, rfl⟩
  have k1 := conv_sb S6.out
  have k2 := conv_sb T6.out
  generalize bstr X = zs at *
  have z0 := hp_cell (P6.out) 0
  have z1 := hp_cell (P6.out) 1
  have z2 := hp_cell (P6.out) 2
  have z3 := hp_cell (P6.out) 3
  have z4 := hp_cell (P6.out) 4
  have z5 := hp_cell (P6.out) 5
  have z6 := hp_cell (P6.out) 6
  have z7 := hp_cell (P6.out) 7
  simp only [List.getElem?_toArray, List.getElem?_cons_zero, List.getElem?_cons_succ] at z0 z1 z2 z3 z4 z5 z6 z7
  have y0 := hp_cell (F6.out) 0
  have y1 := hp_cell (F6.out) 1
  have y2 := hp_cell (F6.out) 2
  have y3 := hp_cell (F6.out) 3
  have y4 := hp_cell (F6.out) 4
  have y5 := hp_cell (F6.out) 5
  have y6 := hp_cell (F6.out) 6
  have y7 := hp_cell (F6.out) 7
  simp only [List.getElem?_toArray, List.getElem?_cons_zero, List.getElem?_cons_succ] at y0 y1 y2 y3 y4 y5 y6 y7
  clear cT6 S6 T6
  dsimp only
  go_wp2_with fail
  refine Calls.mono cS6.out ?_
  rintro e w8 ⟨rfl, hb⟩
  have P8 := Lib.hid (P6.out.bw hb)
  have B8 := Lib.hid (B6.out.trans hb)
  clear z0 z1 z2 z3 z4 z5 z6 z7 y0 y1 y2 y3 y4 y5 y6 y7
  clear cS6 hb P6 F6 k1 k2
  have z0 := hp_cell (P8.out) 0
  have z1 := hp_cell (P8.out) 1
  have z2 := hp_cell (P8.out) 2
  have z3 := hp_cell (P8.out) 3
  have z4 := hp_cell (P8.out) 4
  have z5 := hp_cell (P8.out) 5
  have z6 := hp_cell (P8.out) 6
  have z7 := hp_cell (P8.out) 7
  simp only [List.getElem?_toArray, List.getElem?_cons_zero, List.getElem?_cons_succ] at z0 z1 z2 z3 z4 z5 z6 z7
  have q9 : (((b8 dd.seat : Nat) : Int) == s) = true := by
    rw [← hdd.out]
    show (((b8 s : Nat) : Int) == s) = true
    rw [hb8.out]; simp
  dsimp only
  go_wp2_with fail
  go_ret
  exact ⟨rfl, B8.out⟩
end Go.Proofs.Ytcempndfbckcaaa
