/- rtp's packet of all bytes. No condition. rtp.read's deferred closure. No condition. rtp.read: what all bytes are, with the way out behind a panic. No condition but the sizes'. rtp.Read, rtp.Head. No condition but the sizes'. The reference's Same: a packet is the same as itself. No condition. -/
import Derived.Test.YtikmhlbpefednaaGreatGRb
import Derived.Defers
import Derived.Recover
import Derived.Test.YtikmhlbpefednaaGreatGPr
namespace Go.Proofs.YtikmhlbpefednaaGreat
open Go.RowKit
set_option maxRecDepth 100000 in
set_option maxHeartbeats 8000000 in
theorem rpacket_ok (g : Nat) (l : List Nat) (v : Value) (len : Nat) (hlen : len ≤ 1000000000000) (w : World) (hr : Rdr w g v 0) (hv : SB w v len l) (hg : 12 ≤ len → ∀ k, v.ownBlock = some k → k ≠ g) :
  Calls Tryz.prog 101 #[.pointer (some ⟨g, 0, none⟩)] w (PkPost g (readN l) w) := by
 have hll := Lib.hid hv.1
 have hlb := Lib.hid hv.2.1
 generalize hR : readN l = R at *
 obtain ⟨sa, cap, rfl, hcap, hm⟩ := hv.len
 unfold maxLen at hm
 obtain ⟨c0, _, _⟩ := hr.cells
 replace hr := Lib.hid hr
 replace hv := Lib.hid hv
 replace hR := Lib.hid hR
 have lt := Rdr.bw hr.out (BW.refl w)
 have hgl := HpB.lt hr.out
 have B := Lib.hid (BW.refl w)
 go_enter Tryz.func101, Tryz.ntmps101
 go_wp2_with fail
 have Z0 : Hid (PkV (w.alloc (.cells #[.bool false, .int .u8 0, .int .u16 0, .int .u32 0, .int .u32 0, .slice none 0 0, .bool false, .int .u16 0, .slice none 0 0, .slice none 0 0, .int .u8 0] 37)) w.heap.size zC) := HpB.new w _
 by_cases h1 : 1200 < len
 ·have d : decide ((len : Int) ≤ 1200) = false := by simp; omega
  have e : R.1 = 3 := by rw [← hR.out]; unfold readN; rw [hll.out, if_pos h1]
  rw [d]
  refine Calls.mono (must_no 3 _) ?_
  rintro e w' ⟨rfl, rfl⟩
  exact ⟨rfl, PkPost.no _ e (by decide) rfl ((BW.refl _).alloc.still _)⟩
 have d : decide ((len : Int) ≤ 1200) = true := by simp; omega
 rw [d]
 refine Calls.mono (must_ok 3 _) ?_
 rintro e w' ⟨rfl, rfl⟩
 dsimp only
 go_wp2_with fail
 by_cases h2 : len < 12
 ·have d2 : decide ((12 : Int) ≤ len) = false := by simp; omega
  have e : R.1 = 2 := by rw [← hR.out]; unfold readN; rw [hll.out, if_neg h1, if_pos h2]
  rw [d2]
  refine Calls.mono (must_no 2 _) ?_
  rintro e w' ⟨rfl, rfl⟩
  exact ⟨rfl, PkPost.no _ e (by decide) rfl ((BW.refl _).alloc.still _)⟩
 have d2 : decide ((12 : Int) ≤ len) = true := by simp; omega
 replace hg := hg (by omega)
 rw [d2]
 refine Calls.mono (must_ok 2 _) ?_
 rintro e w' ⟨rfl, rfl⟩
 clear d d2
 dsimp only
 clear c0 lt
 replace hll := Lib.hid hll
 have R1 := Lib.hid (Rdr.bw hr.out (show BW w (w.alloc (.cells #[.bool false, .int .u8 0, .int .u16 0, .int .u32 0, .int .u32 0, .slice none 0 0, .bool false, .int .u16 0, .slice none 0 0, .slice none 0 0, .int .u8 0] 37)) from (BW.refl w).alloc))
 generalize hnm : w.alloc (.cells #[.bool false, .int .u8 0, .int .u16 0, .int .u32 0, .int .u32 0, .slice none 0 0, .bool false, .int .u16 0, .slice none 0 0, .slice none 0 0, .int .u8 0] 37) = w1 at *
 have hb : BW w w1 := (by subst hnm; exact (by repeat (first | exact BW.refl _ | apply BW.alloc | apply BW.drewN | apply BW.drew)))
 replace B := Lib.hid (B.out.trans hb)
 clear hb
 clear hnm
 have V1 := Lib.hid (hv.out.bw B.out)
 have b0 := nm_one l 0 (by have := hll.out.out; omega)
 have b1 := nm_one l 1 (by have := hll.out.out; omega)
 have hb0 := hlb.out.get 0
 have hb1 := hlb.out.get 1
 go_wp2_with fail
 refine Calls.mono (rnum_ok' g 0 1 l _ len (by decide) (by decide) (by omega) hlen w1 R1.out V1.out) ?_
 rintro e w2 ⟨rfl, R2, T2⟩
 rw [b0]
 have V2 := Lib.hid (V1.out.still T2 (fun k hk => by simpa using hg k hk))
 have hgZ : g ≠ w.heap.size := by omega
 have Z2 := Lib.hid (Z0.out.still T2 (by simpa using hgZ.symm))
 generalize hx0 : l.getD 0 0 = x0 at *
 have u0 : (x0 : Int) ≤ 255 := by omega
 replace R2 := Lib.hid R2
 replace T2 := Lib.hid T2
 replace b0 := Lib.hid b0
 replace hx0 := Lib.hid hx0
 dsimp only
 go_wp2_with fail
 refine Calls.mono (rnum_ok' g (0 + 1) 1 l _ len (by decide) (by decide) (by omega) hlen w2 R2.out V2.out) ?_
 rintro e w3 ⟨rfl, R3, T3⟩
 rw [show (0 : Nat) + 1 = 1 from rfl, b1]
 have V3 := Lib.hid (V2.out.still T3 (fun k hk => by simpa using hg k hk))
 have Z3 := Lib.hid (Z2.out.still T3 (by simpa using hgZ.symm))
 replace T3 := Lib.hid (T2.out.trans T3)
 generalize hx1 : l.getD 1 0 = x1 at *
 have u1 : (x1 : Int) ≤ 255 := by omega
 replace R3 := Lib.hid R3
 replace b1 := Lib.hid b1
 replace hx1 := Lib.hid hx1
 clear R2 T2 V2 Z2 R1 V1
 dsimp only
 go_wp2_with fail
 by_cases h3 : x0 / 64 ≠ 2
 ·have d : ((x0 : Int) / 64 == 2) = false := by simp; omega
  have e : R.1 = 3 := by rw [← hR.out]; unfold readN; rw [hll.out, if_neg h1, if_neg h2, hx0.out, if_pos h3]
  rw [d]
  refine Calls.mono (must_no 3 _) ?_
  rintro e w' ⟨rfl, rfl⟩
  exact ⟨rfl, PkPost.no _ e (by decide) rfl (T3.out.weaken (by simp) |> fun t => (B.out.still [g]).trans t)⟩
 have d : ((x0 : Int) / 64 == 2) = true := by simp; omega
 rw [d]
 refine Calls.mono (must_ok 3 _) ?_
 rintro e w' ⟨rfl, rfl⟩
 clear d
 obtain ⟨q1, q2, -, -, -⟩ := rbits x1 (by omega)
 generalize hmk : (x1 / 128 == 1) = mk at *
 generalize hty : x1 % 128 = ty at *
 replace hmk := Lib.hid hmk
 replace hty := Lib.hid hty
 have B4 : BW w3 (w3.alloc (.cells #[.bool mk, .int .u8 (ty : Nat), .int .u16 0, .int .u32 0, .int .u32 0, .slice none 0 0, .bool false, .int .u16 0, .slice none 0 0, .slice none 0 0, .int .u8 0] 37)) := (BW.refl w3).alloc
 have P4 : Hid (PkV (w3.alloc (.cells #[.bool mk, .int .u8 (ty : Nat), .int .u16 0, .int .u32 0, .int .u32 0, .slice none 0 0, .bool false, .int .u16 0, .slice none 0 0, .slice none 0 0, .int .u8 0] 37)) w3.heap.size (rtpC mk ty 0 0 0 (.slice none 0 0) false 0 (.slice none 0 0) (.slice none 0 0) 0)) := HpB.new w3 _
 have R4 := Lib.hid (R3.out.bw B4)
 have V4 := Lib.hid (V3.out.bw B4)
 have T4 : Hid (Still [g] w1 (w3.alloc (.cells #[.bool mk, .int .u8 (ty : Nat), .int .u16 0, .int .u32 0, .int .u32 0, .slice none 0 0, .bool false, .int .u16 0, .slice none 0 0, .slice none 0 0, .int .u8 0] 37))) := T3.out.trans (B4.still [g])
 have hpw : w1.heap.size ≤ w3.heap.size := T3.out.size
 have tb : ∀ {x : World}, Still [g] w1 x → Still [g] w x := fun h => (B.out.still [g]).trans h
 have hw1 : w.heap.size < w1.heap.size := HpB.lt Z0.out
 have hvp : ∀ k, (Value.slice sa len cap).ownBlock = some k → k ≠ w3.heap.size := fun k hk => Nat.ne_of_lt (V3.out.own_lt (by omega) k hk)
 dsimp only
 go_upto_region 6 with (fail)
 generalize w3.alloc (.cells #[.bool mk, .int .u8 (ty : Nat), .int .u16 0, .int .u32 0, .int .u32 0, .slice none 0 0, .bool false, .int .u16 0, .slice none 0 0, .slice none 0 0, .int .u8 0] 37) = w4 at *
 generalize w3.heap.size = p at *
 have hgp : g ≠ p := by omega
 clear R3 V3 Z3 T3 B4 q1 q2
 have b2 := nm_lt l hlb.out 2 2
 have b4 := nm_lt l hlb.out 4 4
 have b8 := nm_lt l hlb.out 8 4
 have c2 := fun wz hr hv => Lib.hid (rnum_ok' g 2 2 l (.slice sa len cap) len (by decide) (by decide) (by omega) hlen wz hr hv)
 have c4 := fun wz hr hv => Lib.hid (rnum_ok' g (2 + 2) 4 l (.slice sa len cap) len (by decide) (by decide) (by omega) hlen wz hr hv)
 have c8 := fun wz hr hv => Lib.hid (rnum_ok' g (2 + 2 + 4) 4 l (.slice sa len cap) len (by decide) (by decide) (by omega) hlen wz hr hv)
 rw [show 2 + 2 = 4 from rfl] at c4
 rw [show 2 + 2 + 4 = 8 from rfl] at c8
 generalize hsq : nm l 2 2 = sq at *
 generalize hst : nm l 4 4 = st at *
 generalize hso : nm l 8 4 = so at *
 have u2 : (sq : Int) ≤ 65535 := by omega
 have u4 : (st : Int) ≤ 4294967295 := by omega
 have u8 : (so : Int) ≤ 4294967295 := by omega
 replace hsq := Lib.hid hsq
 replace hst := Lib.hid hst
 replace hso := Lib.hid hso
 go_wp2_with fail
 refine Calls.mono (c2 w4 R4.out V4.out).out ?_
 rintro e w5 ⟨rfl, R5, T5⟩
 have V5 := Lib.hid (V4.out.still T5 (fun k hk => by simpa using hg k hk))
 have P5 := Lib.hid (P4.out.still T5 (by simpa using hgp.symm))
 replace T5 := Lib.hid (T4.out.trans T5)
 replace R5 := Lib.hid R5
 clear c2 R4 V4 P4 T4
 dsimp only
 go_wp2_with fail
 refine Calls.mono (c4 w5 R5.out V5.out).out ?_
 rintro e w6 ⟨rfl, R6, T6⟩
 have V6 := Lib.hid (V5.out.still T6 (fun k hk => by simpa using hg k hk))
 have P6 := Lib.hid (P5.out.still T6 (by simpa using hgp.symm))
 replace T6 := Lib.hid (T5.out.trans T6)
 replace R6 := Lib.hid R6
 clear c4 R5 V5 P5 T5
 dsimp only
 go_wp2_with fail
 refine Calls.mono (c8 w6 R6.out V6.out).out ?_
 rintro e w7 ⟨rfl, R7, T7⟩
 have V7 := Lib.hid (V6.out.still T7 (fun k hk => by simpa using hg k hk))
 have P7 := P6.out.still T7 (by simpa using hgp.symm)
 replace T7 := Lib.hid (T6.out.trans T7)
 replace R7 := Lib.hid R7
 clear c8 R6 V6 P6 T6
 have f2 := P7.frz 2
 have f3 := P7.frz 3
 have f4 := P7.frz 4
 have e2 : w7.cell? ⟨p, 2, none⟩ = some (.int .u16 0) := P7.cell 2
 have e3 : w7.cell? ⟨p, 3, none⟩ = some (.int .u32 0) := P7.cell 3
 have e4 : w7.cell? ⟨p, 4, none⟩ = some (.int .u32 0) := P7.cell 4
 have P8 : Hid (PkV (((w7.setCell ⟨p, 2, none⟩ (.int .u16 (sq : Nat))).setCell ⟨p, 3, none⟩ (.int .u32 (st : Nat))).setCell ⟨p, 4, none⟩ (.int .u32 (so : Nat))) p (rtpC mk ty sq st so (.slice none 0 0) false 0 (.slice none 0 0) (.slice none 0 0) 0)) := ((P7.set 2 (.int .u16 (sq : Nat))).set 3 (.int .u32 (st : Nat))).set 4 (.int .u32 (so : Nat))
 have T8a : Still [p] w7 (((w7.setCell ⟨p, 2, none⟩ (.int .u16 (sq : Nat))).setCell ⟨p, 3, none⟩ (.int .u32 (st : Nat))).setCell ⟨p, 4, none⟩ (.int .u32 (so : Nat))) := ((still_setCR w7 p 2 _).trans (still_setCR _ p 3 _)).trans (still_setCR _ p 4 _)
 have T8 := Lib.hid (T7.out.own2 T8a (by simpa using Or.inr hpw))
 have R8 := Lib.hid (R7.out.still T8a (by simpa using hgp))
 have V8 := Lib.hid (V7.out.still T8a (fun k hk => by simpa using hvp k hk))
 replace P7 := Lib.hid P7
 replace T8a := Lib.hid T8a
 dsimp only
 go_upto_region 7 with (fail)
 generalize ((w7.setCell ⟨p, 2, none⟩ (.int .u16 (sq : Nat))).setCell ⟨p, 3, none⟩ (.int .u32 (st : Nat))).setCell ⟨p, 4, none⟩ (.int .u32 (so : Nat)) = w8 at *
 clear R7 V7 P7 T7 T8a f2 f3 f4 e2 e3 e4
 obtain ⟨-, -, q1, q2, q3⟩ := rbits x0 (by omega)
 have hk16 : x0 % 16 < 16 := Nat.mod_lt _ (by decide)
 generalize hk : x0 % 16 = k at *
 generalize hxb : (x0 / 16 % 2 == 1) = xb at *
 generalize hpb : (x0 / 32 % 2 == 1) = pb at *
 replace hk := Lib.hid hk
 replace hxb := Lib.hid hxb
 replace hpb := Lib.hid hpb
 have hg8 := HpB.lt R8.out
 have hp8 := HpB.lt P8.out
 have hv8 := V8.out.own_lt (by omega)
 have hR8 : R = readN l := hR.out.symm
 have hwz8 := T8.out.size
 rw [show readN l = if l.length < 12 + 4 * k then (2, 0, rZero) else readN l from by
  split
  ·unfold readN; rw [hll.out, if_neg h1, if_neg h2, hx0.out, if_neg h3, hk.out, if_pos (by rw [← hll.out]; assumption)]
  ·rfl] at hR8
 replace hR8 := Lib.hid hR8
 go_upto_region 8 with (fail)
 go_loopg [53] k (fun m' i wx => ∃ (j : Nat) (so_ : Option Addr) (co : Nat), m' = k - j ∧ j ≤ k ∧ i = .int .u8 (j : Nat) ∧ co ≤ 9223372036854775807 ∧ Hid (PkV wx p (rtpC mk ty sq st so (.slice so_ j co) false 0 (.slice none 0 0) (.slice none 0 0) 0)) ∧ Hid (NO wx w8.heap.size 33 .u32 (.slice so_ j co) j (nz (rOthers l j))) ∧ Hid (Rdr wx g (.slice sa len cap) (12 + 4 * j)) ∧ Hid (SB wx (.slice sa len cap) len l) ∧ Hid (Still [g] w1 wx) ∧ Hid (w8.heap.size ≤ wx.heap.size) ∧ 12 + 4 * j ≤ len)
 case atStart => exact ⟨0, none, 0, by omega, by omega, rfl, by omega, P8, NO.nil _ _ _ _, R8, V8, T8, Nat.le_refl _, by omega⟩
 case round =>
  clear P8 R8 V8 T8
  obtain ⟨j, so_, co, rfl, hj, rfl, hco, P, O, R9, V, T, S8, hjl⟩ := hrel
  by_cases hjk : j < k
  ·go_upto_region 9 with (fail)
   by_cases hjn : len < 12 + 4 * j + 4
   ·have e : R.1 = 2 := by rw [hR8.out, if_pos (by have := hll.out.out; omega)]
    have e5 : ∀ x : LaterS [] wr, x.now.cell? ⟨p, 5, none⟩ = some (.slice so_ j co) := fun x => x.cell (P.out.cell 5) (by simp)
    have cn : ∀ wz, BW wr wz → Hid (Calls Tryz.prog 124 #[.pointer (some ⟨g, 0, none⟩), .int .i64 4] wz fun e w' => e = gaveUp 2 ∧ Still [g] w1 w') := fun wz hb => (rnum_no' g (12 + 4 * j) 4 l (.slice sa len cap) len (by decide) (by decide) hjl hjn hlen wz (R9.out.bw hb) (V.out.bw hb)).mono fun _ _ h => ⟨h.1, (T.out.trans (hb.still [g])).trans h.2⟩
    clear R9 V T O P
    refine anyL_region (by kernel_rfl) ?_
    refine AnyL.step2 0 2 (by kernel_rfl) ?_ ?_
    ·refine OpL.quiet (a1 := ?_) 0 rfl rfl rfl rfl (fun x K hK => ?_) ?_
     rotate_left
     ·go_big_quiet_op
      exact hK
     refine AnyL.step2 1 2 (by kernel_rfl) ?_ ?_
     ·refine OpL.quiet (a1 := ?_) 1 rfl rfl rfl rfl (fun x K hK => ?_) ?_
      rotate_left
      ·go_big_quiet_op
       exact hK
      refine AnyL.step1 2 (by kernel_rfl) ?_
      ·refine OpL.quiet (a1 := ?_) 2 rfl rfl rfl rfl (fun x K hK => ?_) ?_
       rotate_left
       ·go_big_quiet_op
        exact hK
       refine AnyL.step1 3 (by kernel_rfl) ?_
       ·refine OpL.wp 3 rfl rfl (fun x K => ?_)
        go_simp
        refine Calls.mono (cn x.now x.bw).out ?_
        rintro e' w' ⟨rfl, T2⟩
        exact ⟨rfl, PkPost.no 2 e (by decide) rfl (tb T2)⟩
     ·refine OpL.quiet (a1 := ?_) 2 rfl rfl rfl rfl (fun x K hK => ?_) ?_
      rotate_left
      ·go_big_quiet_op
       exact hK
      refine AnyL.step2 1 3 (by kernel_rfl) ?_ ?_
      ·refine OpL.quiet (a1 := ?_) 1 rfl rfl rfl rfl (fun x K hK => ?_) ?_
       rotate_left
       ·go_big_quiet_op
        exact hK
       refine AnyL.step1 3 (by kernel_rfl) ?_
       ·refine OpL.wp 3 rfl rfl (fun x K => ?_)
        go_simp
        refine Calls.mono (cn x.now x.bw).out ?_
        rintro e' w' ⟨rfl, T2⟩
        exact ⟨rfl, PkPost.no 2 e (by decide) rfl (tb T2)⟩
      ·refine OpL.wp 3 rfl rfl (fun x K => ?_)
       go_simp
       refine Calls.mono (cn x.now x.bw).out ?_
       rintro e' w' ⟨rfl, T2⟩
       exact ⟨rfl, PkPost.no 2 e (by decide) rfl (tb T2)⟩
    ·refine OpL.quiet (a1 := ?_) 2 rfl rfl rfl rfl (fun x K hK => ?_) ?_
     rotate_left
     ·go_big_quiet_op
      exact hK
     refine AnyL.step2 0 3 (by kernel_rfl) ?_ ?_
     ·refine OpL.quiet (a1 := ?_) 0 rfl rfl rfl rfl (fun x K hK => ?_) ?_
      rotate_left
      ·go_big_quiet_op
       exact hK
      refine AnyL.step2 1 3 (by kernel_rfl) ?_ ?_
      ·refine OpL.quiet (a1 := ?_) 1 rfl rfl rfl rfl (fun x K hK => ?_) ?_
       rotate_left
       ·go_big_quiet_op
        exact hK
       refine AnyL.step1 3 (by kernel_rfl) ?_
       ·refine OpL.wp 3 rfl rfl (fun x K => ?_)
        go_simp
        refine Calls.mono (cn x.now x.bw).out ?_
        rintro e' w' ⟨rfl, T2⟩
        exact ⟨rfl, PkPost.no 2 e (by decide) rfl (tb T2)⟩
      ·refine OpL.wp 3 rfl rfl (fun x K => ?_)
       go_simp
       refine Calls.mono (cn x.now x.bw).out ?_
       rintro e' w' ⟨rfl, T2⟩
       exact ⟨rfl, PkPost.no 2 e (by decide) rfl (tb T2)⟩
     ·refine OpL.wp 3 rfl rfl (fun x K => ?_)
      go_simp
      refine Calls.mono (cn x.now x.bw).out ?_
      rintro e' w' ⟨rfl, T2⟩
      exact ⟨rfl, PkPost.no 2 e (by decide) rfl (tb T2)⟩
   have e5 : ∀ x : LaterS (g :: (Value.slice so_ j co).ownBlock.toList) wr, x.now.cell? ⟨p, 5, none⟩ = some (.slice so_ j co) := fun x => x.cell (P.out.cell 5) (by
    intro hm
    rcases List.mem_cons.1 hm with hm | hm
    ·exact hgp hm.symm
    ·have := O.out.ge' p (by simpa using hm)
     omega)
   have b4 := nm_lt l hlb.out (12 + 4 * j) 4
   have hsn := rOthers_snoc l j
   have cn := fun wz hr hv => Lib.hid (rnum_ok' g (12 + 4 * j) 4 l (.slice sa len cap) len (by decide) (by decide) (by omega) hlen wz hr hv)
   generalize nm l (12 + 4 * j) 4 = X at *
   have uX : (X : Int) ≤ 4294967295 := by omega
   replace hsn := Lib.hid hsn
   refine wp_region_gg (g :: (Value.slice so_ j co).ownBlock.toList) [3] [6] (by kernel_rfl) ?_
   refine hoist (g :: (Value.slice so_ j co).ownBlock.toList) [] (a1 := ?_) 0 rfl (by kernel_rfl) (.inr rfl) rfl rfl rfl (fun x K hK => ?_) ?_
   rotate_left
   ·go_big_quiet_op
    exact hK
   refine hoist (g :: (Value.slice so_ j co).ownBlock.toList) [] (a1 := ?_) 1 rfl (by kernel_rfl) (.inr rfl) rfl rfl rfl (fun x K hK => ?_) ?_
   rotate_left
   ·go_big_quiet_op
    exact hK
   refine hoist [] [3] (a1 := ?_) 2 rfl (by kernel_rfl) (.inl ⟨rfl, rfl⟩) rfl rfl rfl (fun x K hK => ?_) ?_
   rotate_left
   ·go_big_quiet_op
    exact hK
   refine effect 3 rfl (by kernel_rfl) (by kernel_rfl) rfl (fun x3 K hK => ?_)
   go_simp
   refine Calls.mono (cn x3.now (R9.out.bw x3.bw) (V.out.bw x3.bw)).out ?_
   rintro e w2 ⟨rfl, R2, T2⟩
   refine hK _ _ (T2.weaken (by simp)) ?_
   clear hK K
   have V2 := (V.out.bw x3.bw).still T2 (fun k hk => by simpa using hg k hk)
   have P2 := (P.out.bw x3.bw).still T2 (by simpa using hgp.symm)
   have O2 := (O.out.bw x3.bw).still T2 (fun b hb => by have := O.out.ge' b hb; simp; omega)
   have S2 := Nat.le_trans S8.out (Nat.le_trans x3.bw.size T2.size)
   replace T2 := (T.out.trans (x3.bw.still [g])).trans T2
   replace R2 := Lib.hid R2
   replace V2 := Lib.hid V2
   replace P2 := Lib.hid P2
   replace O2 := Lib.hid O2
   replace T2 := Lib.hid T2
   clear cn R9 V P O T S8 e5
   try simp only [Act.put, List.setIfInBounds_toArray, List.set_cons_succ, List.set_cons_zero]
   refine hoist [] [3] (a1 := ?_) 4 rfl (by kernel_rfl) (.inl ⟨rfl, rfl⟩) rfl rfl rfl (fun x K hK => ?_) ?_
   rotate_left
   ·go_big_quiet_op
    exact hK
   refine effect 5 rfl (by kernel_rfl) (by kernel_rfl) rfl (fun x5 K hK => ?_)
   go_simp
   refine hK _ _ (Still.of_below ((Below.refl _ _).alloc (Nat.le_refl _) _)) ?_
   clear hK K
   refine tail 6 rfl (by kernel_rfl) rfl (fun xr => ?_)
   simp only [List.drop_succ_cons, List.drop_zero]
   have BA : BW w2 xr.now := (x5.bw.trans (BW.refl _).alloc).trans xr.bw
   have N := Lib.hid ((NB.new1 x5.now 33 .u32 (X : Int)).bw xr.bw)
   have R3 := Lib.hid (R2.out.bw BA)
   have V3 := Lib.hid (V2.out.bw BA)
   have P3 := Lib.hid (P2.out.bw BA)
   have O3 := Lib.hid (O2.out.bw BA)
   have T3 := Lib.hid (T2.out.trans (BA.still [g]))
   have S3 := Nat.le_trans S2 BA.size
   clear BA
   generalize xr.now = w3 at *
   generalize x5.now.heap.size = nb at *
   clear R2 V2 P2 O2 T2 S2
   have hnot : ∀ b, b < w8.heap.size → b ∉ (Value.slice so_ j co).ownBlock.toList := fun b hb hm => by
    have := O3.out.ge' b (by simpa using hm)
    omega
   go_wp2_with (at_builtin; go_must (refine wpList_apN slU32' rfl _ _ rfl w8.heap.size .u32 (.slice so_ j co) j _ rfl O3.out _ rfl 1 [(X : Int)] N.out (by omega) S3 ?_; intro s4 c4 w4 hc4 hm4 O4 T4 B4 G4; have R4 := Lib.hid (R3.out.still T4 (hnot g hg8)); have V4 := Lib.hid (V3.out.still T4 (fun k hk => hnot k (hv8 k hk))); have P4 := P3.out.still T4 (hnot p hp8); have f5 := P4.frz 5; have e5 : w4.cell? ⟨p, 5, none⟩ = some (.slice so_ j co) := P4.cell 5; have T5 := Lib.hid (T3.out.own2 T4 (fun k hk => .inr (by have := O3.out.ge' k (by simpa using hk); have := hwz8; omega))); have S4 := Nat.le_trans S3 B4.size; clear B4 G4 T4 R3 V3 P3 O3 T3 S3 hnot N; unfold maxLen at hm4; replace P4 := Lib.hid P4; replace O4 := Lib.hid O4))
   have P5 : Hid (PkV (w4.setCell ⟨p, 5, none⟩ (.slice s4 (j + 1) c4)) p (rtpC mk ty sq st so (.slice s4 (j + 1) c4) false 0 (.slice none 0 0) (.slice none 0 0) 0)) := P4.out.set 5 (.slice s4 (j + 1) c4)
   have TS : Still [p] w4 (w4.setCell ⟨p, 5, none⟩ (.slice s4 (j + 1) c4)) := still_setCR w4 p 5 _
   have R5 := R4.out.still TS (by simpa using hgp)
   have V5 := Lib.hid (V4.out.still TS (fun k hk => by simpa using hvp k hk))
   have O5 := Lib.hid (O4.out.still TS (fun k hk => by have := O4.out.ge' k hk; simp; omega))
   have T6 := Lib.hid (T5.out.own2 TS (by simpa using Or.inr hpw))
   have S6 := Lib.hid (Nat.le_trans S4 TS.size)
   clear P4 TS R4 V4 O4 T5 S4 e5 f5
   rw [show nz (rOthers l j) ++ [(X : Int)] = nz (rOthers l (j + 1)) by rw [← hsn.out]; simp [nz]] at O5
   generalize w4.setCell ⟨p, 5, none⟩ (.slice s4 (j + 1) c4) = w5 at *
   rw [show 12 + 4 * j + 4 = 12 + 4 * (j + 1) by omega] at R5
   replace R5 := Lib.hid R5
   go_roundg (k - (j + 1))
   case measure => omega
   case rel => exact ⟨j + 1, s4, c4, rfl, by omega, by push_cast; rfl, by omega, P5, O5, R5, V5, T6, S6, by omega⟩
  ·obtain rfl : j = k := by omega
   clear hjk
   obtain ⟨wk, rfl⟩ : ∃ x, x = wr := ⟨_, rfl⟩
   have hR9 := Lib.hid (hR.out.symm.trans (readN_at l (by rw [hll.out]; exact h1) (by rw [hll.out]; exact h2) hx0.out h3 hk.out hxb.out hpb.out (by rw [hll.out]; omega)))
   go_upto_if 66 with (fail)
   go_cut [] (fun wc => ∃ (ae pf : Nat) (ex : List Nat) (se : Option Addr) (ne ce : Nat), Hid (rExt l xb (12 + 4 * j) = (0, ae, pf, ex)) ∧ ae ≤ len ∧ Hid (PkV wc p (rtpC mk ty sq st so (.slice so_ j co) xb pf (.slice se ne ce) (.slice none 0 0) 0)) ∧ Hid (OB wc w8.heap.size 5 (.slice se ne ce) ex.length ex) ∧ Hid (NO wc w8.heap.size 33 .u32 (.slice so_ j co) j (nz (rOthers l j))) ∧ Hid (Rdr wc g (.slice sa len cap) ae) ∧ Hid (SB wc (.slice sa len cap) len l) ∧ Hid (Still [g] w1 wc) ∧ Hid (w8.heap.size ≤ wc.heap.size))
   case first =>
    cases xb
    ·go_wp2_with fail
     go_meet
     exact ⟨12 + 4 * j, 0, [], none, 0, 0, (by simp [rExt] : rExt l false (12 + 4 * j) = (0, 12 + 4 * j, 0, [])), hjl, P.out, OB.nil _ _ _, O, R9, V, T, S8⟩
    ·by_cases hok : 12 + 4 * j + 4 + 4 * nm l (12 + 4 * j + 2) 2 ≤ len ∧ nm l (12 + 4 * j + 2) 2 ≤ 255
     ·have eo := Lib.hid (rExt_ok l (12 + 4 * j) len hll.out hok)
      have cn := Lib.hid (rext_ok g p (12 + 4 * j) (nm l (12 + 4 * j + 2) 2) l (.slice sa len cap) len mk ty sq st so (.slice so_ j co) false 0 (.slice none 0 0) (.slice none 0 0) 0 rfl hok.2 hok.1 hlen hlb.out wk R9.out P.out V.out (fun k hk => ⟨hg k hk, hvp k hk⟩))
      have hs := SB.len V.out
      go_wp2_with fail
      refine Calls.mono cn.out ?_
      rintro e w2 ⟨rfl, v2, P2, O2, R2, T2⟩
      obtain ⟨s2, c2, rfl, _, _⟩ := O2.len
      dsimp only
      go_wp2_with fail
      go_meet
      refine ⟨_, _, _, s2, _, c2, eo.out, hok.1, P2, ?_, O.out.still T2 (fun k hk => ?_), R2, V.out.still T2 (fun k hk => by simpa using ⟨hg k hk, hvp k hk⟩), T.out.own2 T2 (by simpa using Or.inr hpw), Nat.le_trans S8.out T2.size⟩
      ·have e1 := O2.1
       rw [e1]
       exact O2.up S8.out
      ·have := O.out.ge' k hk
       simp; omega
     ·obtain ⟨er, h5, h6, h7⟩ := rExt_no l (12 + 4 * j) len hll.out hok
      have e : R.1 = er := by rw [hR9.out, h6]; simp [h7]
      have cn := Lib.hid (rext_no g p (12 + 4 * j) er l (.slice sa len cap) len mk ty sq st so (.slice so_ j co) false 0 (.slice none 0 0) (.slice none 0 0) 0 h5 hjl hlen hlb.out wk R9.out P.out V.out (fun k hk => ⟨hg k hk, hvp k hk⟩))
      go_wp2_with fail
      refine Calls.mono cn.out ?_
      rintro e w2 ⟨rfl, T2⟩
      exact ⟨rfl, PkPost.no er e h7 rfl (tb (T.out.own2 T2 (by simpa using Or.inr hpw)))⟩
   clear P O R9 V T S8
   obtain ⟨ae, pf, ex, se, ne, ce, eo, hae, P, O2, O, R9, V, T, S8⟩ := hcut
   have hR10 : Hid (R = match rPad pb (l.drop ae) with
    | none => (3, 0, rZero)
    | some p => (0, ae, ⟨l.getD 1 0 / 128 == 1, l.getD 1 0 % 128, nm l 2 2, nm l 4 4, nm l 8 4, rOthers l j, xb, pf, ex, (l.drop ae).take (l.length - ae - p), p⟩)) := hR9.out.trans (by rw [eo.out]; rfl)
   clear hR9 eo
   obtain ⟨c0, c1', _⟩ := R9.out.cells
   have q5 : IntKind.i64.wrap ((len : Int) - (ae : Int)) = ((len - ae : Nat) : Int) := by rw [IntWalk.i64_in _ (by omega)]; omega
   go_upto_region 14 with (fail)
   have l0 : ∀ x : LaterS [] wc, x.now.cell? ⟨g, 0, none⟩ = some (.slice sa len cap) := fun x => x.cell c0 (by simp)
   have l1 : ∀ x : LaterS [] wc, x.now.cell? ⟨g, 1, none⟩ = some (.int .i64 (ae : Nat)) := fun x => x.cell c1' (by simp)
   refine wp_region_gg [] [] [11] (by kernel_rfl) ?_
   refine hoist [] [] (a1 := ?_) 0 rfl (by kernel_rfl) (.inl ⟨rfl, rfl⟩) rfl rfl rfl (fun x K hK => ?_) ?_
   rotate_left
   ·go_big_quiet_op
    exact hK
   refine hoist [] [] (a1 := ?_) 1 rfl (by kernel_rfl) (.inl ⟨rfl, rfl⟩) rfl rfl rfl (fun x K hK => ?_) ?_
   rotate_left
   ·go_big_quiet_op
    exact hK
   refine hoist [] [] (a1 := ?_) 2 rfl (by kernel_rfl) (.inl ⟨rfl, rfl⟩) rfl rfl rfl (fun x K hK => ?_) ?_
   rotate_left
   ·go_big_quiet_op
    exact hK
   refine hoist [] [] (a1 := ?_) 3 rfl (by kernel_rfl) (.inl ⟨rfl, rfl⟩) rfl rfl rfl (fun x K hK => ?_) ?_
   rotate_left
   ·go_big_quiet_op
    exact hK
   refine hoist [] [] (a1 := ?_) 4 rfl (by kernel_rfl) (.inl ⟨rfl, rfl⟩) rfl rfl rfl (fun x K hK => ?_) ?_
   rotate_left
   ·go_big_quiet_op
    exact hK
   refine hoist [] [] (a1 := ?_) 5 rfl (by kernel_rfl) (.inl ⟨rfl, rfl⟩) rfl rfl rfl (fun x K hK => ?_) ?_
   rotate_left
   ·go_big_quiet_op
    exact hK
   refine hoist [] [] (a1 := ?_) 6 rfl (by kernel_rfl) (.inl ⟨rfl, rfl⟩) rfl rfl rfl (fun x K hK => ?_) ?_
   rotate_left
   ·go_big_quiet_op
    exact hK
   refine hoist [] [] (a1 := ?_) 7 rfl (by kernel_rfl) (.inl ⟨rfl, rfl⟩) rfl rfl rfl (fun x K hK => ?_) ?_
   rotate_left
   ·go_big_quiet_op
    exact hK
   refine hoist [] [] (a1 := ?_) 8 rfl (by kernel_rfl) (.inl ⟨rfl, rfl⟩) rfl rfl rfl (fun x K hK => ?_) ?_
   rotate_left
   ·go_big_quiet_op
    exact hK
   refine hoist [] [] (a1 := ?_) 9 rfl (by kernel_rfl) (.inl ⟨rfl, rfl⟩) rfl rfl rfl (fun x K hK => ?_) ?_
   rotate_left
   ·go_big_quiet_op
    exact hK
   refine hoist [] [] (a1 := ?_) 10 rfl (by kernel_rfl) (.inl ⟨rfl, rfl⟩) rfl rfl rfl (fun x K hK => ?_) ?_
   rotate_left
   ·go_big_quiet_op
    exact hK
   refine tail 11 rfl (by kernel_rfl) rfl (fun xr => ?_)
   simp only [List.drop_succ_cons, List.drop_zero]
   clear c0 c1' l0 l1
   have cn := Lib.hid (rtake_ok g ae (len - ae) l (.slice sa len cap) len (by omega) hlen xr.now (R9.out.bw xr.bw) (V.out.bw xr.bw) hg)
   go_wp2_with fail
   refine Calls.mono cn.out ?_
   rintro e w3 ⟨v3, rfl, O3, R3, T3⟩
   obtain ⟨s3, c3, rfl, hc3, hm3⟩ := O3.len
   dsimp only
   rw [List.take_of_length_le (by rw [List.length_drop, hll.out]; omega)] at O3
   have P3 := (P.out.bw xr.bw).still T3 (by simpa using hgp.symm)
   have f9 := P3.frz 9
   have e9 : w3.cell? ⟨p, 9, none⟩ = some (.slice none 0 0) := P3.cell 9
   have hge := O.out.ge'
   have TS : Still [p] w3 (w3.setCell ⟨p, 9, none⟩ (.slice s3 (len - ae) c3)) := still_setCR w3 p 9 _
   have P4 : Hid (PkV (w3.setCell ⟨p, 9, none⟩ (.slice s3 (len - ae) c3)) p (rtpC mk ty sq st so (.slice so_ j co) xb pf (.slice se ne ce) (.slice s3 (len - ae) c3) 0)) := P3.set 9 (.slice s3 (len - ae) c3)
   replace P3 := Lib.hid P3
   have hwx := Nat.le_trans S8.out xr.bw.size
   have D4 := Lib.hid ((O3.still TS (fun k hk => by have := O3.ge' k hk; simp; omega)).up hwx)
   have E4 := Lib.hid (((O2.out.bw xr.bw).still T3 (fun k hk => by have := O2.out.ge' k hk; simp; omega)).still TS (fun k hk => by have := O2.out.ge' k hk; simp; omega))
   have N4 := Lib.hid (((O.out.bw xr.bw).still T3 (fun k hk => by have := hge k hk; simp; omega)).still TS (fun k hk => by have := hge k hk; simp; omega))
   have T4 := Lib.hid (((T.out.trans (xr.bw.still [g])).trans T3).own2 TS (by simpa using Or.inr hpw))
   have Dl := Lib.hid O3.1
   clear O3 TS R3 T3 P O2 O R9 V T cn hge
   go_upto_region 15 with (fail)
   generalize w3.setCell ⟨p, 9, none⟩ (.slice s3 (len - ae) c3) = w4 at *
   clear P3 f9 e9
   have hnl : len - ae ≤ 1000000000000 := by omega
   generalize hn : len - ae = n at *
   replace hn := Lib.hid hn
   go_upto_if 88 with (fail)
   go_cut [] (fun wd => ∃ (pd n' c4 : Nat), Hid (R = (0, ae, ⟨l.getD 1 0 / 128 == 1, l.getD 1 0 % 128, nm l 2 2, nm l 4 4, nm l 8 4, rOthers l j, xb, pf, ex, (l.drop ae).take (l.length - ae - pd), pd⟩)) ∧ pd < 256 ∧ n' = n - pd ∧ Hid (PkV wd p (rtpC mk ty sq st so (.slice so_ j co) xb pf (.slice se ne ce) (.slice s3 n' c4) pd)) ∧ Hid (OB wd w8.heap.size 5 (.slice s3 n' c4) n' ((l.drop ae).take n')) ∧ Hid (OB wd w8.heap.size 5 (.slice se ne ce) ex.length ex) ∧ Hid (NO wd w8.heap.size 33 .u32 (.slice so_ j co) j (nz (rOthers l j))) ∧ Hid (Still [g] w1 wd))
   case first =>
    cases pb
    ·have hRf : Hid (R = (0, ae, ⟨l.getD 1 0 / 128 == 1, l.getD 1 0 % 128, nm l 2 2, nm l 4 4, nm l 8 4, rOthers l j, xb, pf, ex, (l.drop ae).take (l.length - ae - 0), 0⟩)) := hR10.out
     clear hR10
     go_wp2_with fail
     go_meet
     exact ⟨0, n, c3, hRf, by decide, rfl, P4, by rw [List.take_of_length_le (by rw [Dl.out]; exact Nat.le_refl _)]; exact D4, E4, N4, T4⟩
    ·have e9 : w4.cell? ⟨p, 9, none⟩ = some (.slice s3 n c3) := P4.out.cell 9
     have e10 : w4.cell? ⟨p, 10, none⟩ = some (.int .u8 0) := P4.out.cell 10
     have f9 := P4.out.frz 9
     have f10 := P4.out.frz 10
     by_cases h0 : n = 0
     ·have e : R.1 = 3 := by rw [hR10.out]; simp [rPad, Dl.out, h0]
      clear hR10
      subst h0
      go_wp2_with fail
      refine Calls.mono (must_no 3 _) ?_
      rintro e' w' ⟨rfl, rfl⟩
      exact ⟨rfl, PkPost.no 3 e (by decide) rfl (tb T4.out)⟩
     obtain ⟨m, rfl⟩ : ∃ m, n = m + 1 := ⟨n - 1, by omega⟩
     have hbl : (l.drop ae).getD m 0 < 256 := (hlb.out.drop ae).get _
     obtain ⟨b, o, cp, hv3, hgb, hlb2, hcc, hmm, hcell, hfrz⟩ := D4.out.form (by omega)
     simp only [Value.slice.injEq] at hv3
     obtain ⟨rfl, -, rfl⟩ := hv3
     have ec := hcell m (by omega)
     clear hcell hfrz
     have hrp : rPad true (l.drop ae) = if (l.drop ae).getD m 0 = 0 ∨ m + 1 < (l.drop ae).getD m 0 then none else some ((l.drop ae).getD m 0) := by
      unfold rPad
      rw [if_pos rfl, Dl.out, Nat.add_sub_cancel]
      by_cases hz : (l.drop ae).getD m 0 = 0
      ·rw [if_pos (.inr (.inl hz)), if_pos (.inl hz)]
      ·by_cases hq : m + 1 < (l.drop ae).getD m 0
       ·rw [if_pos (.inr (.inr hq)), if_pos (.inr hq)]
       ·rw [if_neg (by omega), if_neg (by omega)]
     rw [hrp] at hR10
     clear hrp
     generalize (l.drop ae).getD m 0 = lst at *
     have u9 : (lst : Int) ≤ 255 := by omega
     by_cases hz : lst = 0
     ·have e : R.1 = 3 := by rw [hR10.out, if_pos (.inl hz)]
      clear hR10
      go_wp2_with fail
      refine Calls.mono (must_no 3 _) ?_
      rintro e' w' ⟨rfl, rfl⟩
      exact ⟨rfl, PkPost.no 3 e (by decide) rfl (tb T4.out)⟩
     by_cases hq : m + 1 < lst
     ·have e : R.1 = 3 := by rw [hR10.out, if_pos (.inr hq)]
      clear hR10
      go_wp2_with fail
      have d : decide ((lst : Int) ≤ (m : Int) + 1) = false := by simp; omega
      rw [d]
      refine Calls.mono (must_no 3 _) ?_
      rintro e' w' ⟨rfl, rfl⟩
      exact ⟨rfl, PkPost.no 3 e (by decide) rfl (tb T4.out)⟩
     rw [if_neg (by omega)] at hR10
     have hRf : Hid (R = (0, ae, ⟨l.getD 1 0 / 128 == 1, l.getD 1 0 % 128, nm l 2 2, nm l 4 4, nm l 8 4, rOthers l j, xb, pf, ex, (l.drop ae).take (l.length - ae - lst), lst⟩)) := hR10.out
     clear hR10
     go_wp2_with fail
     have d : decide ((lst : Int) ≤ (m : Int) + 1) = true := by simp; omega
     rw [d]
     clear d
     refine Calls.mono (must_ok 3 _) ?_
     rintro e w' ⟨rfl, rfl⟩
     dsimp only
     go_upto_region 19 with (fail)
     have hbp : b ≠ p := D4.out.2.2.ne P4.out (by decide) b rfl
     have hc := fun w => run_cut_hm (P := Tryz.prog) Tryz.underlying35 info_u8 (some ⟨b, o, none⟩) (m + 1) c3 (m + 1 - lst) (m + 1 - lst) ((m : Int) + 1 - (lst : Int)) ((m : Int) + 1 - (lst : Int)) (by omega) (by omega) .i64 .i64 (by omega) (by omega) w
     have TS : Still [p] w4 ((w4.setCell ⟨p, 10, none⟩ (.int .u8 (lst : Nat))).setCell ⟨p, 9, none⟩ (.slice (some ⟨b, o, none⟩) (m + 1 - lst) (m + 1 - lst))) := (still_setCR w4 p 10 _).trans (still_setCR _ p 9 _)
     have P6 : Hid (PkV ((w4.setCell ⟨p, 10, none⟩ (.int .u8 (lst : Nat))).setCell ⟨p, 9, none⟩ (.slice (some ⟨b, o, none⟩) (m + 1 - lst) (m + 1 - lst))) p (rtpC mk ty sq st so (.slice so_ j co) xb pf (.slice se ne ce) (.slice (some ⟨b, o, none⟩) (m + 1 - lst) (m + 1 - lst)) lst)) := (P4.out.set 10 _).set 9 _
     replace TS := Lib.hid TS
     go_wp2_with fail
     go_meet
     refine ⟨lst, m + 1 - lst, m + 1 - lst, hRf, hbl, rfl, P6, ?_, E4.out.still TS.out (fun k hk => by have := E4.out.2.2.ne P4.out (by decide) k hk; simpa using this), N4.out.still TS.out (fun k hk => by have := N4.out.2.ne P4.out (by decide) k hk; simpa using this), T4.out.own2 TS.out (by simpa using Or.inr hpw)⟩
     have h7 := (D4.out.cut 0 (m + 1 - lst) (m + 1 - lst) (by omega) (by omega) (by omega) (by omega)).still TS.out (fun k hk => by have := D4.out.2.2.ne P4.out (by decide) k (by rw [cutA_zero] at hk; exact hk); simpa using this)
     rw [cutA_zero] at h7
     exact h7
   clear P4 D4 E4 N4 T4 hR10
   obtain ⟨wd, rfl⟩ : ∃ x, x = wc := ⟨_, rfl⟩
   obtain ⟨pd, n', c4, hRf, hpd, hn', P, D, E, N, T⟩ := hcut
   replace hn' := Lib.hid hn'
   have Z4 := Z0.out.still T.out (by simpa using hgZ.symm)
   have k0 := P.out.cell 0
   have k1 := P.out.cell 1
   have k2 := P.out.cell 2
   have k3 := P.out.cell 3
   have k4 := P.out.cell 4
   have k5 := P.out.cell 5
   have k6 := P.out.cell 6
   have k7 := P.out.cell 7
   have k8 := P.out.cell 8
   have k9 := P.out.cell 9
   have k10 := P.out.cell 10
   have z0 := Z4.cell 0
   have y0 := Z4.frz 0
   have z1 := Z4.cell 1
   have y1 := Z4.frz 1
   have z2 := Z4.cell 2
   have y2 := Z4.frz 2
   have z3 := Z4.cell 3
   have y3 := Z4.frz 3
   have z4 := Z4.cell 4
   have y4 := Z4.frz 4
   have z5 := Z4.cell 5
   have y5 := Z4.frz 5
   have z6 := Z4.cell 6
   have y6 := Z4.frz 6
   have z7 := Z4.cell 7
   have y7 := Z4.frz 7
   have z8 := Z4.cell 8
   have y8 := Z4.frz 8
   have z9 := Z4.cell 9
   have y9 := Z4.frz 9
   have z10 := Z4.cell 10
   have y10 := Z4.frz 10
   simp only [rtpC, zC, List.getElem?_toArray, List.getElem?_cons_zero, List.getElem?_cons_succ] at k0 k1 k2 k3 k4 k5 k6 k7 k8 k9 k10 z0 z1 z2 z3 z4 z5 z6 z7 z8 z9 z10
   replace Z4 := Lib.hid Z4
   go_wp2_with fail
   have Z5 := Z4.out.set11 rfl (.bool mk) (.int .u8 (ty : Nat)) (.int .u16 (sq : Nat)) (.int .u32 (st : Nat)) (.int .u32 (so : Nat)) (.slice so_ j co) (.bool xb) (.int .u16 (pf : Nat)) (.slice se ne ce) (.slice s3 n' c4) (.int .u8 (pd : Nat))
   have TZ := still_set11 wd w.heap.size (.bool mk) (.int .u8 (ty : Nat)) (.int .u16 (sq : Nat)) (.int .u32 (st : Nat)) (.int .u32 (so : Nat)) (.slice so_ j co) (.bool xb) (.int .u16 (pf : Nat)) (.slice se ne ce) (.slice s3 n' c4) (.int .u8 (pd : Nat))
   clear z0 z1 z2 z3 z4 z5 z6 z7 z8 z9 z10 y0 y1 y2 y3 y4 y5 y6 y7 y8 y9 y10 k0 k1 k2 k3 k4 k5 k6 k7 k8 k9 k10
   generalize (((((((((((wd.setCell ⟨w.heap.size, 0, none⟩ (.bool mk)).setCell ⟨w.heap.size, 1, none⟩ (.int .u8 (ty : Nat))).setCell ⟨w.heap.size, 2, none⟩ (.int .u16 (sq : Nat))).setCell ⟨w.heap.size, 3, none⟩ (.int .u32 (st : Nat))).setCell ⟨w.heap.size, 4, none⟩ (.int .u32 (so : Nat))).setCell ⟨w.heap.size, 5, none⟩ (.slice so_ j co)).setCell ⟨w.heap.size, 6, none⟩ (.bool xb)).setCell ⟨w.heap.size, 7, none⟩ (.int .u16 (pf : Nat))).setCell ⟨w.heap.size, 8, none⟩ (.slice se ne ce)).setCell ⟨w.heap.size, 9, none⟩ (.slice s3 n' c4)).setCell ⟨w.heap.size, 10, none⟩ (.int .u8 (pd : Nat))) = wz at *
   have z0 := Z5.cell 0
   have z1 := Z5.cell 1
   have z2 := Z5.cell 2
   have z3 := Z5.cell 3
   have z4 := Z5.cell 4
   have z5 := Z5.cell 5
   have z6 := Z5.cell 6
   have z7 := Z5.cell 7
   have z8 := Z5.cell 8
   have z9 := Z5.cell 9
   have z10 := Z5.cell 10
   simp only [List.getElem?_toArray, List.getElem?_cons_zero, List.getElem?_cons_succ] at z0 z1 z2 z3 z4 z5 z6 z7 z8 z9 z10
   have hRg : R = (0, ae, ⟨mk, ty, sq, st, so, rOthers l j, xb, pf, ex, (l.drop ae).take n', pd⟩) := by
    rw [hRf.out, hx1.out, hmk.out, hty.out, hsq.out, hst.out, hso.out, show l.length - ae - pd = n' by have := hll.out.out; have := hn.out; have := hn'.out; omega]
   have hge : w.heap.size < w8.heap.size := Nat.lt_of_lt_of_le hw1 hwz8
   have D5 := (D.out.still TZ (fun k hk => by have := D.out.ge' k hk; simp; omega)).up (Nat.le_of_lt hge)
   have E5 := (E.out.still TZ (fun k hk => by have := E.out.ge' k hk; simp; omega)).up (Nat.le_of_lt hge)
   have N5 := (N.out.still TZ (fun k hk => by have := N.out.ge' k hk; simp; omega)).up (Nat.le_of_lt hge)
   have T5 : Still [g] w wz := (tb T.out).own2 TZ (by simp)
   replace Z5 := Lib.hid Z5
   replace TZ := Lib.hid TZ
   replace D5 := Lib.hid D5
   replace E5 := Lib.hid E5
   replace N5 := Lib.hid N5
   replace T5 := Lib.hid T5
   replace hRg := Lib.hid hRg
   refine bodyPost_ret (v := .tuple #[.agg #[.bool mk, .int .u8 (ty : Nat), .int .u16 (sq : Nat), .int .u32 (st : Nat), .int .u32 (so : Nat), .slice so_ j co, .bool xb, .int .u16 (pf : Nat), .slice se ne ce, .slice s3 n' c4, .int .u8 (pd : Nat)], .int .i64 (ae : Nat)]) (by simp [results, Tryz.results101, go_sem, z0, z1, z2, z3, z4, z5, z6, z7, z8, z9, z10]) rfl ?_
   rw [hRg.out]
   exact .inl ⟨rfl, _, rfl, ⟨_, _, _, rfl, by rw [rOthers_len]; exact N5.out, E5.out, by rw [D5.out.1]; exact D5.out⟩, T5.out⟩
end Go.Proofs.YtikmhlbpefednaaGreat

namespace Go.Proofs.YtikmhlbpefednaaGreat
open Go.RowKit
set_option maxRecDepth 100000 in
set_option maxHeartbeats 8000000 in
theorem catch_idle (p q r : Addr) (w : World) :
  CallsD Tryz.prog 100 #[.pointer (some p), .pointer (some q), .pointer (some r)] .returning w fun e u' w' => e = .returned (.tuple #[]) ∧ u' = .returning ∧ w' = w := by
 refine callsD_of_wpS Tryz.func100 rfl fun c₀ cs hu => ?_
 apply wpS_seq
 apply wpS_region
 simp [wpOpsS, go_sem, recoverD, hu, Tryz.ntmps100, Exit.thenS]
 refine wpS_of_wp ?_
 simp only [Array.replicate, List.replicate, List.setIfInBounds_toArray, List.set_cons_zero, List.set_cons_succ, List.append_toArray, List.cons_append, List.nil_append]
 go_wp2_with fail
 cases c₀
 simp_all [bodyPostS, results, Tryz.results100, Exit.thenS]
set_option maxRecDepth 100000 in
set_option maxHeartbeats 8000000 in
theorem catch_panicking (p q r : Nat) (k : Nat) (older : List PanicEntry) (w : World) (hp : PkV w p zC) (hq : HpB w q (.cells #[.int .i64 0] 3)) (hr : HpB w r (.cells #[.int .i64 0] 41)) (hpq : p ≠ q) (hpr : p ≠ r) (hqr : q ≠ r) :
  CallsD Tryz.prog 100 #[.pointer (some ⟨p, 0, none⟩), .pointer (some ⟨q, 0, none⟩), .pointer (some ⟨r, 0, none⟩)] (.panicking ({ v := .iface 180 (.agg #[.int .i64 (k : Nat)]), recovered := false } :: older)) w fun e u' w' =>
   e = .returned (.tuple #[]) ∧ u' = .panicking ({ v := .iface 180 (.agg #[.int .i64 (k : Nat)]), recovered := true } :: older) ∧ PkV w' p zC ∧ HpB w' q (.cells #[.int .i64 0] 3) ∧ HpB w' r (.cells #[.int .i64 (k : Nat)] 41) ∧ Still [p, q, r] w w' := by
 refine callsD_of_wpS Tryz.func100 rfl fun c₀ cs hu => ?_
 apply wpS_seq
 apply wpS_region
 simp [wpOpsS, go_sem, recoverD, hu, Tryz.ntmps100, Exit.thenS]
 refine wpS_of_wp ?_
 simp only [Array.replicate, List.replicate, List.setIfInBounds_toArray, List.set_cons_zero, List.set_cons_succ, List.append_toArray, List.cons_append, List.nil_append]
 have hta : ∀ w, (Instr.typeAssert (.iface 180 (.agg #[.int .i64 (k : Nat)])) 20 180 true).run Tryz.prog w = .ok (.tuple #[.agg #[.int .i64 (k : Nat)], .bool true]) w := fun w => by kernel_rfl
 have Z1 : BW w (w.alloc (.cells #[.int .i64 (k : Nat)] 180)) := (BW.refl w).alloc
 have g1 : HpB (w.alloc (.cells #[.int .i64 (k : Nat)] 180)) w.heap.size (.cells #[.int .i64 (k : Nat)] 180) := HpB.new w _
 have p1 := Lib.hid (hp.bw Z1)
 have q1 := Lib.hid (hq.bw Z1)
 have r1 := Lib.hid (hr.bw Z1)
 go_upto_region 5 with (fail)
 generalize w.alloc (.cells #[.int .i64 (k : Nat)] 180) = w1 at *
 have hpw := HpB.lt hp
 have hqw := HpB.lt hq
 have hrw := HpB.lt hr
 have l0 : ∀ x : LaterS [p, q, r] w1, x.now.cell? ⟨w.heap.size, 0, none⟩ = some (.int .i64 (k : Nat)) := fun x => x.cell (hp_cell g1 0) (by simp; omega)
 replace hp := Lib.hid hp
 replace hq := Lib.hid hq
 replace hr := Lib.hid hr
 replace g1 := Lib.hid g1
 clear hta
 refine wp_region_gg ([p, q, r]) [3, 4] [5] (by kernel_rfl) ?_
 refine hoist [] [3, 4] (a1 := ?_) 0 rfl (by kernel_rfl) (.inl ⟨rfl, rfl⟩) rfl rfl rfl (fun x K hK => ?_) ?_
 rotate_left
 ·go_big_quiet_op
  exact hK
 refine hoist ([p, q, r]) [] (a1 := ?_) 1 rfl (by kernel_rfl) (.inr rfl) rfl rfl rfl (fun x K hK => ?_) ?_
 rotate_left
 ·go_big_quiet_op
  exact hK
 refine hoist ([p, q, r]) [] (a1 := ?_) 2 rfl (by kernel_rfl) (.inr rfl) rfl rfl rfl (fun x K hK => ?_) ?_
 rotate_left
 ·go_big_quiet_op
  exact hK
 refine effect 3 rfl (by kernel_rfl) (by kernel_rfl) rfl (fun x3 K hK => ?_)
 have pX := p1.out.bw x3.bw
 have z0 := pX.cell 0
 have y0 := pX.frz 0
 have z1 := pX.cell 1
 have y1 := pX.frz 1
 have z2 := pX.cell 2
 have y2 := pX.frz 2
 have z3 := pX.cell 3
 have y3 := pX.frz 3
 have z4 := pX.cell 4
 have y4 := pX.frz 4
 have z5 := pX.cell 5
 have y5 := pX.frz 5
 have z6 := pX.cell 6
 have y6 := pX.frz 6
 have z7 := pX.cell 7
 have y7 := pX.frz 7
 have z8 := pX.cell 8
 have y8 := pX.frz 8
 have z9 := pX.cell 9
 have y9 := pX.frz 9
 have z10 := pX.cell 10
 have y10 := pX.frz 10
 simp only [rtpC, zC, List.getElem?_toArray, List.getElem?_cons_zero, List.getElem?_cons_succ] at z0 z1 z2 z3 z4 z5 z6 z7 z8 z9 z10
 replace pX := Lib.hid pX
 go_simp
 have pY := Lib.hid (pX.out.set11 rfl (.bool false) (.int .u8 0) (.int .u16 0) (.int .u32 0) (.int .u32 0) (.slice none 0 0) (.bool false) (.int .u16 0) (.slice none 0 0) (.slice none 0 0) (.int .u8 0))
 have TS := still_set11 x3.now p (.bool false) (.int .u8 0) (.int .u16 0) (.int .u32 0) (.int .u32 0) (.slice none 0 0) (.bool false) (.int .u16 0) (.slice none 0 0) (.slice none 0 0) (.int .u8 0)
 have qY := Lib.hid (HpB.st (q1.out.bw x3.bw) TS (by simpa using hpq.symm))
 have rY := Lib.hid (HpB.st (r1.out.bw x3.bw) TS (by simpa using hpr.symm))
 have T3 := Lib.hid (((Z1.trans x3.bw).still [p, q, r]).trans (TS.weaken (by simp)))
 refine hK _ _ (TS.weaken (by simp)) ?_
 clear hK K z0 z1 z2 z3 z4 z5 z6 z7 z8 z9 z10 y0 y1 y2 y3 y4 y5 y6 y7 y8 y9 y10 pX TS l0
 generalize (((((((((((x3.now.setCell ⟨p, 0, none⟩ (.bool false)).setCell ⟨p, 1, none⟩ (.int .u8 0)).setCell ⟨p, 2, none⟩ (.int .u16 0)).setCell ⟨p, 3, none⟩ (.int .u32 0)).setCell ⟨p, 4, none⟩ (.int .u32 0)).setCell ⟨p, 5, none⟩ (.slice none 0 0)).setCell ⟨p, 6, none⟩ (.bool false)).setCell ⟨p, 7, none⟩ (.int .u16 0)).setCell ⟨p, 8, none⟩ (.slice none 0 0)).setCell ⟨p, 9, none⟩ (.slice none 0 0)).setCell ⟨p, 10, none⟩ (.int .u8 0)) = w3 at *
 try simp only [Act.put, List.setIfInBounds_toArray, List.set_cons_succ, List.set_cons_zero]
 refine effect 4 rfl (by kernel_rfl) (by kernel_rfl) rfl (fun x4 K hK => ?_)
 have qX := qY.out.bw x4.bw
 have z0 := hp_cell qX 0
 have y0 := hp_frz qX 0
 simp only [List.getElem?_toArray, List.getElem?_cons_zero] at z0
 go_simp
 have TS := still_setCR x4.now q 0 (.int .i64 0)
 have q4 : Hid (HpB (x4.now.setCell ⟨q, 0, none⟩ (.int .i64 0)) q (.cells #[.int .i64 0] 3)) := hp_set qX 0 _
 have p4 := Lib.hid ((pY.out.bw x4.bw).still TS (by simpa using hpq))
 have r4 := Lib.hid (HpB.st (rY.out.bw x4.bw) TS (by simpa using hqr.symm))
 have T4 := Lib.hid ((T3.out.trans (x4.bw.still [p, q, r])).trans (TS.weaken (by simp)))
 refine hK _ _ (TS.weaken (by simp)) ?_
 clear hK K z0 y0 qX TS
 generalize x4.now.setCell ⟨q, 0, none⟩ (.int .i64 0) = w4 at *
 try simp only [Act.put, List.setIfInBounds_toArray, List.set_cons_succ, List.set_cons_zero]
 refine tail 5 rfl (by kernel_rfl) rfl (fun xr => ?_)
 simp only [List.drop_succ_cons, List.drop_zero]
 have rX := r4.out.bw xr.bw
 have z0 := hp_cell rX 0
 have y0 := hp_frz rX 0
 simp only [List.getElem?_toArray, List.getElem?_cons_zero] at z0
 have TS := still_setCR xr.now r 0 (.int .i64 (k : Nat))
 have r5 : Hid (HpB (xr.now.setCell ⟨r, 0, none⟩ (.int .i64 (k : Nat))) r (.cells #[.int .i64 (k : Nat)] 41)) := hp_set rX 0 _
 have p5 := Lib.hid ((p4.out.bw xr.bw).still TS (by simpa using hpr))
 have q5 := Lib.hid (HpB.st (q4.out.bw xr.bw) TS (by simpa using hqr))
 have T5 := Lib.hid ((T4.out.trans (xr.bw.still [p, q, r])).trans (TS.weaken (by simp)))
 replace TS := Lib.hid TS
 replace rX := Lib.hid rX
 go_wp2_with fail
 exact ⟨rfl, _, rfl, .tuple #[], by simp [results, Tryz.results100, go_sem], rfl, rfl, p5.out, q5.out, r5.out, T5.out⟩
end Go.Proofs.YtikmhlbpefednaaGreat

namespace Go.Proofs.YtikmhlbpefednaaGreat
open Go.RowKit
theorem qlR {C : World → Prop} {a a1 : Act} {o : Oper} {K : Act → Prop} {x : Operand} (ho : o.op = .load 37 x) {g : Nat} (hx : a.eval x = .pointer (some ⟨g, 0, none⟩)) {c : Array Value} (hl : c.size = 11) (h : ∀ w, C w → PkV w g c) (ha : a.put o.dst (.agg c) = a1) (hK : K a1) : o.quiet Tryz.prog a C K :=
 quiet_load_row 37 x ho g hx 37 c (0, 0) _ Tryz.underlying37 rfl (by rw [hl]; kernel_rfl) h ha hK
theorem HpB.newAt (w : World) (o : Obj) (n : Nat) (h : n = w.heap.size) : HpB (w.alloc o) n o := hp_new w o n h
theorem BW.stl {a b c : World} (h : BW a b) {S : List Nat} (t : Still S b c) (hS : ∀ k ∈ S, a.heap.size ≤ k) : BW a c := h.step (t.below (B := a.heap.size) h.size hS) (Nat.le_refl _)
def ReadPost (R : Nat × Nat × RtpD) (w : World) (e : Ending) (w' : World) : Prop := ∃ c, e = .returned (.tuple #[.agg c, .int .i64 (R.2.1 : Nat), .int .i64 (R.1 : Nat)]) ∧ RtpO w' w.heap.size c R.2.2 ∧ BW w w'
theorem readN_err (l : List Nat) (h : (readN l).1 ≠ 0) : readN l = ((readN l).1, 0, rZero) := by
 revert h
 have key : ∀ R : Nat × Nat × RtpD, (R.1 = 0 ∨ R = (R.1, 0, rZero)) → R.1 ≠ 0 → R = (R.1, 0, rZero) := fun R h h0 => h.resolve_left h0
 refine key _ ?_
 unfold readN
 split
 ·exact .inr rfl
 split
 ·exact .inr rfl
 split
 ·exact .inr rfl
 split
 ·exact .inr rfl
 dsimp only
 split
 ·exact .inr rfl
 split
 ·exact .inr rfl
 ·exact .inl rfl
set_option maxRecDepth 100000 in
set_option maxHeartbeats 8000000 in
theorem read_any (v : Value) (len : Nat) (l : List Nat) (hlen : len ≤ 1000000000000) (w : World) (hv : SB w v len l) :
  Calls Tryz.prog 81 #[v] w (ReadPost (readN l) w) := by
 have hmf : ∀ (fn : Fn) (first cap : Array Value) (w : World), (Instr.makeFunc fn first cap).run Tryz.prog w = .ok (.func fn first cap) w := fun _ _ _ _ => rfl
 have hpk := fun g wz hr hv hg => Lib.hid (rpacket_ok g l v len hlen wz hr hv hg)
 have her := readN_err l
 generalize readN l = R at *
 obtain ⟨sa, cap, rfl, hcap, hm⟩ := hv.len
 replace her := Lib.hid her
 replace hv := Lib.hid hv
 go_enter_defers Tryz.func81, Tryz.ntmps81
 have B1 : BW w (w.alloc (.cells #[.bool false, .int .u8 0, .int .u16 0, .int .u32 0, .int .u32 0, .slice none 0 0, .bool false, .int .u16 0, .slice none 0 0, .slice none 0 0, .int .u8 0] 37)) := (BW.refl w).alloc
 have B2 : BW (w.alloc (.cells #[.bool false, .int .u8 0, .int .u16 0, .int .u32 0, .int .u32 0, .slice none 0 0, .bool false, .int .u16 0, .slice none 0 0, .slice none 0 0, .int .u8 0] 37)) ((w.alloc (.cells #[.bool false, .int .u8 0, .int .u16 0, .int .u32 0, .int .u32 0, .slice none 0 0, .bool false, .int .u16 0, .slice none 0 0, .slice none 0 0, .int .u8 0] 37)).alloc (.cells #[.int .i64 0] 3)) := (BW.refl _).alloc
 have B3 : BW ((w.alloc (.cells #[.bool false, .int .u8 0, .int .u16 0, .int .u32 0, .int .u32 0, .slice none 0 0, .bool false, .int .u16 0, .slice none 0 0, .slice none 0 0, .int .u8 0] 37)).alloc (.cells #[.int .i64 0] 3)) (((w.alloc (.cells #[.bool false, .int .u8 0, .int .u16 0, .int .u32 0, .int .u32 0, .slice none 0 0, .bool false, .int .u16 0, .slice none 0 0, .slice none 0 0, .int .u8 0] 37)).alloc (.cells #[.int .i64 0] 3)).alloc (.cells #[.int .i64 0] 41)) := (BW.refl _).alloc
 have B4 : BW (((w.alloc (.cells #[.bool false, .int .u8 0, .int .u16 0, .int .u32 0, .int .u32 0, .slice none 0 0, .bool false, .int .u16 0, .slice none 0 0, .slice none 0 0, .int .u8 0] 37)).alloc (.cells #[.int .i64 0] 3)).alloc (.cells #[.int .i64 0] 41)) ((((w.alloc (.cells #[.bool false, .int .u8 0, .int .u16 0, .int .u32 0, .int .u32 0, .slice none 0 0, .bool false, .int .u16 0, .slice none 0 0, .slice none 0 0, .int .u8 0] 37)).alloc (.cells #[.int .i64 0] 3)).alloc (.cells #[.int .i64 0] 41)).alloc (.cells #[.slice sa len cap, .int .i64 0] 184)) := (BW.refl _).alloc
 have P4 : PkV ((((w.alloc (.cells #[.bool false, .int .u8 0, .int .u16 0, .int .u32 0, .int .u32 0, .slice none 0 0, .bool false, .int .u16 0, .slice none 0 0, .slice none 0 0, .int .u8 0] 37)).alloc (.cells #[.int .i64 0] 3)).alloc (.cells #[.int .i64 0] 41)).alloc (.cells #[.slice sa len cap, .int .i64 0] 184)) w.heap.size zC := (((HpB.new w _).bw B2).bw B3).bw B4
 have Q4 : HpB ((((w.alloc (.cells #[.bool false, .int .u8 0, .int .u16 0, .int .u32 0, .int .u32 0, .slice none 0 0, .bool false, .int .u16 0, .slice none 0 0, .slice none 0 0, .int .u8 0] 37)).alloc (.cells #[.int .i64 0] 3)).alloc (.cells #[.int .i64 0] 41)).alloc (.cells #[.slice sa len cap, .int .i64 0] 184)) (w.heap.size + 1) (.cells #[.int .i64 0] 3) := HpB.bw (HpB.bw (HpB.newAt _ _ _ (by simp)) B3) B4
 have E4 : HpB ((((w.alloc (.cells #[.bool false, .int .u8 0, .int .u16 0, .int .u32 0, .int .u32 0, .slice none 0 0, .bool false, .int .u16 0, .slice none 0 0, .slice none 0 0, .int .u8 0] 37)).alloc (.cells #[.int .i64 0] 3)).alloc (.cells #[.int .i64 0] 41)).alloc (.cells #[.slice sa len cap, .int .i64 0] 184)) (w.heap.size + 1 + 1) (.cells #[.int .i64 0] 41) := HpB.bw (HpB.newAt _ _ _ (by simp)) B4
 have R4 : Rdr ((((w.alloc (.cells #[.bool false, .int .u8 0, .int .u16 0, .int .u32 0, .int .u32 0, .slice none 0 0, .bool false, .int .u16 0, .slice none 0 0, .slice none 0 0, .int .u8 0] 37)).alloc (.cells #[.int .i64 0] 3)).alloc (.cells #[.int .i64 0] 41)).alloc (.cells #[.slice sa len cap, .int .i64 0] 184)) (w.heap.size + 1 + 1 + 1) (.slice sa len cap) 0 := hp_new _ _ _ (by simp)
 have B5 := Lib.hid (((B1.trans B2).trans B3).trans B4)
 have hz4 : w.heap.size + 1 + 1 + 1 < ((((w.alloc (.cells #[.bool false, .int .u8 0, .int .u16 0, .int .u32 0, .int .u32 0, .slice none 0 0, .bool false, .int .u16 0, .slice none 0 0, .slice none 0 0, .int .u8 0] 37)).alloc (.cells #[.int .i64 0] 3)).alloc (.cells #[.int .i64 0] 41)).alloc (.cells #[.slice sa len cap, .int .i64 0] 184)).heap.size := by simp
 replace P4 := Lib.hid P4
 replace Q4 := Lib.hid Q4
 replace E4 := Lib.hid E4
 replace R4 := Lib.hid R4
 clear B1 B2 B3 B4
 go_upto_region 3 with (fail)
 generalize (((w.alloc (.cells #[.bool false, .int .u8 0, .int .u16 0, .int .u32 0, .int .u32 0, .slice none 0 0, .bool false, .int .u16 0, .slice none 0 0, .slice none 0 0, .int .u8 0] 37)).alloc (.cells #[.int .i64 0] 3)).alloc (.cells #[.int .i64 0] 41)).alloc (.cells #[.slice sa len cap, .int .i64 0] 184) = w4 at *
 have V4 := hv.out.bw B5.out
 have hg4 : 12 ≤ len → ∀ k, (Value.slice sa len cap).ownBlock = some k → k ≠ w.heap.size + 1 + 1 + 1 := fun h0 k hk => by
  have := hv.out.own_lt (by omega) k hk
  omega
 replace V4 := Lib.hid V4
 go_wp2_with fail
 refine Calls.mono (hpk _ w4 R4.out V4.out hg4).out ?_
 rintro e w5 hpost
 rcases hpost with ⟨h0, c, rfl, O, T⟩ | ⟨h0, rfl, T⟩
 ·obtain ⟨ov, ev, pv, rfl, N, E, D⟩ := O
  obtain ⟨so_, co, rfl, _, _⟩ := N.len
  obtain ⟨se, ce, rfl, _, _⟩ := E.len
  obtain ⟨sp, cp, rfl, _, _⟩ := D.len
  have Z5 := P4.out.still T (by simp; omega)
  have Q5 := Lib.hid (Q4.out.st T (by simp))
  have E5 := Lib.hid (E4.out.st T (by simp))
  obtain ⟨er, hd, mk, ty, sq, st, so, ot, xb, pf, ex, pl, pd⟩ := R
  dsimp only at N E D h0 ⊢
  subst h0
  generalize ot.length = no at *
  generalize ex.length = ne at *
  generalize pl.length = np at *
  have z0 := hp_cell (Z5) 0
  have y0 := hp_frz (Z5) 0
  have z1 := hp_cell (Z5) 1
  have y1 := hp_frz (Z5) 1
  have z2 := hp_cell (Z5) 2
  have y2 := hp_frz (Z5) 2
  have z3 := hp_cell (Z5) 3
  have y3 := hp_frz (Z5) 3
  have z4 := hp_cell (Z5) 4
  have y4 := hp_frz (Z5) 4
  have z5 := hp_cell (Z5) 5
  have y5 := hp_frz (Z5) 5
  have z6 := hp_cell (Z5) 6
  have y6 := hp_frz (Z5) 6
  have z7 := hp_cell (Z5) 7
  have y7 := hp_frz (Z5) 7
  have z8 := hp_cell (Z5) 8
  have y8 := hp_frz (Z5) 8
  have z9 := hp_cell (Z5) 9
  have y9 := hp_frz (Z5) 9
  have z10 := hp_cell (Z5) 10
  have y10 := hp_frz (Z5) 10
  simp only [zC, rtpC, List.getElem?_toArray, List.getElem?_cons_zero, List.getElem?_cons_succ] at z0 z1 z2 z3 z4 z5 z6 z7 z8 z9 z10
  simp only [rtpC]
  have Z6 := Lib.hid (Z5.set11 rfl (.bool mk) (.int .u8 (ty : Nat)) (.int .u16 (sq : Nat)) (.int .u32 (st : Nat)) (.int .u32 (so : Nat)) (.slice so_ no co) (.bool xb) (.int .u16 (pf : Nat)) (.slice se ne ce) (.slice sp np cp) (.int .u8 (pd : Nat)))
  have TS := still_set11 w5 w.heap.size (.bool mk) (.int .u8 (ty : Nat)) (.int .u16 (sq : Nat)) (.int .u32 (st : Nat)) (.int .u32 (so : Nat)) (.slice so_ no co) (.bool xb) (.int .u16 (pf : Nat)) (.slice se ne ce) (.slice sp np cp) (.int .u8 (pd : Nat))
  have Q6 := Lib.hid (HpB.st Q5.out TS (by simp))
  have E6 := Lib.hid (HpB.st E5.out TS (by simp; omega))
  have T5 : Hid (BW w w5) := B5.out.stl T (by simp; omega)
  have T6 := Lib.hid (T5.out.stl TS (by simp))
  have N6 := Lib.hid ((N.up (Nat.le_of_lt (Nat.lt_of_le_of_lt (Nat.le_add_right _ 3) hz4))).still TS (fun k hk => by have := N.ge' k hk; simp; omega))
  have X6 := Lib.hid ((E.up (Nat.le_of_lt (Nat.lt_of_le_of_lt (Nat.le_add_right _ 3) hz4))).still TS (fun k hk => by have := E.ge' k hk; simp; omega))
  have D6 := Lib.hid ((D.up (Nat.le_of_lt (Nat.lt_of_le_of_lt (Nat.le_add_right _ 3) hz4))).still TS (fun k hk => by have := D.ge' k hk; simp; omega))
  have q0 := hp_cell Q5.out 0
  have q1 := hp_frz Q5.out 0
  replace Z5 := Lib.hid Z5
  replace N := Lib.hid N
  replace E := Lib.hid E
  replace D := Lib.hid D
  replace T := Lib.hid T
  replace TS := Lib.hid TS
  go_upto_region 4 with (fail)
  generalize (((((((((((w5.setCell ⟨w.heap.size, 0, none⟩ (.bool mk)).setCell ⟨w.heap.size, 1, none⟩ (.int .u8 (ty : Nat))).setCell ⟨w.heap.size, 2, none⟩ (.int .u16 (sq : Nat))).setCell ⟨w.heap.size, 3, none⟩ (.int .u32 (st : Nat))).setCell ⟨w.heap.size, 4, none⟩ (.int .u32 (so : Nat))).setCell ⟨w.heap.size, 5, none⟩ (.slice so_ no co)).setCell ⟨w.heap.size, 6, none⟩ (.bool xb)).setCell ⟨w.heap.size, 7, none⟩ (.int .u16 (pf : Nat))).setCell ⟨w.heap.size, 8, none⟩ (.slice se ne ce)).setCell ⟨w.heap.size, 9, none⟩ (.slice sp np cp)).setCell ⟨w.heap.size, 10, none⟩ (.int .u8 (pd : Nat))) = w6 at *
  have hq : w6.setCell ⟨w.heap.size + 1, 0, none⟩ (.int .i64 (hd : Nat)) = w6.setCell ⟨w.heap.size + 1, 0, none⟩ (.int .i64 (hd : Nat)) := rfl
  have TS := still_setCR w6 (w.heap.size + 1) 0 (.int .i64 (hd : Nat))
  have Z7 := Lib.hid (Z6.out.still TS (by simp))
  have Q7 : Hid (HpB (w6.setCell ⟨w.heap.size + 1, 0, none⟩ (.int .i64 (hd : Nat))) (w.heap.size + 1) (.cells #[.int .i64 (hd : Nat)] 3)) := hp_set Q6.out 0 _
  have E7 := Lib.hid (HpB.st E6.out TS (by simp))
  have T7 := Lib.hid (T6.out.stl TS (by simp))
  have N7 := Lib.hid (N6.out.still TS (fun k hk => by have := N.out.ge' k hk; simp; omega))
  have X7 := Lib.hid (X6.out.still TS (fun k hk => by have := E.out.ge' k hk; simp; omega))
  have D7 := Lib.hid (D6.out.still TS (fun k hk => by have := D.out.ge' k hk; simp; omega))
  have hge : ∀ k, ((Value.slice so_ no co).ownBlock = some k ∨ (Value.slice se ne ce).ownBlock = some k ∨ (Value.slice sp np cp).ownBlock = some k) → w.heap.size + 1 + 1 + 1 < k := fun k hk => by
   rcases hk with hk | hk | hk
   ·have := N.out.ge' k hk; omega
   ·have := E.out.ge' k hk; omega
   ·have := D.out.ge' k hk; omega
  clear hq N6 X6 D6 Z6 Q6 E6 T6 TS q0 q1
  generalize w6.setCell ⟨w.heap.size + 1, 0, none⟩ (.int .i64 (hd : Nat)) = w7 at *
  clear Z5 Q5 E5 T5 TS N E D T
  clear z0 z1 z2 z3 z4 z5 z6 z7 z8 z9 z10 y0 y1 y2 y3 y4 y5 y6 y7 y8 y9 y10
  have l1 : ∀ x : LaterS [w.heap.size] w7, x.now.cell? ⟨w.heap.size + 1, 0, none⟩ = some (.int .i64 (hd : Nat)) := fun x => x.cell (hp_cell Q7.out 0) (by simp)
  refine wp_region_gg ([w.heap.size]) [2] [3] (by kernel_rfl) ?_
  refine hoist [] [2] (a1 := ?_) 0 rfl (by kernel_rfl) (.inl ⟨rfl, rfl⟩) rfl rfl rfl (fun x K hK => ?_) ?_
  rotate_left
  ·refine qlR rfl (by rfl) rfl (fun w' hw => by subst hw; exact Z7.out.bw x.bw) (by simp only [Act.put, List.setIfInBounds_toArray, List.set_cons_succ, List.set_cons_zero]; rfl) ?_
   exact hK
  refine hoist ([w.heap.size]) [] (a1 := ?_) 1 rfl (by kernel_rfl) (.inr rfl) rfl rfl rfl (fun x K hK => ?_) ?_
  rotate_left
  ·go_big_quiet_op
   exact hK
  refine effect 2 rfl (by kernel_rfl) (by kernel_rfl) rfl (fun x2 K hK => ?_)
  have ZX := Z7.out.bw x2.bw
  have z0 := hp_cell (ZX) 0
  have y0 := hp_frz (ZX) 0
  have z1 := hp_cell (ZX) 1
  have y1 := hp_frz (ZX) 1
  have z2 := hp_cell (ZX) 2
  have y2 := hp_frz (ZX) 2
  have z3 := hp_cell (ZX) 3
  have y3 := hp_frz (ZX) 3
  have z4 := hp_cell (ZX) 4
  have y4 := hp_frz (ZX) 4
  have z5 := hp_cell (ZX) 5
  have y5 := hp_frz (ZX) 5
  have z6 := hp_cell (ZX) 6
  have y6 := hp_frz (ZX) 6
  have z7 := hp_cell (ZX) 7
  have y7 := hp_frz (ZX) 7
  have z8 := hp_cell (ZX) 8
  have y8 := hp_frz (ZX) 8
  have z9 := hp_cell (ZX) 9
  have y9 := hp_frz (ZX) 9
  have z10 := hp_cell (ZX) 10
  have y10 := hp_frz (ZX) 10
  simp only [List.getElem?_toArray, List.getElem?_cons_zero, List.getElem?_cons_succ] at z0 z1 z2 z3 z4 z5 z6 z7 z8 z9 z10
  have TS := still_set11 x2.now w.heap.size (.bool mk) (.int .u8 (ty : Nat)) (.int .u16 (sq : Nat)) (.int .u32 (st : Nat)) (.int .u32 (so : Nat)) (.slice so_ no co) (.bool xb) (.int .u16 (pf : Nat)) (.slice se ne ce) (.slice sp np cp) (.int .u8 (pd : Nat))
  have Z8 := Lib.hid (ZX.set11 rfl (.bool mk) (.int .u8 (ty : Nat)) (.int .u16 (sq : Nat)) (.int .u32 (st : Nat)) (.int .u32 (so : Nat)) (.slice so_ no co) (.bool xb) (.int .u16 (pf : Nat)) (.slice se ne ce) (.slice sp np cp) (.int .u8 (pd : Nat)))
  have Q8 := Lib.hid (HpB.st (Q7.out.bw x2.bw) TS (by simp))
  have E8 := Lib.hid (HpB.st (E7.out.bw x2.bw) TS (by simp; omega))
  have T8 := Lib.hid ((T7.out.trans x2.bw).stl TS (by simp))
  have N8 := Lib.hid ((N7.out.bw x2.bw).still TS (fun k hk => by have := hge k (.inl hk); simp; omega))
  have X8 := Lib.hid ((X7.out.bw x2.bw).still TS (fun k hk => by have := hge k (.inr (.inl hk)); simp; omega))
  have D8 := Lib.hid ((D7.out.bw x2.bw).still TS (fun k hk => by have := hge k (.inr (.inr hk)); simp; omega))
  go_simp
  refine hK _ _ TS ?_
  clear hK K ZX TS l1
  clear z0 z1 z2 z3 z4 z5 z6 z7 z8 z9 z10 y0 y1 y2 y3 y4 y5 y6 y7 y8 y9 y10
  generalize (((((((((((x2.now.setCell ⟨w.heap.size, 0, none⟩ (.bool mk)).setCell ⟨w.heap.size, 1, none⟩ (.int .u8 (ty : Nat))).setCell ⟨w.heap.size, 2, none⟩ (.int .u16 (sq : Nat))).setCell ⟨w.heap.size, 3, none⟩ (.int .u32 (st : Nat))).setCell ⟨w.heap.size, 4, none⟩ (.int .u32 (so : Nat))).setCell ⟨w.heap.size, 5, none⟩ (.slice so_ no co)).setCell ⟨w.heap.size, 6, none⟩ (.bool xb)).setCell ⟨w.heap.size, 7, none⟩ (.int .u16 (pf : Nat))).setCell ⟨w.heap.size, 8, none⟩ (.slice se ne ce)).setCell ⟨w.heap.size, 9, none⟩ (.slice sp np cp)).setCell ⟨w.heap.size, 10, none⟩ (.int .u8 (pd : Nat))) = w8 at *
  try simp only [Act.put, List.setIfInBounds_toArray, List.set_cons_succ, List.set_cons_zero]
  refine tail 3 rfl (by kernel_rfl) rfl (fun xr => ?_)
  simp only [List.drop_succ_cons, List.drop_zero]
  have ZX := Z8.out.bw xr.bw
  have QX := Q8.out.bw xr.bw
  have EX := E8.out.bw xr.bw
  have q0 := hp_cell QX 0
  have q1 := hp_frz QX 0
  have r0 := hp_cell EX 0
  have r1 := hp_frz EX 0
  simp only [List.getElem?_toArray, List.getElem?_cons_zero] at q0 r0
  have T1 := still_setCR xr.now (w.heap.size + 1) 0 (.int .i64 (hd : Nat))
  have T2 := still_setCR (xr.now.setCell ⟨w.heap.size + 1, 0, none⟩ (.int .i64 (hd : Nat))) (w.heap.size + 1 + 1) 0 (.int .i64 0)
  have Z9 := Lib.hid ((ZX.still T1 (by simp)).still T2 (by simp; omega))
  have Q9 : Hid (HpB ((xr.now.setCell ⟨w.heap.size + 1, 0, none⟩ (.int .i64 (hd : Nat))).setCell ⟨w.heap.size + 1 + 1, 0, none⟩ (.int .i64 0)) (w.heap.size + 1) (.cells #[.int .i64 (hd : Nat)] 3)) := HpB.st (hp_set QX 0 _) T2 (by simp)
  have E9 : Hid (HpB ((xr.now.setCell ⟨w.heap.size + 1, 0, none⟩ (.int .i64 (hd : Nat))).setCell ⟨w.heap.size + 1 + 1, 0, none⟩ (.int .i64 0)) (w.heap.size + 1 + 1) (.cells #[.int .i64 0] 41)) := hp_set (HpB.st EX T1 (by simp)) 0 _
  have T9 := Lib.hid (((T8.out.trans xr.bw).stl T1 (by simp)).stl T2 (by simp; omega))
  have N9 := Lib.hid (((N8.out.bw xr.bw).still T1 (fun k hk => by have := hge k (.inl hk); simp; omega)).still T2 (fun k hk => by have := hge k (.inl hk); simp; omega))
  have X9 := Lib.hid (((X8.out.bw xr.bw).still T1 (fun k hk => by have := hge k (.inr (.inl hk)); simp; omega)).still T2 (fun k hk => by have := hge k (.inr (.inl hk)); simp; omega))
  have D9 := Lib.hid (((D8.out.bw xr.bw).still T1 (fun k hk => by have := hge k (.inr (.inr hk)); simp; omega)).still T2 (fun k hk => by have := hge k (.inr (.inr hk)); simp; omega))
  replace ZX := Lib.hid ZX
  replace QX := Lib.hid QX
  replace EX := Lib.hid EX
  replace T1 := Lib.hid T1
  replace T2 := Lib.hid T2
  clear hge
  go_wp2_with fail
  generalize (xr.now.setCell ⟨w.heap.size + 1, 0, none⟩ (.int .i64 (hd : Nat))).setCell ⟨w.heap.size + 1 + 1, 0, none⟩ (.int .i64 0) = w9 at *
  refine leaves_cons (f := 100) (args := #[.pointer (some ⟨w.heap.size, 0, none⟩), .pointer (some ⟨w.heap.size + 1, 0, none⟩), .pointer (some ⟨w.heap.size + 1 + 1, 0, none⟩)]) (by simp) (by simp [go_sem]) ?_
  refine (catch_idle _ _ _ _).mono ?_
  rintro e u' w'' ⟨rfl, rfl, rfl⟩
  have z0 := hp_cell (Z9.out) 0
  have z1 := hp_cell (Z9.out) 1
  have z2 := hp_cell (Z9.out) 2
  have z3 := hp_cell (Z9.out) 3
  have z4 := hp_cell (Z9.out) 4
  have z5 := hp_cell (Z9.out) 5
  have z6 := hp_cell (Z9.out) 6
  have z7 := hp_cell (Z9.out) 7
  have z8 := hp_cell (Z9.out) 8
  have z9 := hp_cell (Z9.out) 9
  have z10 := hp_cell (Z9.out) 10
  simp only [List.getElem?_toArray, List.getElem?_cons_zero, List.getElem?_cons_succ] at z0 z1 z2 z3 z4 z5 z6 z7 z8 z9 z10
  have q0 := hp_cell Q9.out 0
  have r0 := hp_cell E9.out 0
  simp only [List.getElem?_toArray, List.getElem?_cons_zero] at q0 r0
  refine ⟨.tuple #[.agg #[.bool mk, .int .u8 (ty : Nat), .int .u16 (sq : Nat), .int .u32 (st : Nat), .int .u32 (so : Nat), .slice so_ no co, .bool xb, .int .u16 (pf : Nat), .slice se ne ce, .slice sp np cp, .int .u8 (pd : Nat)], .int .i64 (hd : Nat), .int .i64 0], by simp [results, Tryz.results81, go_sem, z0, z1, z2, z3, z4, z5, z6, z7, z8, z9, z10, q0, r0], _, rfl, ⟨_, _, _, rfl, ?_, ?_, ?_⟩, T9.out⟩
  ·have hl : ot.length = no := by simpa [nz] using N9.out.1
   dsimp only
   rw [hl]; exact N9.out
  ·dsimp only
   rw [X9.out.1]; exact X9.out
  ·dsimp only
   rw [D9.out.1]; exact D9.out
 ·dsimp only [gaveUp]
  have Z5 := P4.out.still T (by simp; omega)
  have Q5 := Q4.out.st T (by simp)
  have E5 := E4.out.st T (by simp)
  have T5 := Lib.hid (B5.out.stl T (by simp; omega))
  have hR := her.out h0
  replace Z5 := Lib.hid Z5
  replace Q5 := Lib.hid Q5
  replace E5 := Lib.hid E5
  replace T := Lib.hid T
  replace hR := Lib.hid hR
  refine leaves_cons (f := 100) (args := #[.pointer (some ⟨w.heap.size, 0, none⟩), .pointer (some ⟨w.heap.size + 1, 0, none⟩), .pointer (some ⟨w.heap.size + 1 + 1, 0, none⟩)]) (by simp) (by simp [go_sem]) ?_
  refine (catch_panicking _ _ _ R.1 [] _ Z5.out Q5.out E5.out (by omega) (by omega) (by omega)).mono ?_
  rintro e u' w'' ⟨rfl, rfl, Z9, Q9, E9, TS⟩
  have z0 := hp_cell (Z9) 0
  have z1 := hp_cell (Z9) 1
  have z2 := hp_cell (Z9) 2
  have z3 := hp_cell (Z9) 3
  have z4 := hp_cell (Z9) 4
  have z5 := hp_cell (Z9) 5
  have z6 := hp_cell (Z9) 6
  have z7 := hp_cell (Z9) 7
  have z8 := hp_cell (Z9) 8
  have z9 := hp_cell (Z9) 9
  have z10 := hp_cell (Z9) 10
  simp only [zC, rtpC, List.getElem?_toArray, List.getElem?_cons_zero, List.getElem?_cons_succ] at z0 z1 z2 z3 z4 z5 z6 z7 z8 z9 z10
  have q0 := hp_cell Q9 0
  have r0 := hp_cell E9 0
  simp only [List.getElem?_toArray, List.getElem?_cons_zero] at q0 r0
  have T9 := T5.out.stl TS (by simp; omega)
  refine ⟨.tuple #[.agg #[.bool false, .int .u8 0, .int .u16 0, .int .u32 0, .int .u32 0, .slice none 0 0, .bool false, .int .u16 0, .slice none 0 0, .slice none 0 0, .int .u8 0], .int .i64 0, .int .i64 (R.1 : Nat)], by simp [results, Tryz.results81, go_sem, z0, z1, z2, z3, z4, z5, z6, z7, z8, z9, z10, q0, r0], _, by rw [hR.out]; rfl, by rw [hR.out]; exact RtpO.zero _ _, T9⟩
end Go.Proofs.YtikmhlbpefednaaGreat

namespace Go.Proofs.YtikmhlbpefednaaGreat
open Go.RowKit
def ReadPost2 (R : Nat × Nat × RtpD) (w : World) (e : Ending) (w' : World) : Prop := ∃ c, e = .returned (.tuple #[.agg c, .int .i64 (R.1 : Nat)]) ∧ RtpO w' w.heap.size c R.2.2 ∧ BW w w'
theorem RtpO.open {w : World} {base : Nat} {c : Array Value} {d : RtpD} (h : RtpO w base c d) :
  ∃ so_ co se ce sp cp, c = rtpC d.marker d.typ d.seq d.stamp d.source (.slice so_ d.others.length co) d.ext d.profile (.slice se d.extra.length ce) (.slice sp d.payload.length cp) d.pad ∧ NO w base 33 .u32 (.slice so_ d.others.length co) d.others.length (nz d.others) ∧ OB w base 5 (.slice se d.extra.length ce) d.extra.length d.extra ∧ OB w base 5 (.slice sp d.payload.length cp) d.payload.length d.payload := by
 obtain ⟨ov, ev, pv, rfl, h1, h2, h3⟩ := h
 obtain ⟨so_, co, rfl, _, _⟩ := h1.len
 obtain ⟨se, ce, rfl, _, _⟩ := h2.len
 obtain ⟨sp, cp, rfl, _, _⟩ := h3.len
 exact ⟨so_, co, se, ce, sp, cp, rfl, h1, h2, h3⟩
def RtpO.blk (c : Array Value) (k : Nat) : Prop := ∃ v ∈ c, v.ownBlock = some k
theorem RtpO.ge {w : World} {base : Nat} {c : Array Value} {d : RtpD} (h : RtpO w base c d) (k : Nat) (hk : RtpO.blk c k) : base ≤ k := by
 obtain ⟨ov, ev, pv, rfl, h1, h2, h3⟩ := h
 obtain ⟨v, hv, hk⟩ := hk
 simp only [rtpC, List.mem_toArray, List.mem_cons, List.not_mem_nil, or_false] at hv
 rcases hv with rfl | rfl | rfl | rfl | rfl | rfl | rfl | rfl | rfl | rfl | rfl <;> first
  | (cases hk; done)
  | exact h1.ge' k hk
  | exact h2.ge' k hk
  | exact h3.ge' k hk
theorem RtpO.still {w w' : World} {base : Nat} {c : Array Value} {d : RtpD} (h : RtpO w base c d) {S : List Nat} (hs : Still S w w') (hS : ∀ k ∈ S, k < base) : RtpO w' base c d := by
 obtain ⟨ov, ev, pv, rfl, h1, h2, h3⟩ := h
 exact ⟨ov, ev, pv, rfl, h1.still hs (fun k hk hm => by have := hS k hm; have := h1.ge' k hk; omega), h2.still hs (fun k hk hm => by have := hS k hm; have := h2.ge' k hk; omega), h3.still hs (fun k hk hm => by have := hS k hm; have := h3.ge' k hk; omega)⟩
set_option maxRecDepth 100000 in
set_option maxHeartbeats 8000000 in
theorem Read_any (v : Value) (len : Nat) (l : List Nat) (hlen : len ≤ 1000000000000) (w : World) (hv : SB w v len l) :
  Calls Tryz.prog 42 #[v] w (ReadPost2 (readN l) w) := by
 have hpk := fun wz hv => Lib.hid (read_any v len l hlen wz hv)
 generalize readN l = R at *
 obtain ⟨sa, cap, rfl, hcap, hm⟩ := hv.len
 have Z1 : Hid (PkV (w.alloc (.cells #[.bool false, .int .u8 0, .int .u16 0, .int .u32 0, .int .u32 0, .slice none 0 0, .bool false, .int .u16 0, .slice none 0 0, .slice none 0 0, .int .u8 0] 37)) w.heap.size zC) := HpB.new w _
 have B1 : Hid (BW w (w.alloc (.cells #[.bool false, .int .u8 0, .int .u16 0, .int .u32 0, .int .u32 0, .slice none 0 0, .bool false, .int .u16 0, .slice none 0 0, .slice none 0 0, .int .u8 0] 37))) := (BW.refl w).alloc
 have hz1 : w.heap.size < (w.alloc (.cells #[.bool false, .int .u8 0, .int .u16 0, .int .u32 0, .int .u32 0, .slice none 0 0, .bool false, .int .u16 0, .slice none 0 0, .slice none 0 0, .int .u8 0] 37)).heap.size := by simp
 replace hv := Lib.hid hv
 go_enter Tryz.func42, Tryz.ntmps42
 go_upto_region 1 with (fail)
 generalize w.alloc (.cells #[.bool false, .int .u8 0, .int .u16 0, .int .u32 0, .int .u32 0, .slice none 0 0, .bool false, .int .u16 0, .slice none 0 0, .slice none 0 0, .int .u8 0] 37) = w1 at *
 have V1 := Lib.hid (hv.out.bw B1.out)
 go_wp2_with fail
 refine Calls.mono (hpk w1 V1.out).out ?_
 rintro e w2 ⟨c, rfl, O, hb⟩
 obtain ⟨so_, co, se, ce, sp, cp, rfl, -, -, -⟩ := O.open
 obtain ⟨er, hd, d⟩ := R
 dsimp only at O ⊢
 have Z2 := Z1.out.bw hb
 have B2 := Lib.hid (B1.out.trans hb)
 generalize d.others.length = no at *
 generalize d.extra.length = ne at *
 generalize d.payload.length = np at *
 obtain ⟨mk, ty, sq, st, so, ot, xb, pf, ex, pl, pd⟩ := d
 simp only [rtpC] at O ⊢
 have B3 : BW w2 (w2.alloc (.cells #[.bool mk, .int .u8 (ty : Nat), .int .u16 (sq : Nat), .int .u32 (st : Nat), .int .u32 (so : Nat), .slice so_ no co, .bool xb, .int .u16 (pf : Nat), .slice se ne ce, .slice sp np cp, .int .u8 (pd : Nat)] 37)) := (BW.refl _).alloc
 have P3 : Hid (PkV (w2.alloc (.cells #[.bool mk, .int .u8 (ty : Nat), .int .u16 (sq : Nat), .int .u32 (st : Nat), .int .u32 (so : Nat), .slice so_ no co, .bool xb, .int .u16 (pf : Nat), .slice se ne ce, .slice sp np cp, .int .u8 (pd : Nat)] 37)) w2.heap.size #[.bool mk, .int .u8 (ty : Nat), .int .u16 (sq : Nat), .int .u32 (st : Nat), .int .u32 (so : Nat), .slice so_ no co, .bool xb, .int .u16 (pf : Nat), .slice se ne ce, .slice sp np cp, .int .u8 (pd : Nat)]) := HpB.new w2 _
 have Z3 := Z2.bw B3
 have O3 := Lib.hid (O.bw B3)
 have hz2 := HpB.lt Z2
 replace B2 := Lib.hid (B2.out.trans B3)
 replace Z2 := Lib.hid Z2
 replace O := Lib.hid O
 replace Z3 := Lib.hid Z3
 clear B3 hb
 go_upto_region 2 with (fail)
 generalize w2.alloc (.cells #[.bool mk, .int .u8 (ty : Nat), .int .u16 (sq : Nat), .int .u32 (st : Nat), .int .u32 (so : Nat), .slice so_ no co, .bool xb, .int .u16 (pf : Nat), .slice se ne ce, .slice sp np cp, .int .u8 (pd : Nat)] 37) = w3 at *
 have z0 := hp_cell (Z3.out) 0
 have y0 := hp_frz (Z3.out) 0
 have z1 := hp_cell (Z3.out) 1
 have y1 := hp_frz (Z3.out) 1
 have z2 := hp_cell (Z3.out) 2
 have y2 := hp_frz (Z3.out) 2
 have z3 := hp_cell (Z3.out) 3
 have y3 := hp_frz (Z3.out) 3
 have z4 := hp_cell (Z3.out) 4
 have y4 := hp_frz (Z3.out) 4
 have z5 := hp_cell (Z3.out) 5
 have y5 := hp_frz (Z3.out) 5
 have z6 := hp_cell (Z3.out) 6
 have y6 := hp_frz (Z3.out) 6
 have z7 := hp_cell (Z3.out) 7
 have y7 := hp_frz (Z3.out) 7
 have z8 := hp_cell (Z3.out) 8
 have y8 := hp_frz (Z3.out) 8
 have z9 := hp_cell (Z3.out) 9
 have y9 := hp_frz (Z3.out) 9
 have z10 := hp_cell (Z3.out) 10
 have y10 := hp_frz (Z3.out) 10
 simp only [zC, rtpC, List.getElem?_toArray, List.getElem?_cons_zero, List.getElem?_cons_succ] at z0 z1 z2 z3 z4 z5 z6 z7 z8 z9 z10
 have k0 := hp_cell (P3.out) 0
 have k1 := hp_cell (P3.out) 1
 have k2 := hp_cell (P3.out) 2
 have k3 := hp_cell (P3.out) 3
 have k4 := hp_cell (P3.out) 4
 have k5 := hp_cell (P3.out) 5
 have k6 := hp_cell (P3.out) 6
 have k7 := hp_cell (P3.out) 7
 have k8 := hp_cell (P3.out) 8
 have k9 := hp_cell (P3.out) 9
 have k10 := hp_cell (P3.out) 10
 simp only [List.getElem?_toArray, List.getElem?_cons_zero, List.getElem?_cons_succ] at k0 k1 k2 k3 k4 k5 k6 k7 k8 k9 k10
 go_wp2_with fail
 clear z0 z1 z2 z3 z4 z5 z6 z7 z8 z9 z10 y0 y1 y2 y3 y4 y5 y6 y7 y8 y9 y10 k0 k1 k2 k3 k4 k5 k6 k7 k8 k9 k10
 have TS := still_set11 w3 w.heap.size (.bool mk) (.int .u8 (ty : Nat)) (.int .u16 (sq : Nat)) (.int .u32 (st : Nat)) (.int .u32 (so : Nat)) (.slice so_ no co) (.bool xb) (.int .u16 (pf : Nat)) (.slice se ne ce) (.slice sp np cp) (.int .u8 (pd : Nat))
 have Z4 := Z3.out.set11 rfl (.bool mk) (.int .u8 (ty : Nat)) (.int .u16 (sq : Nat)) (.int .u32 (st : Nat)) (.int .u32 (so : Nat)) (.slice so_ no co) (.bool xb) (.int .u16 (pf : Nat)) (.slice se ne ce) (.slice sp np cp) (.int .u8 (pd : Nat))
 have O4 := (O3.out.still TS (by simpa using hz1)).up (Nat.le_of_lt hz1)
 have T4 := B2.out.stl TS (by simp)
 have z0 := hp_cell (Z4) 0
 have z1 := hp_cell (Z4) 1
 have z2 := hp_cell (Z4) 2
 have z3 := hp_cell (Z4) 3
 have z4 := hp_cell (Z4) 4
 have z5 := hp_cell (Z4) 5
 have z6 := hp_cell (Z4) 6
 have z7 := hp_cell (Z4) 7
 have z8 := hp_cell (Z4) 8
 have z9 := hp_cell (Z4) 9
 have z10 := hp_cell (Z4) 10
 simp only [List.getElem?_toArray, List.getElem?_cons_zero, List.getElem?_cons_succ] at z0 z1 z2 z3 z4 z5 z6 z7 z8 z9 z10
 replace Z4 := Lib.hid Z4
 replace TS := Lib.hid TS
 replace O4 := Lib.hid O4
 replace T4 := Lib.hid T4
 exact bodyPost_ret (v := .tuple #[.agg #[.bool mk, .int .u8 (ty : Nat), .int .u16 (sq : Nat), .int .u32 (st : Nat), .int .u32 (so : Nat), .slice so_ no co, .bool xb, .int .u16 (pf : Nat), .slice se ne ce, .slice sp np cp, .int .u8 (pd : Nat)], .int .i64 (er : Nat)]) (by simp [results, Tryz.results42, go_sem, z0, z1, z2, z3, z4, z5, z6, z7, z8, z9, z10]) rfl ⟨_, rfl, O4.out, T4.out⟩
end Go.Proofs.YtikmhlbpefednaaGreat

namespace Go.Proofs.YtikmhlbpefednaaGreat
open Go.RowKit
theorem RtpV.open {w : World} {c : Array Value} {d : RtpD} (h : RtpV w c d) :
  ∃ so_ co se ce sp cp, c = rtpC d.marker d.typ d.seq d.stamp d.source (.slice so_ d.others.length co) d.ext d.profile (.slice se d.extra.length ce) (.slice sp d.payload.length cp) d.pad ∧ NB w .u32 (.slice so_ d.others.length co) d.others.length (nz d.others) ∧ SB w (.slice se d.extra.length ce) d.extra.length d.extra ∧ SB w (.slice sp d.payload.length cp) d.payload.length d.payload := by
 obtain ⟨ov, ev, pv, rfl, h1, h2, h3⟩ := h
 obtain ⟨so_, co, rfl, _, _⟩ := h1.len
 obtain ⟨se, ce, rfl, _, _⟩ := h2.len
 obtain ⟨sp, cp, rfl, _, _⟩ := h3.len
 exact ⟨so_, co, se, ce, sp, cp, rfl, h1, h2, h3⟩
set_option maxRecDepth 100000 in
set_option maxHeartbeats 8000000 in
theorem same_true (c1 c2 : Array Value) (d : RtpD) (w : World) (h1 : RtpV w c1 d) (h2 : RtpV w c2 d) :
  Calls Tryz.prog 14 #[.agg c1, .agg c2] w fun e w' => e = .returned (.bool true) ∧ BW w w' := by
 obtain ⟨so1, co1, se1, ce1, sp1, cp1, rfl, N1, E1, D1⟩ := h1.open
 obtain ⟨so2, co2, se2, ce2, sp2, cp2, rfl, N2, E2, D2⟩ := h2.open
 obtain ⟨mk, ty, sq, st, so, ot, xb, pf, ex, pl, pd⟩ := d
 dsimp only at *
 clear h1 h2
 obtain ⟨_, _, he1, hn1, hm1⟩ := N1.len
 simp only [Value.slice.injEq, true_and] at he1
 obtain ⟨rfl, rfl⟩ := he1
 obtain ⟨_, _, he2, hn2, hm2⟩ := N2.len
 simp only [Value.slice.injEq, true_and] at he2
 obtain ⟨rfl, rfl⟩ := he2
 unfold maxLen at hm1 hm2
 have B1 : BW w (w.alloc (.cells (rtpC mk ty sq st so (.slice so1 ot.length co1) xb pf (.slice se1 ex.length ce1) (.slice sp1 pl.length cp1) pd) 37)) := (BW.refl w).alloc
 have B2 : BW (w.alloc (.cells (rtpC mk ty sq st so (.slice so1 ot.length co1) xb pf (.slice se1 ex.length ce1) (.slice sp1 pl.length cp1) pd) 37)) ((w.alloc (.cells (rtpC mk ty sq st so (.slice so1 ot.length co1) xb pf (.slice se1 ex.length ce1) (.slice sp1 pl.length cp1) pd) 37)).alloc (.cells (rtpC mk ty sq st so (.slice so2 ot.length co2) xb pf (.slice se2 ex.length ce2) (.slice sp2 pl.length cp2) pd) 37)) := (BW.refl _).alloc
 have P1 : PkV ((w.alloc (.cells (rtpC mk ty sq st so (.slice so1 ot.length co1) xb pf (.slice se1 ex.length ce1) (.slice sp1 pl.length cp1) pd) 37)).alloc (.cells (rtpC mk ty sq st so (.slice so2 ot.length co2) xb pf (.slice se2 ex.length ce2) (.slice sp2 pl.length cp2) pd) 37)) w.heap.size _ := HpB.bw (HpB.new w _) B2
 have P2 : PkV ((w.alloc (.cells (rtpC mk ty sq st so (.slice so1 ot.length co1) xb pf (.slice se1 ex.length ce1) (.slice sp1 pl.length cp1) pd) 37)).alloc (.cells (rtpC mk ty sq st so (.slice so2 ot.length co2) xb pf (.slice se2 ex.length ce2) (.slice sp2 pl.length cp2) pd) 37)) (w.heap.size + 1) _ := HpB.newAt _ _ _ (by simp)
 have B := Lib.hid (B1.trans B2)
 clear B1 B2
 replace N1 := Lib.hid N1
 replace N2 := Lib.hid N2
 replace E1 := Lib.hid E1
 replace E2 := Lib.hid E2
 replace D1 := Lib.hid D1
 replace D2 := Lib.hid D2
 replace P1 := Lib.hid P1
 replace P2 := Lib.hid P2
 unfold rtpC at *
 go_enter Tryz.func14, Tryz.ntmps14
 go_upto_region 1 with (fail)
 generalize (w.alloc (.cells #[.bool mk, .int .u8 (ty : Nat), .int .u16 (sq : Nat), .int .u32 (st : Nat), .int .u32 (so : Nat), .slice so1 ot.length co1, .bool xb, .int .u16 (pf : Nat), .slice se1 ex.length ce1, .slice sp1 pl.length cp1, .int .u8 (pd : Nat)] 37)).alloc (.cells #[.bool mk, .int .u8 (ty : Nat), .int .u16 (sq : Nat), .int .u32 (st : Nat), .int .u32 (so : Nat), .slice so2 ot.length co2, .bool xb, .int .u16 (pf : Nat), .slice se2 ex.length ce2, .slice sp2 pl.length cp2, .int .u8 (pd : Nat)] 37) = w2 at *
 replace N1 := Lib.hid (N1.out.bw B.out)
 replace N2 := Lib.hid (N2.out.bw B.out)
 replace E1 := Lib.hid (E1.out.bw B.out)
 replace E2 := Lib.hid (E2.out.bw B.out)
 replace D1 := Lib.hid (D1.out.bw B.out)
 replace D2 := Lib.hid (D2.out.bw B.out)
 have zo1 := hp_cell P1.out 5
 have zo2 := hp_cell P2.out 5
 simp only [List.getElem?_toArray, List.getElem?_cons_zero, List.getElem?_cons_succ] at zo1 zo2
 go_upto_region 4 with (fail)
 generalize ot.length = no at *
 go_loopg [5] no (fun m' i wx => ∃ j : Nat, m' = no - j ∧ j ≤ no ∧ i = .int .i64 (j : Nat) ∧ Hid (BW w2 wx))
 case atStart => exact ⟨0, by omega, by omega, rfl, BW.refl _⟩
 case round =>
  obtain ⟨j, rfl, hj, rfl, C⟩ := hrel
  have zp1 := C.out.cell zo1
  have zp2 := C.out.cell zo2
  by_cases hjn : j < no
  ·obtain ⟨b1, o1, q1, hs1, _, _, hb1, hc1⟩ := N1.out.form (by omega)
   obtain ⟨b2, o2, q2, hs2, _, _, hb2, hc2⟩ := N2.out.form (by omega)
   simp only [Value.slice.injEq] at hs1 hs2
   obtain ⟨rfl, -, rfl⟩ := hs1
   obtain ⟨rfl, -, rfl⟩ := hs2
   have k1 := C.out.cell (hc1 j hjn)
   have k2 := C.out.cell (hc2 j hjn)
   clear hc1 hc2
   generalize (nz ot).getD j 0 = X at *
   go_upto_region 6 with (fail)
   have l1 := fun x : LaterS [] wr => x.cell zp1 (by simp)
   have l2 := fun x : LaterS [] wr => x.cell zp2 (by simp)
   have l3 := fun x : LaterS [] wr => x.cell k1 (by simp)
   have l4 := fun x : LaterS [] wr => x.cell k2 (by simp)
   clear zp1 zp2 k1 k2
   refine wp_region_gg [] [] [] (by kernel_rfl) ?_
   refine hoist [] [] (a1 := ?_) 0 rfl (by kernel_rfl) (.inl ⟨rfl, rfl⟩) rfl rfl rfl (fun x K hK => ?_) ?_
   rotate_left
   ·go_big_quiet_op
    exact hK
   refine hoist [] [] (a1 := ?_) 1 rfl (by kernel_rfl) (.inl ⟨rfl, rfl⟩) rfl rfl rfl (fun x K hK => ?_) ?_
   rotate_left
   ·go_big_quiet_op
    exact hK
   refine hoist [] [] (a1 := ?_) 2 rfl (by kernel_rfl) (.inl ⟨rfl, rfl⟩) rfl rfl rfl (fun x K hK => ?_) ?_
   rotate_left
   ·go_big_quiet_op
    exact hK
   refine hoist [] [] (a1 := ?_) 3 rfl (by kernel_rfl) (.inl ⟨rfl, rfl⟩) rfl rfl rfl (fun x K hK => ?_) ?_
   rotate_left
   ·go_big_quiet_op
    exact hK
   refine hoist [] [] (a1 := ?_) 4 rfl (by kernel_rfl) (.inl ⟨rfl, rfl⟩) rfl rfl rfl (fun x K hK => ?_) ?_
   rotate_left
   ·go_big_quiet_op
    exact hK
   refine hoist [] [] (a1 := ?_) 5 rfl (by kernel_rfl) (.inl ⟨rfl, rfl⟩) rfl rfl rfl (fun x K hK => ?_) ?_
   rotate_left
   ·go_big_quiet_op
    exact hK
   refine hoist [] [] (a1 := ?_) 6 rfl (by kernel_rfl) (.inl ⟨rfl, rfl⟩) rfl rfl rfl (fun x K hK => ?_) ?_
   rotate_left
   ·go_big_quiet_op
    exact hK
   refine hoist [] [] (a1 := ?_) 7 rfl (by kernel_rfl) (.inl ⟨rfl, rfl⟩) rfl rfl rfl (fun x K hK => ?_) ?_
   rotate_left
   ·go_big_quiet_op
    exact hK
   refine hoist [] [] (a1 := ?_) 8 rfl (by kernel_rfl) (.inl ⟨rfl, rfl⟩) rfl rfl rfl (fun x K hK => ?_) ?_
   rotate_left
   ·go_big_quiet_op
    exact hK
   refine hoist [] [] (a1 := ?_) 9 rfl (by kernel_rfl) (.inl ⟨rfl, rfl⟩) rfl rfl rfl (fun x K hK => ?_) ?_
   rotate_left
   ·go_big_quiet_op
    exact hK
   refine hoist [] [] (a1 := ?_) 10 rfl (by kernel_rfl) (.inl ⟨rfl, rfl⟩) rfl rfl rfl (fun x K hK => ?_) ?_
   rotate_left
   ·go_big_quiet_op
    exact hK
   refine done (by kernel_rfl) (fun xr => ?_)
   have C2 := Lib.hid (C.out.trans xr.bw)
   clear l1 l2 l3 l4
   go_wp2_with fail
   go_roundg (no - (j + 1))
   case measure => omega
   case rel => exact ⟨j + 1, rfl, by omega, by push_cast; rfl, C2⟩
  ·obtain rfl : j = no := by omega
   clear hjn
   obtain ⟨wk, rfl⟩ : ∃ x, x = wr := ⟨_, rfl⟩
   go_upto_region 8 with (fail)
   clear zp1 zp2 zo1 zo2
   have z0 := hp_cell (P1.out.bw C.out) 0
   have z1 := hp_cell (P1.out.bw C.out) 1
   have z2 := hp_cell (P1.out.bw C.out) 2
   have z3 := hp_cell (P1.out.bw C.out) 3
   have z4 := hp_cell (P1.out.bw C.out) 4
   have z5 := hp_cell (P1.out.bw C.out) 5
   have z6 := hp_cell (P1.out.bw C.out) 6
   have z7 := hp_cell (P1.out.bw C.out) 7
   have z8 := hp_cell (P1.out.bw C.out) 8
   have z9 := hp_cell (P1.out.bw C.out) 9
   have z10 := hp_cell (P1.out.bw C.out) 10
   simp only [List.getElem?_toArray, List.getElem?_cons_zero, List.getElem?_cons_succ] at z0 z1 z2 z3 z4 z5 z6 z7 z8 z9 z10
   have y0 := hp_cell (P2.out.bw C.out) 0
   have y1 := hp_cell (P2.out.bw C.out) 1
   have y2 := hp_cell (P2.out.bw C.out) 2
   have y3 := hp_cell (P2.out.bw C.out) 3
   have y4 := hp_cell (P2.out.bw C.out) 4
   have y5 := hp_cell (P2.out.bw C.out) 5
   have y6 := hp_cell (P2.out.bw C.out) 6
   have y7 := hp_cell (P2.out.bw C.out) 7
   have y8 := hp_cell (P2.out.bw C.out) 8
   have y9 := hp_cell (P2.out.bw C.out) 9
   have y10 := hp_cell (P2.out.bw C.out) 10
   simp only [List.getElem?_toArray, List.getElem?_cons_zero, List.getElem?_cons_succ] at y0 y1 y2 y3 y4 y5 y6 y7 y8 y9 y10
   have v1 := conv_sb (E1.out.bw C.out)
   have v2 := conv_sb (E2.out.bw C.out)
   have v3 := conv_sb (D1.out.bw C.out)
   have v4 := conv_sb (D2.out.bw C.out)
   generalize bstr ex = sx at *
   generalize bstr pl = sy at *
   go_wp2_with fail
   go_ret
   exact ⟨rfl, B.out.trans C.out⟩
end Go.Proofs.YtikmhlbpefednaaGreat
