/- rtcp's body: a nack. No condition but the sizes'. rtcp's body: firs. No condition but the sizes'. rtcp's body: a rate. No condition but the sizes'. Control packets that may be: what is written is read. No condition. -/
import Derived.Test.YtcempndfbckcaaaGX5
import Derived.Test.YtcempndfbckcaaaGX2
import Derived.Test.YtcempndfbckcaaaGX4
namespace Go.Proofs.Ytcempndfbckcaaa
open Go.RowKit
theorem lossB_drop (L : List (Nat × Nat)) (k : Nat) (h : k < L.length) : lossB (L.drop k) = putB 2 (L[k]).1 ++ (putB 2 (L[k]).2 ++ lossB (L.drop (k + 1))) := by
 rw [List.drop_eq_getElem_cons h]
 unfold lossB
 rw [List.map_cons, List.flatten_cons, List.append_assoc]
abbrev nackC (s m : Nat) (so : Option Addr) (k co : Nat) : Array Value := #[.int .i64 1, .int .u32 (s : Nat), .int .u32 (m : Nat), .int .u64 0, .int .u32 0, .int .u32 0, .int .u32 0, .slice none 0 0, .slice none 0 0, .slice none 0 0, .slice so k co, .slice none 0 0, .int .u64 0]
set_option maxRecDepth 100000 in
set_option maxHeartbeats 8000000 in
theorem nack_ok (cnt s m n : Nat) (hs : s < 4294967296) (hm : m < 4294967296) (L : List (Nat × Nat)) (hL : ∀ p ∈ L, p.1 < 65536 ∧ p.2 < 65536) (hc : L.length = n) (hcn : n ≤ 16) (hn1 : 1 ≤ n) :
  ReadsTo 136 cnt (putB 4 s ++ (putB 4 m ++ lossB L)) ⟨1, s, m, 0, 0, 0, 0, [], [], [], L, [], 0⟩ := by
 intro base g w hr
 have hlb := lossB_len L
 have c1 := fun wz h => Lib.hid (bwordA base g cnt s (putB 4 m ++ lossB L) hs (by simp only [List.length_append, putB_len]; omega) wz h)
 have c2 := fun wz h => Lib.hid (bwordA base g cnt m (lossB L) hm (by omega) wz h)
 have cc := fun k (hk : k ≤ 16) w => Lib.hid (counted_ok k hk w)
 have hlt := hr.lt
 have BA : BW w (w.alloc (.cells zctl 111)) := (BW.refl _).alloc
 have X1 := Lib.hid (HpB.new w (.cells zctl 111))
 have D1 := Lib.hid (hr.bw BA)
 have R1 := Lib.hid (BA.still [g])
 have hdz : lossB (L.drop 0) = lossB L := rfl
 have hst := fun k (h : k < L.length) => lossB_drop L k h
 have hsn := fun k (h : k < L.length) => (List.take_succ_eq_append_getElem h)
 have hxx := fun k (h : k < L.length) => hL _ (List.getElem_mem h)
 have hwl := fun k => lossB_len (L.drop k)
 have hfull : L.take n = L := by rw [← hc, List.take_length]
 have hend : lossB (L.drop n) = [] := by rw [← hc, List.drop_length]; rfl
 have hcc := Lib.hid hc
 generalize hl0 : putB 4 s ++ _ = l0 at *
 generalize hl1 : putB 4 m ++ _ = l1 at *
 clear hl0 hl1 hL hr hc hs hm hlb
 replace hst := Lib.hid hst
 replace hsn := Lib.hid hsn
 replace hxx := Lib.hid hxx
 replace hwl := Lib.hid hwl
 replace hfull := Lib.hid hfull
 replace hend := Lib.hid hend
 replace hdz := Lib.hid hdz
 go_enter Try.func136, Try.ntmps136
 go_upto_region 1 with (fail)
 generalize (w.alloc _) = w1 at *
 generalize hw0 : w.heap.size = g1 at *
 replace hw0 := Lib.hid hw0
 have hg1 : g1 ∉ [g] := by simp; omega
 clear BA
 go_wp2_with fail
 refine Calls.mono (c1 _ D1.out).out ?_
 rintro e w2 ⟨rfl, D2, T2⟩
 have X2 := Lib.hid (X1.out.st T2 hg1)
 have R2 := Lib.hid (R1.out.trans T2)
 have k2 := c2 w2 D2
 clear D1 X1 R1 c1 T2 c2 D2
 dsimp only
 go_wp2_with fail
 refine Calls.mono k2.out ?_
 rintro e w3 ⟨rfl, D3, T3⟩
 have X3 := Lib.hid (X2.out.st T3 hg1)
 have R3 := Lib.hid (R2.out.trans T3)
 have hlt3 := X3.out.lt
 clear X2 R2 k2 T3
 dsimp only
 have BC : BW w3 (w3.alloc (.cells (nackC s m none 0 0) 111)) := (BW.refl _).alloc
 have Y0 := Lib.hid (HpB.new w3 (.cells (nackC s m none 0 0) 111))
 have X0 := Lib.hid (X3.out.bw BC)
 have D0 := Lib.hid (D3.bw BC)
 have R0 := Lib.hid (R3.out.new BC)
 rw [← hdz.out] at D0
 clear D3 X3 R3
 replace BC := Lib.hid BC
 go_upto_region 2 with (fail)
 generalize (w3.alloc _) = w4 at *
 generalize w3.heap.size = g3 at *
 have hng : Hid (g3 ≠ g ∧ g1 ≠ g ∧ g3 ≠ g1 ∧ g1 < g3 ∧ g < g1) := by have := hw0.out; show _ ∧ _; omega
 clear BC
 go_loopg [] n (fun m' wx => ∃ (k : Nat) (so : Option Addr) (co : Nat), m' = n - k ∧ k ≤ n ∧ k ≤ co ∧ co ≤ 9223372036854775807 ∧ Hid (HpB wx g3 (.cells (nackC s m so k co) 111)) ∧ Hid (EQ EO 30 wx g1 (.slice so k co) k (L.take k)) ∧ Hid (BdV wx base g cnt (lossB (L.drop k))) ∧ Hid (HpB wx g1 (.cells zctl 111)) ∧ Hid (Still [g] w wx))
 case atStart => exact ⟨0, none, 0, rfl, by omega, Nat.le_refl _, by omega, Y0, Lib.hid (EQ.nil _ _ _ _), D0, X0, R0⟩
 case round =>
  clear X0 Y0 D0 R0
  obtain ⟨k, so, co, rfl, hk, hkc, hco, Y, Q, D, X, R⟩ := hrel
  have z10 := (hp_cell Y.out 10).trans (show _ = some (.slice so k co) from rfl)
  by_cases hkn : k < n
  ·have hkl : k < L.length := by rw [hcc.out]; exact hkn
   have hs1 := hst.out k hkl
   have hn1 := hsn.out k hkl
   have hx1 := hxx.out k hkl
   have hl1 := hwl.out (k + 1)
   have hl0 := hwl.out k
   have hlk : (L.drop (k + 1)).length ≤ 16 := by rw [List.length_drop, hcc.out]; omega
   have hl2 : 0 < (lossB (L.drop k)).length := by rw [hl0, List.length_drop, hcc.out]; omega
   generalize L[k] = x at *
   obtain ⟨xp, xq⟩ := x
   dsimp only at hs1 hx1 hn1
   have cw := fun wz h => Lib.hid (bnumA base g cnt 2 xp (putB 2 xq ++ lossB (L.drop (k + 1))) (by decide) (by decide) (by omega) (by rw [List.length_append, putB_len]; omega) wz h)
   rw [← hs1] at cw
   have cv := fun wz h => Lib.hid (bnumA base g cnt 2 xq (lossB (L.drop (k + 1))) (by decide) (by decide) (by omega) (by omega) wz h)
   have ck := fun w => cc (k + 1) (by omega) w
   have e1 : IntKind.u16.wrap (xp : Int) = (xp : Int) := IntWalk.u16_in _ (by omega)
   have e2 : IntKind.u16.wrap (xq : Int) = (xq : Int) := IntWalk.u16_in _ (by omega)
   clear hl1 hlk hs1 hx1 hl0
   replace hn1 := Lib.hid hn1
   obtain ⟨sb, cb, H5, -, hcb, hmb⟩ := D.out.get
   unfold maxLen at hmb
   have z1 := (hp_cell H5 1).trans (show _ = some (.slice sb (lossB (L.drop k)).length cb) from rfl)
   clear H5
   generalize (lossB (L.drop k)).length = bl at *
   have d2 : decide ((0 : Int) < (bl : Int)) = true := by simp; omega
   rcases Bool.eq_false_or_eq_true ((k : Int) == 0) with d1 | d1
   all_goals
    go_upto_region 3 with (fail)
    clear d1 d2 z1 hl2 hcb hmb
    have l10 : ∀ y : LaterS [g] wr, y.now.cell? ⟨g3, 10, none⟩ = some (.slice so k co) := fun y => y.cell ((hp_cell Y.out 10).trans rfl) (by have := hng.out.1; simpa using this)
    clear z10
    refine wp_region_gg ([g]) [3, 6] [10] (by kernel_rfl) ?_
    refine hoist ([g]) [] (a1 := ?_) 0 rfl (by kernel_rfl) (.inr rfl) rfl rfl rfl (fun x K hK => ?_) ?_
    rotate_left
    ·go_big_quiet_op
     exact hK
    refine hoist ([g]) [] (a1 := ?_) 1 rfl (by kernel_rfl) (.inr rfl) rfl rfl rfl (fun x K hK => ?_) ?_
    rotate_left
    ·go_big_quiet_op
     exact hK
    refine hoist [] [3, 6] (a1 := ?_) 2 rfl (by kernel_rfl) (.inl ⟨rfl, rfl⟩) rfl rfl rfl (fun x K hK => ?_) ?_
    rotate_left
    ·go_big_quiet_op
     exact hK
    refine hoist ([g]) [] (a1 := ?_) 5 rfl (by kernel_rfl) (.inr rfl) rfl rfl rfl (fun x K hK => ?_) ?_
    rotate_left
    ·go_big_quiet_op
     exact hK
    refine effect 3 rfl (by kernel_rfl) (by kernel_rfl) rfl (fun x3 K hK => ?_)
    go_simp
    refine Calls.mono (cw x3.now (D.out.bw x3.bw)).out ?_
    rintro e w7 ⟨rfl, D7, T7⟩
    refine hK _ _ T7 ?_
    clear hK K
    have Y7 := Lib.hid ((Y.out.bw x3.bw).st T7 (by have := hng.out.1; simpa using this))
    have X7 := Lib.hid ((X.out.bw x3.bw).st T7 (by have := hng.out.2.1; simpa using this))
    have hgd := D.out.row
    have Q7 := Lib.hid ((Q.out.bw x3.bw).still T7 (fun _ _ => trivial) (fun q hq hm => by obtain rfl : q = g := (by simpa using hm); obtain ⟨cs, hcs⟩ := hgd; exact Q.out.ne hcs (by decide) _ hq rfl))
    have R7 := Lib.hid ((R.out.trans (x3.bw.still [g])).trans T7)
    replace D7 := Lib.hid D7
    clear T7 Y X Q R D cw l10 hgd
    try simp only [Act.put, List.setIfInBounds_toArray, List.set_cons_succ, List.set_cons_zero]
    refine hoist ([g]) [] (a1 := ?_) 4 rfl (by kernel_rfl) (.inr rfl) rfl rfl rfl (fun x K hK => ?_) ?_
    rotate_left
    ·go_big_quiet_op
     exact hK
    refine effect 6 rfl (by kernel_rfl) (by kernel_rfl) rfl (fun x6 K hK => ?_)
    go_simp
    refine Calls.mono (cv x6.now (D7.out.bw x6.bw)).out ?_
    rintro e w8 ⟨rfl, D8, T8⟩
    refine hK _ _ T8 ?_
    clear hK K
    have Y8 := Lib.hid ((Y7.out.bw x6.bw).st T8 (by have := hng.out.1; simpa using this))
    have X8 := Lib.hid ((X7.out.bw x6.bw).st T8 (by have := hng.out.2.1; simpa using this))
    have hgd := D7.out.row
    have Q8 := Lib.hid ((Q7.out.bw x6.bw).still T8 (fun _ _ => trivial) (fun q hq hm => by obtain rfl : q = g := (by simpa using hm); obtain ⟨cs, hcs⟩ := hgd; exact Q7.out.ne hcs (by decide) _ hq rfl))
    have R8 := Lib.hid ((R7.out.trans (x6.bw.still [g])).trans T8)
    replace D8 := Lib.hid D8
    clear T8 Y7 X7 Q7 R7 D7 cv hgd
    try simp only [Act.put, List.setIfInBounds_toArray, List.set_cons_succ, List.set_cons_zero]
    refine hoist [] [3, 6] (a1 := ?_) 7 rfl (by kernel_rfl) (.inl ⟨rfl, rfl⟩) rfl rfl rfl (fun x K hK => ?_) ?_
    rotate_left
    ·go_big_quiet_op
     exact hK
    refine hoist [] [3, 6] (a1 := ?_) 8 rfl (by kernel_rfl) (.inl ⟨rfl, rfl⟩) rfl rfl rfl (fun x K hK => ?_) ?_
    rotate_left
    ·go_big_quiet_op
     exact hK
    refine effect 9 rfl (by kernel_rfl) (by kernel_rfl) rfl (fun x9 K hK => ?_)
    go_simp
    refine hK _ _ (Still.of_below ((Below.refl _ _).alloc (Nat.le_refl _) _)) ?_
    clear hK K
    have hb := x9.bw.trans ((BW.refl x9.now).alloc (o := .cells #[.int .u16 (xp : Nat), .int .u16 (xq : Nat)] 30))
    have L8 := Lib.hid (Sls.new1 (E := EO) x9.now 30 [.int .u16 (xp : Nat), .int .u16 (xq : Nat)] rfl)
    have Y9 := Lib.hid (Y8.out.bw hb)
    have X9 := Lib.hid (X8.out.bw hb)
    have Q9 := Lib.hid (Q8.out.bw hb)
    have D9 := Lib.hid (D8.out.bw hb)
    have R9 := Lib.hid (R8.out.trans (hb.still [g]))
    clear hb Y8 X8 Q8 D8 R8
    generalize (x9.now.alloc _) = w8 at *
    generalize x9.now.heap.size = g8 at *
    try simp only [Act.put, List.setIfInBounds_toArray, List.set_cons_succ, List.set_cons_zero]
    refine tail 10 rfl (by kernel_rfl) rfl (fun xr => ?_)
    simp only [List.drop_succ_cons, List.drop_zero]
    have L9 := Lib.hid (L8.out.bw xr.bw)
    replace Y9 := Lib.hid (Y9.out.bw xr.bw)
    replace X9 := Lib.hid (X9.out.bw xr.bw)
    replace Q9 := Lib.hid (Q9.out.bw xr.bw)
    replace D9 := Lib.hid (D9.out.bw xr.bw)
    replace R9 := Lib.hid (R9.out.trans (xr.bw.still [g]))
    clear L8 e1 e2
    generalize xr.now = w9 at *
    have hz9 : g1 ≤ w9.heap.size := by have := R9.out.size; have := hw0.out; omega
    go_upto_region 4 with (at_builtin; go_must (refine wpList_apEQ slEO rfl _ _ rfl g1 (.slice so k co) k (L.take k) rfl Q9.out _ rfl 1 [(xp, xq)] [.int .u16 (xp : Nat), .int .u16 (xq : Nat)] L9.out (EL.single rfl) rfl (by omega) hz9 (fun _ _ => trivial) ?_; intro s3 c3 w3 hc3 hm3 Q3 T3 hb3 G3; unfold maxLen at hm3; replace T3 : Still (Value.slice so k co).ownBlock.toList _ w3 := T3; have Y3 := Lib.hid (Y9.out.st T3 (fun hm => Q9.out.ne Y9.out (by decide) _ (by simpa using hm) rfl)); have X3 := Lib.hid (X9.out.st T3 (fun hm => Q9.out.ne X9.out (by decide) _ (by simpa using hm) rfl)); have D3 := Lib.hid (D9.out.st T3 (fun q hq => by obtain ⟨cs, hcs⟩ := Q9.out.row q (by simpa using hq); exact ⟨_, _, _, hcs, by decide, by decide⟩)); have R3 := Lib.hid (R9.out.fresh T3 (fun q hq => by have := Q9.out.ge' q (by simpa using hq); have := hw0.out; omega)); rw [← hn1.out] at Q3; replace Q3 := Lib.hid Q3; clear T3 hb3 G3 Y9 X9 D9 R9 Q9 L9; have z9 := (hp_cell Y3.out 10).trans (show _ = some (.slice so k co) from rfl); have f9 := hp_frz Y3.out 10))
    clear z9 f9
    have TS := still_sc w3 g3 10 (.slice s3 (k + 1) c3)
    have Y4 : Hid (HpB (w3.setCell ⟨g3, 10, none⟩ (.slice s3 (k + 1) c3)) g3 (.cells (nackC s m s3 (k + 1) c3) 111)) := hp_set Y3.out 10 _
    have X4 := Lib.hid (X3.out.st TS (by have := hng.out; simp; omega))
    have D4 := Lib.hid (D3.out.st TS (fun q hq => by obtain rfl : q = g3 := (by simpa using hq); exact ⟨_, _, _, Y3.out, by decide, by decide⟩))
    have Q4 := Lib.hid (Q3.out.still TS (fun _ _ => trivial) (fun q hq hm => Q3.out.ne Y3.out (by decide) q hq (by simpa using hm)))
    have R4 := Lib.hid (R3.out.fresh TS (fun q hq => by obtain rfl : q = g3 := (by simpa using hq); have := hw0.out; have := hng.out; omega))
    clear TS Y3 X3 D3 Q3 R3
    generalize (w3.setCell _ _) = w5 at *
    have z10 := (hp_cell Y4.out 10).trans (show _ = some (.slice s3 (k + 1) c3) from rfl)
    go_wp2_with fail
    refine Calls.mono (ck w5).out ?_
    rintro e w' ⟨rfl, rfl⟩
    dsimp only
    clear z10
    go_wp2_with fail
    go_roundg (n - (k + 1))
    case measure => omega
    case rel => exact ⟨k + 1, s3, c3, rfl, by omega, by omega, by omega, Y4, Q4, D4, X4, R4⟩
  ·obtain rfl : k = n := by omega
   have d1 : ((k : Int) == 0) = false := by simp; omega
   have Q2 := Q.out
   have D2 := D.out
   rw [hfull.out] at Q2
   rw [hend.out] at D2
   obtain ⟨sb, cb, H5, -, -, -⟩ := D2.get
   have z1 := (hp_cell H5 1).trans (show _ = some (.slice sb 0 cb) from rfl)
   clear H5
   replace Q2 := Lib.hid Q2
   replace D2 := Lib.hid D2
   go_upto_region 5 with (fail)
   clear z10 z1 d1
   have u0 := hp_cell (Y.out) 0
   have u1 := hp_cell (Y.out) 1
   have u2 := hp_cell (Y.out) 2
   have u3 := hp_cell (Y.out) 3
   have u4 := hp_cell (Y.out) 4
   have u5 := hp_cell (Y.out) 5
   have u6 := hp_cell (Y.out) 6
   have u7 := hp_cell (Y.out) 7
   have u8 := hp_cell (Y.out) 8
   have u9 := hp_cell (Y.out) 9
   have u10 := hp_cell (Y.out) 10
   have u11 := hp_cell (Y.out) 11
   have u12 := hp_cell (Y.out) 12
   simp only [List.getElem?_toArray, List.getElem?_cons_zero, List.getElem?_cons_succ] at u0 u1 u2 u3 u4 u5 u6 u7 u8 u9 u10 u11 u12
   have z0 := hp_cell (X.out) 0
   have y0 := hp_frz (X.out) 0
   have z1 := hp_cell (X.out) 1
   have y1 := hp_frz (X.out) 1
   have z2 := hp_cell (X.out) 2
   have y2 := hp_frz (X.out) 2
   have z3 := hp_cell (X.out) 3
   have y3 := hp_frz (X.out) 3
   have z4 := hp_cell (X.out) 4
   have y4 := hp_frz (X.out) 4
   have z5 := hp_cell (X.out) 5
   have y5 := hp_frz (X.out) 5
   have z6 := hp_cell (X.out) 6
   have y6 := hp_frz (X.out) 6
   have z7 := hp_cell (X.out) 7
   have y7 := hp_frz (X.out) 7
   have z8 := hp_cell (X.out) 8
   have y8 := hp_frz (X.out) 8
   have z9 := hp_cell (X.out) 9
   have y9 := hp_frz (X.out) 9
   have z10 := hp_cell (X.out) 10
   have y10 := hp_frz (X.out) 10
   have z11 := hp_cell (X.out) 11
   have y11 := hp_frz (X.out) 11
   have z12 := hp_cell (X.out) 12
   have y12 := hp_frz (X.out) 12
   simp only [List.getElem?_toArray, List.getElem?_cons_zero, List.getElem?_cons_succ] at z0 z1 z2 z3 z4 z5 z6 z7 z8 z9 z10 z11 z12
   have TS := still_st13 wr g1 (.int .i64 1) (.int .u32 (s : Nat)) (.int .u32 (m : Nat)) (.int .u64 0) (.int .u32 0) (.int .u32 0) (.int .u32 0) (.slice none 0 0) (.slice none 0 0) (.slice none 0 0) (.slice so k co) (.slice none 0 0) (.int .u64 0)
   have D6 := Lib.hid (D2.out.st TS (fun q hq => by obtain rfl : q = g1 := (by simpa using hq); exact ⟨_, _, _, X.out, by decide, by decide⟩))
   have Q6 := Lib.hid (Q2.out.still TS (fun _ _ => trivial) (fun q hq hm => Q2.out.ne X.out (by decide) q hq (by simpa using hm)))
   have R6 := Lib.hid (R.out.fresh TS (fun q hq => by obtain rfl : q = g1 := (by simpa using hq); have := hw0.out; omega))
   have X6 := Lib.hid (HpB.st13 X.out rfl (.int .i64 1) (.int .u32 (s : Nat)) (.int .u32 (m : Nat)) (.int .u64 0) (.int .u32 0) (.int .u32 0) (.int .u32 0) (.slice none 0 0) (.slice none 0 0) (.slice none 0 0) (.slice so k co) (.slice none 0 0) (.int .u64 0))
   clear D Q R TS Y X D2 Q2
   go_wp2_with fail
   refine bodyPost_ret (results_cell_row (p := 2) rfl _ _ g1 _ _ _ _ rfl X6.out Try.underlying111 rfl (by kernel_rfl)) rfl ?_
   refine ⟨.slice none 0 0, .slice none 0 0, .slice none 0 0, .slice so k co, .slice none 0 0, rfl, ⟨EQ.nil _ _ _ _, EQ.nil _ _ _ _, EQ.nil _ _ _ _, ?_, EQ.nil _ _ _ _⟩, D6.out, R6.out⟩
   dsimp only
   rw [hcc.out, hw0.out]
   exact Q6.out
end Go.Proofs.Ytcempndfbckcaaa

namespace Go.Proofs.Ytcempndfbckcaaa
open Go.RowKit
theorem put_seq : ∀ q, q < 256 → putB 4 (q * 16777216) = putB 1 q ++ putB 3 0 := by decide +kernel
theorem firB_drop (L : List (Nat × Nat)) (k : Nat) (h : k < L.length) (hq : (L[k]).2 < 256) : firB (L.drop k) = putB 4 (L[k]).1 ++ (putB 1 (L[k]).2 ++ (putB 3 0 ++ firB (L.drop (k + 1)))) := by
 rw [List.drop_eq_getElem_cons h]
 unfold firB
 rw [List.map_cons, List.flatten_cons, wordsB_cons, wordsB_cons, wordsB_nil, List.append_nil, put_seq _ hq, List.append_assoc, List.append_assoc]
abbrev firC (s : Nat) (so : Option Addr) (k co : Nat) : Array Value := #[.int .i64 3, .int .u32 (s : Nat), .int .u32 0, .int .u64 0, .int .u32 0, .int .u32 0, .int .u32 0, .slice none 0 0, .slice none 0 0, .slice none 0 0, .slice none 0 0, .slice so k co, .int .u64 0]
set_option maxRecDepth 100000 in
set_option maxHeartbeats 8000000 in
theorem fir_ok (cnt s n : Nat) (hs : s < 4294967296) (L : List (Nat × Nat)) (hL : ∀ p ∈ L, p.1 < 4294967296 ∧ p.2 < 256) (hc : L.length = n) (hcn : n ≤ 16) (hn1 : 1 ≤ n) :
  ReadsTo 138 cnt (putB 4 s ++ (putB 4 0 ++ firB L)) ⟨3, s, 0, 0, 0, 0, 0, [], [], [], [], L, 0⟩ := by
 intro base g w hr
 have hlb := firB_len L
 have c1 := fun wz h => Lib.hid (bwordA base g cnt s (putB 4 0 ++ firB L) hs (by simp only [List.length_append, putB_len]; omega) wz h)
 have c2 := fun wz h => Lib.hid (show Calls Try.prog 144 #[.pointer (some ⟨g, 0, none⟩)] wz (fun e w' => e = .returned (.int .u32 0) ∧ BdV w' base g cnt (firB L) ∧ Still [g] wz w') from bwordA base g cnt 0 (firB L) (by decide) (by omega) wz h)
 have cneed := fun wz => Lib.hid (need_ok wz)
 have cc := fun k (hk : k ≤ 16) w => Lib.hid (counted_ok k hk w)
 have hlt := hr.lt
 have BA : BW w (w.alloc (.cells zctl 111)) := (BW.refl _).alloc
 have X1 := Lib.hid (HpB.new w (.cells zctl 111))
 have D1 := Lib.hid (hr.bw BA)
 have R1 := Lib.hid (BA.still [g])
 have hdz : firB (L.drop 0) = firB L := rfl
 have hst := fun k (h : k < L.length) => firB_drop L k h (hL _ (List.getElem_mem h)).2
 have hsn := fun k (h : k < L.length) => (List.take_succ_eq_append_getElem h)
 have hxx := fun k (h : k < L.length) => hL _ (List.getElem_mem h)
 have hwl := fun k => firB_len (L.drop k)
 have hfull : L.take n = L := by rw [← hc, List.take_length]
 have hend : firB (L.drop n) = [] := by rw [← hc, List.drop_length]; rfl
 have hcc := Lib.hid hc
 generalize hl0 : putB 4 s ++ _ = l0 at *
 generalize hl1 : putB 4 0 ++ _ = l1 at *
 clear hl0 hl1 hL hr hc hs hlb
 replace hst := Lib.hid hst
 replace hsn := Lib.hid hsn
 replace hxx := Lib.hid hxx
 replace hwl := Lib.hid hwl
 replace hfull := Lib.hid hfull
 replace hend := Lib.hid hend
 replace hdz := Lib.hid hdz
 go_enter Try.func138, Try.ntmps138
 go_upto_region 1 with (fail)
 generalize (w.alloc _) = w1 at *
 generalize hw0 : w.heap.size = g1 at *
 replace hw0 := Lib.hid hw0
 have hg1 : g1 ∉ [g] := by simp; omega
 clear BA
 go_wp2_with fail
 refine Calls.mono (c1 _ D1.out).out ?_
 rintro e w2 ⟨rfl, D2, T2⟩
 have X2 := Lib.hid (X1.out.st T2 hg1)
 have R2 := Lib.hid (R1.out.trans T2)
 have hlt3 := X2.out.lt
 clear D1 X1 R1 c1 T2
 dsimp only
 have BC : BW w2 (w2.alloc (.cells (firC s none 0 0) 111)) := (BW.refl _).alloc
 have Y3 := Lib.hid (HpB.new w2 (.cells (firC s none 0 0) 111))
 have X3 := Lib.hid (X2.out.bw BC)
 have k2 := c2 _ (D2.bw BC)
 have R3 := Lib.hid (R2.out.new BC)
 clear D2 X2 R2 c2
 replace BC := Lib.hid BC
 go_upto_region 2 with (fail)
 generalize (w2.alloc _) = w3 at *
 generalize w2.heap.size = g3 at *
 have hng : Hid (g3 ≠ g ∧ g1 ≠ g ∧ g3 ≠ g1 ∧ g1 < g3 ∧ g < g1) := by have := hw0.out; show _ ∧ _; omega
 clear BC
 go_wp2_with fail
 refine Calls.mono k2.out ?_
 rintro e w4 ⟨rfl, D4, T4⟩
 have X0 := Lib.hid (X3.out.st T4 hg1)
 have Y0 := Lib.hid (Y3.out.st T4 (by have := hng.out.1; simpa using this))
 have R0 := Lib.hid (R3.out.trans T4)
 have D0 := Lib.hid D4
 rw [← hdz.out] at D0
 clear D4 X3 Y3 R3 T4 k2
 dsimp only
 go_wp2_with fail
 refine Calls.mono (cneed w4).out ?_
 rintro e w' ⟨rfl, rfl⟩
 dsimp only
 go_upto_region 3 with (fail)
 go_loopg [] n (fun m' wx => ∃ (k : Nat) (so : Option Addr) (co : Nat), m' = n - k ∧ k ≤ n ∧ k ≤ co ∧ co ≤ 9223372036854775807 ∧ Hid (HpB wx g3 (.cells (firC s so k co) 111)) ∧ Hid (EQ EF 194 wx g1 (.slice so k co) k (L.take k)) ∧ Hid (BdV wx base g cnt (firB (L.drop k))) ∧ Hid (HpB wx g1 (.cells zctl 111)) ∧ Hid (Still [g] w wx))
 case atStart => exact ⟨0, none, 0, rfl, by omega, Nat.le_refl _, by omega, Y0, Lib.hid (EQ.nil _ _ _ _), D0, X0, R0⟩
 case round =>
  clear X0 Y0 D0 R0
  obtain ⟨k, so, co, rfl, hk, hkc, hco, Y, Q, D, X, R⟩ := hrel
  have z11 := (hp_cell Y.out 11).trans (show _ = some (.slice so k co) from rfl)
  by_cases hkn : k < n
  ·have hkl : k < L.length := by rw [hcc.out]; exact hkn
   have hs1 := hst.out k hkl
   have hn1 := hsn.out k hkl
   have hx1 := hxx.out k hkl
   have hl1 := hwl.out (k + 1)
   have hl0 := hwl.out k
   have hlk : (L.drop (k + 1)).length ≤ 16 := by rw [List.length_drop, hcc.out]; omega
   have hl2 : 0 < (firB (L.drop k)).length := by rw [hl0, List.length_drop, hcc.out]; omega
   generalize L[k] = x at *
   obtain ⟨xp, xq⟩ := x
   dsimp only at hs1 hx1 hn1
   have cw := fun wz h => Lib.hid (bwordA base g cnt xp (putB 1 xq ++ (putB 3 0 ++ firB (L.drop (k + 1)))) hx1.1 (by simp only [List.length_append, putB_len]; omega) wz h)
   rw [← hs1] at cw
   have cv := fun wz h => Lib.hid (show Calls Try.prog 145 #[.pointer (some ⟨g, 0, none⟩), .int .i64 1] wz (fun e w' => e = .returned (.int .u64 (xq : Nat)) ∧ BdV w' base g cnt (putB 3 0 ++ firB (L.drop (k + 1))) ∧ Still [g] wz w') from bnumA base g cnt 1 xq (putB 3 0 ++ firB (L.drop (k + 1))) (by decide) (by decide) (by omega) (by simp only [List.length_append, putB_len]; omega) wz h)
   have cu := fun wz h => Lib.hid (show Calls Try.prog 145 #[.pointer (some ⟨g, 0, none⟩), .int .i64 3] wz (fun e w' => e = .returned (.int .u64 0) ∧ BdV w' base g cnt (firB (L.drop (k + 1))) ∧ Still [g] wz w') from bnumA base g cnt 3 0 (firB (L.drop (k + 1))) (by decide) (by decide) (by decide) (by omega) wz h)
   have ck := fun w => cc (k + 1) (by omega) w
   have e2 : IntKind.u8.wrap (xq : Int) = (xq : Int) := IntWalk.u8_in _ (by omega)
   clear hl1 hlk hs1 hx1 hl0
   replace hn1 := Lib.hid hn1
   obtain ⟨sb, cb, H5, -, hcb, hmb⟩ := D.out.get
   unfold maxLen at hmb
   have z1 := (hp_cell H5 1).trans (show _ = some (.slice sb (firB (L.drop k)).length cb) from rfl)
   clear H5
   generalize (firB (L.drop k)).length = bl at *
   have d2 : decide ((0 : Int) < (bl : Int)) = true := by simp; omega
   rcases Bool.eq_false_or_eq_true ((k : Int) == 0) with d1 | d1
   all_goals
    go_upto_region 4 with (fail)
    clear d1 d2 z1 hl2 hcb hmb
    clear z11
    go_wp2_with fail
    refine Calls.mono (cw wr D.out).out ?_
    rintro e w5 ⟨rfl, D5, T5⟩
    have Y5 := Lib.hid (Y.out.st T5 (by have := hng.out.1; simpa using this))
    have X5 := Lib.hid (X.out.st T5 (by have := hng.out.2.1; simpa using this))
    have hgd := D.out.row
    have Q5 := Lib.hid (Q.out.still T5 (fun _ _ => trivial) (fun q hq hm => by obtain rfl : q = g := (by simpa using hm); obtain ⟨cs, hcs⟩ := hgd; exact Q.out.ne hcs (by decide) _ hq rfl))
    have R5 := Lib.hid (R.out.trans T5)
    have cva := cv w5 D5
    have hgd5 := D5.row
    clear T5 Y X Q R D cw hgd D5 cv
    dsimp only
    go_wp2_with fail
    refine Calls.mono cva.out ?_
    rintro e w6 ⟨rfl, D6, T6⟩
    have Y6 := Lib.hid (Y5.out.st T6 (by have := hng.out.1; simpa using this))
    have X6 := Lib.hid (X5.out.st T6 (by have := hng.out.2.1; simpa using this))
    have Q6 := Lib.hid (Q5.out.still T6 (fun _ _ => trivial) (fun q hq hm => by obtain rfl : q = g := (by simpa using hm); obtain ⟨cs, hcs⟩ := hgd5; exact Q5.out.ne hcs (by decide) _ hq rfl))
    have R6 := Lib.hid (R5.out.trans T6)
    clear T6 Y5 X5 Q5 R5 cva hgd5
    dsimp only
    have BF : BW w6 (w6.alloc (.cells #[.int .u32 (xp : Nat), .int .u8 (xq : Nat)] 194)) := (BW.refl _).alloc
    have F7 := Lib.hid (HpB.new w6 (.cells #[.int .u32 (xp : Nat), .int .u8 (xq : Nat)] 194))
    have hfg : Hid (g3 < w6.heap.size ∧ g < w6.heap.size) := ⟨Y6.out.lt, D6.lt⟩
    have Y7 := Lib.hid (Y6.out.bw BF)
    have X7 := Lib.hid (X6.out.bw BF)
    have Q7 := Lib.hid (Q6.out.bw BF)
    have R7 := Lib.hid (R6.out.trans (BF.still [g]))
    have hgd7 := (D6.bw BF).row
    have cua := cu _ (D6.bw BF)
    have hQo : Hid (∀ j, (Value.slice so k co).ownBlock = some j → j < w6.heap.size) := fun j hj => Q6.out.lt' j hj
    clear Y6 X6 Q6 R6 D6 cu
    replace BF := Lib.hid BF
    go_upto_region 5 with (fail)
    generalize (w6.alloc _) = w7 at *
    generalize w6.heap.size = g7 at *
    clear BF e2
    go_wp2_with fail
    refine Calls.mono cua.out ?_
    rintro e w8 ⟨rfl, D8, T8⟩
    have F8 := Lib.hid (F7.out.st T8 (by have := hfg.out; simp; omega))
    have Y8 := Lib.hid (Y7.out.st T8 (by have := hng.out.1; simpa using this))
    have X8 := Lib.hid (X7.out.st T8 (by have := hng.out.2.1; simpa using this))
    have Q8 := Lib.hid (Q7.out.still T8 (fun _ _ => trivial) (fun q hq hm => by obtain rfl : q = g := (by simpa using hm); obtain ⟨cs, hcs⟩ := hgd7; exact Q7.out.ne hcs (by decide) _ hq rfl))
    have R8 := Lib.hid (R7.out.trans T8)
    replace D8 := Lib.hid D8
    clear T8 F7 Y7 X7 Q7 R7 cua hgd7
    dsimp only
    go_wp2_with fail
    refine Calls.mono (cneed w8).out ?_
    rintro e w' ⟨rfl, rfl⟩
    dsimp only
    have BS : BW w8 (w8.alloc (.cells #[.int .u32 (xp : Nat), .int .u8 (xq : Nat)] 194)) := (BW.refl _).alloc
    have L9 := Lib.hid (Sls.new1 (E := EF) w8 194 [.int .u32 (xp : Nat), .int .u8 (xq : Nat)] rfl)
    have Y9 := Lib.hid (Y8.out.bw BS)
    have X9 := Lib.hid (X8.out.bw BS)
    have Q9 := Lib.hid (Q8.out.bw BS)
    have D9 := Lib.hid (D8.out.bw BS)
    have R9 := Lib.hid (R8.out.trans (BS.still [g]))
    have hz9 : g1 ≤ (w8.alloc (.cells #[.int .u32 (xp : Nat), .int .u8 (xq : Nat)] 194)).heap.size := by have := R9.out.size; have := hw0.out; omega
    have z11 := (hp_cell Y8.out 11).trans (show _ = some (.slice so k co) from rfl)
    have v0 := (hp_cell F8.out 0).trans (show _ = some (.int .u32 (xp : Nat)) from rfl)
    have v1 := (hp_cell F8.out 1).trans (show _ = some (.int .u8 (xq : Nat)) from rfl)
    clear Y8 X8 Q8 D8 R8 F8
    replace BS := Lib.hid BS
    go_upto_region 7 with (at_builtin; go_must (refine wpList_apEQ slEF rfl _ _ rfl g1 (.slice so k co) k (L.take k) rfl Q9.out _ rfl 1 [(xp, xq)] [.int .u32 (xp : Nat), .int .u8 (xq : Nat)] L9.out (EL.single rfl) rfl (by omega) hz9 (fun _ _ => trivial) ?_; intro s3 c3 w3 hc3 hm3 Q3 T3 hb3 G3; unfold maxLen at hm3; replace T3 : Still (Value.slice so k co).ownBlock.toList _ w3 := T3; have Y3 := Lib.hid (Y9.out.st T3 (fun hm => Q9.out.ne Y9.out (by decide) _ (by simpa using hm) rfl)); have X3 := Lib.hid (X9.out.st T3 (fun hm => Q9.out.ne X9.out (by decide) _ (by simpa using hm) rfl)); have D3 := Lib.hid (D9.out.st T3 (fun q hq => by obtain ⟨cs, hcs⟩ := Q9.out.row q (by simpa using hq); exact ⟨_, _, _, hcs, by decide, by decide⟩)); have R3 := Lib.hid (R9.out.fresh T3 (fun q hq => by have := Q9.out.ge' q (by simpa using hq); have := hw0.out; omega)); rw [← hn1.out] at Q3; replace Q3 := Lib.hid Q3; clear T3 hb3 G3 Y9 X9 D9 R9 Q9 L9 z11 v0 v1; have z9 := (hp_cell Y3.out 11).trans (show _ = some (.slice so k co) from rfl); have f9 := hp_frz Y3.out 11))
    clear z9 f9
    have TS := still_sc w3 g3 11 (.slice s3 (k + 1) c3)
    have Y4 : Hid (HpB (w3.setCell ⟨g3, 11, none⟩ (.slice s3 (k + 1) c3)) g3 (.cells (firC s s3 (k + 1) c3) 111)) := hp_set Y3.out 11 _
    have X4 := Lib.hid (X3.out.st TS (by have := hng.out; simp; omega))
    have D4 := Lib.hid (D3.out.st TS (fun q hq => by obtain rfl : q = g3 := (by simpa using hq); exact ⟨_, _, _, Y3.out, by decide, by decide⟩))
    have Q4 := Lib.hid (Q3.out.still TS (fun _ _ => trivial) (fun q hq hm => Q3.out.ne Y3.out (by decide) q hq (by simpa using hm)))
    have R4 := Lib.hid (R3.out.fresh TS (fun q hq => by obtain rfl : q = g3 := (by simpa using hq); have := hw0.out; have := hng.out; omega))
    clear TS Y3 X3 D3 Q3 R3
    generalize (w3.setCell _ _) = w5 at *
    have z11 := (hp_cell Y4.out 11).trans (show _ = some (.slice s3 (k + 1) c3) from rfl)
    go_wp2_with fail
    refine Calls.mono (ck w5).out ?_
    rintro e w' ⟨rfl, rfl⟩
    dsimp only
    clear z11
    go_wp2_with fail
    go_roundg (n - (k + 1))
    case measure => omega
    case rel => exact ⟨k + 1, s3, c3, rfl, by omega, by omega, by omega, Y4, Q4, D4, X4, R4⟩
  ·obtain rfl : k = n := by omega
   have d1 : ((k : Int) == 0) = false := by simp; omega
   have Q2 := Q.out
   have D2 := D.out
   rw [hfull.out] at Q2
   rw [hend.out] at D2
   obtain ⟨sb, cb, H5, -, -, -⟩ := D2.get
   have z1 := (hp_cell H5 1).trans (show _ = some (.slice sb 0 cb) from rfl)
   clear H5
   replace Q2 := Lib.hid Q2
   replace D2 := Lib.hid D2
   go_upto_region 8 with (fail)
   clear z11 z1 d1
   have u0 := hp_cell (Y.out) 0
   have u1 := hp_cell (Y.out) 1
   have u2 := hp_cell (Y.out) 2
   have u3 := hp_cell (Y.out) 3
   have u4 := hp_cell (Y.out) 4
   have u5 := hp_cell (Y.out) 5
   have u6 := hp_cell (Y.out) 6
   have u7 := hp_cell (Y.out) 7
   have u8 := hp_cell (Y.out) 8
   have u9 := hp_cell (Y.out) 9
   have u10 := hp_cell (Y.out) 10
   have u11 := hp_cell (Y.out) 11
   have u12 := hp_cell (Y.out) 12
   simp only [List.getElem?_toArray, List.getElem?_cons_zero, List.getElem?_cons_succ] at u0 u1 u2 u3 u4 u5 u6 u7 u8 u9 u10 u11 u12
   have z0 := hp_cell (X.out) 0
   have y0 := hp_frz (X.out) 0
   have z1 := hp_cell (X.out) 1
   have y1 := hp_frz (X.out) 1
   have z2 := hp_cell (X.out) 2
   have y2 := hp_frz (X.out) 2
   have z3 := hp_cell (X.out) 3
   have y3 := hp_frz (X.out) 3
   have z4 := hp_cell (X.out) 4
   have y4 := hp_frz (X.out) 4
   have z5 := hp_cell (X.out) 5
   have y5 := hp_frz (X.out) 5
   have z6 := hp_cell (X.out) 6
   have y6 := hp_frz (X.out) 6
   have z7 := hp_cell (X.out) 7
   have y7 := hp_frz (X.out) 7
   have z8 := hp_cell (X.out) 8
   have y8 := hp_frz (X.out) 8
   have z9 := hp_cell (X.out) 9
   have y9 := hp_frz (X.out) 9
   have z10 := hp_cell (X.out) 10
   have y10 := hp_frz (X.out) 10
   have z11 := hp_cell (X.out) 11
   have y11 := hp_frz (X.out) 11
   have z12 := hp_cell (X.out) 12
   have y12 := hp_frz (X.out) 12
   simp only [List.getElem?_toArray, List.getElem?_cons_zero, List.getElem?_cons_succ] at z0 z1 z2 z3 z4 z5 z6 z7 z8 z9 z10 z11 z12
   have TS := still_st13 wr g1 (.int .i64 3) (.int .u32 (s : Nat)) (.int .u32 0) (.int .u64 0) (.int .u32 0) (.int .u32 0) (.int .u32 0) (.slice none 0 0) (.slice none 0 0) (.slice none 0 0) (.slice none 0 0) (.slice so k co) (.int .u64 0)
   have D6 := Lib.hid (D2.out.st TS (fun q hq => by obtain rfl : q = g1 := (by simpa using hq); exact ⟨_, _, _, X.out, by decide, by decide⟩))
   have Q6 := Lib.hid (Q2.out.still TS (fun _ _ => trivial) (fun q hq hm => Q2.out.ne X.out (by decide) q hq (by simpa using hm)))
   have R6 := Lib.hid (R.out.fresh TS (fun q hq => by obtain rfl : q = g1 := (by simpa using hq); have := hw0.out; omega))
   have X6 := Lib.hid (HpB.st13 X.out rfl (.int .i64 3) (.int .u32 (s : Nat)) (.int .u32 0) (.int .u64 0) (.int .u32 0) (.int .u32 0) (.int .u32 0) (.slice none 0 0) (.slice none 0 0) (.slice none 0 0) (.slice none 0 0) (.slice so k co) (.int .u64 0))
   clear D Q R TS Y X D2 Q2
   go_wp2_with fail
   refine bodyPost_ret (results_cell_row (p := 2) rfl _ _ g1 _ _ _ _ rfl X6.out Try.underlying111 rfl (by kernel_rfl)) rfl ?_
   refine ⟨.slice none 0 0, .slice none 0 0, .slice none 0 0, .slice none 0 0, .slice so k co, rfl, ⟨EQ.nil _ _ _ _, EQ.nil _ _ _ _, EQ.nil _ _ _ _, EQ.nil _ _ _ _, ?_⟩, D6.out, R6.out⟩
   dsimp only
   rw [hcc.out, hw0.out]
   exact Q6.out
end Go.Proofs.Ytcempndfbckcaaa

namespace Go.Proofs.Ytcempndfbckcaaa
open Go.RowKit
theorem and18 (p m : Nat) (hp : p ≤ 46) (hm : m < 262144) : bits .and .u64 ((p * 262144 + m : Nat) : Int) 262143 = (m : Int) := by
 refine (u64_and_nat (p * 262144 + m) 262143 (by omega) (by omega)).trans ?_
 rw [show 262143 = 2 ^ 18 - 1 from rfl, Nat.and_two_pow_sub_one_eq_mod, show 2 ^ 18 = 262144 from rfl]
 omega
theorem bitLen_fit (m p x : Nat) (h : m * 2 ^ p = x) (hx : x < 9223372036854775808) (h0 : bitLen m ≠ 0) : bitLen m + p ≤ 63 := by
 have hm : m ≠ 0 := by
  rintro rfl
  exact h0 rfl
 have h1 := (bitLen_spec m).2 hm
 have h2 : 2 ^ (bitLen m - 1) * 2 ^ p ≤ m * 2 ^ p := Nat.mul_le_mul_right _ h1
 rw [← Nat.pow_add, h] at h2
 refine Decidable.byContradiction fun hno => ?_
 have h3 : 2 ^ 63 ≤ 2 ^ (bitLen m - 1 + p) := Nat.pow_le_pow_right (by decide) (by omega)
 have h4 : (2 : Nat) ^ 63 = 9223372036854775808 := by decide
 omega
abbrev rembC (s rt : Nat) (so : Option Addr) (k co : Nat) : Array Value := #[.int .i64 4, .int .u32 (s : Nat), .int .u32 0, .int .u64 0, .int .u32 0, .int .u32 0, .int .u32 0, .slice none 0 0, .slice none 0 0, .slice so k co, .slice none 0 0, .slice none 0 0, .int .u64 (rt : Nat)]
set_option maxRecDepth 100000 in
set_option maxHeartbeats 8000000 in
theorem remb_ok (cnt s rt n : Nat) (hs : s < 4294967296) (L : List Nat) (hL : ∀ x ∈ L, x < 4294967296) (hc : L.length = n) (hcn : n ≤ 16) (hrt : rateB rt = true) :
  ReadsTo 139 cnt (putB 4 s ++ (putB 4 0 ++ ([82, 69, 77, 66] ++ (putB 1 n ++ (putB 3 (expN rt * 262144 + manN rt) ++ wordsB L))))) ⟨4, s, 0, 0, 0, 0, 0, [], [], L, [], [], rt⟩ := by
 intro base g w hr
 have hlb := wordsB_len L
 obtain ⟨hrb, hrx⟩ := of_decide_eq_true hrt
 have hml := manN_lt rt
 have hpl := expN_le rt (by omega)
 have hand := and18 (expN rt) (manN rt) hpl hml
 have hfit := bitLen_fit (manN rt) (expN rt) rt hrb hrx
 have cL := fun wz => Lib.hid (len64_ok (manN rt) (by omega) wz)
 have hshr : (((expN rt * 262144 + manN rt : Nat) : Int)) / 262144 = (expN rt : Int) := by omega
 have e57 : Hid (IntKind.u64.wrap ((manN rt : Int) * 2 ^ expN rt) = (rt : Int)) := by
  have h1 : ((manN rt : Int) * 2 ^ expN rt) = ((manN rt * 2 ^ expN rt : Nat) : Int) := by push_cast; rfl
  show _ = _
  rw [h1, hrb, IntKind.wrap_u64]
  omega
 have hX : expN rt * 262144 + manN rt < 256 ^ 3 := by omega
 generalize expN rt * 262144 + manN rt = X at *
 generalize manN rt = mn at *
 generalize expN rt = ex at *
 have hbl64 : bitLen mn ≤ 18 := by
  unfold bitLen
  split
  ·omega
  ·rename_i h
   have : mn.log2 < 18 := (Nat.log2_lt h).2 hml
   omega
 generalize bitLen mn = bl at *
 have c1 := fun wz h => Lib.hid (bwordA base g cnt s (putB 4 0 ++ ([82, 69, 77, 66] ++ (putB 1 n ++ (putB 3 X ++ wordsB L)))) hs (by simp only [List.length_append, putB_len, List.length_cons, List.length_nil]; omega) wz h)
 have c2 := fun wz h => Lib.hid (show Calls Try.prog 144 #[.pointer (some ⟨g, 0, none⟩)] wz (fun e w' => e = .returned (.int .u32 0) ∧ BdV w' base g cnt ([82, 69, 77, 66] ++ (putB 1 n ++ (putB 3 X ++ wordsB L))) ∧ Still [g] wz w') from bwordA base g cnt 0 ([82, 69, 77, 66] ++ (putB 1 n ++ (putB 3 X ++ wordsB L))) (by decide) (by simp only [List.length_append, putB_len, List.length_cons, List.length_nil]; omega) wz h)
 have c3 := fun wz h => Lib.hid (show Calls Try.prog 145 #[.pointer (some ⟨g, 0, none⟩), .int .i64 1] wz (fun e w' => e = .returned (.int .u64 (n : Nat)) ∧ BdV w' base g cnt (putB 3 X ++ wordsB L) ∧ Still [g] wz w') from bnumA base g cnt 1 n (putB 3 X ++ wordsB L) (by decide) (by decide) (by omega) (by simp only [List.length_append, putB_len]; omega) wz h)
 have c4 := fun wz h => Lib.hid (show Calls Try.prog 145 #[.pointer (some ⟨g, 0, none⟩), .int .i64 3] wz (fun e w' => e = .returned (.int .u64 (X : Nat)) ∧ BdV w' base g cnt (wordsB L) ∧ Still [g] wz w') from bnumA base g cnt 3 X (wordsB L) (by decide) (by decide) hX (by omega) wz h)
 have cneed := fun wz => Lib.hid (need_ok wz)
 have cc := fun w => Lib.hid (counted_ok n hcn w)
 have hlt := hr.lt
 have hTl : Hid (([82, 69, 77, 66] ++ (putB 1 n ++ (putB 3 X ++ wordsB L))).length = 8 + 4 * n) := by
  show _ = _
  simp only [List.length_append, putB_len, List.length_cons, List.length_nil]; omega
 have htk : Hid (([82, 69, 77, 66] ++ (putB 1 n ++ (putB 3 X ++ wordsB L))).take 4 = [82, 69, 77, 66]) := Lib.hid (List.take_left' rfl)
 have hdk : Hid (([82, 69, 77, 66] ++ (putB 1 n ++ (putB 3 X ++ wordsB L))).drop 4 = putB 1 n ++ (putB 3 X ++ wordsB L)) := Lib.hid (List.drop_left' rfl)
 have hT2 : Hid ((putB 1 n ++ (putB 3 X ++ wordsB L)).length = 4 + 4 * n) := by
  show _ = _
  simp only [List.length_append, putB_len]; omega
 have BA : BW w (w.alloc (.cells zctl 111)) := (BW.refl _).alloc
 have X1 := Lib.hid (HpB.new w (.cells zctl 111))
 have D1 := Lib.hid (hr.bw BA)
 have R1 := Lib.hid (BA.still [g])
 have hdz : wordsB (L.drop 0) = wordsB L := rfl
 have hst := fun k (h : k < L.length) => wordsB_drop L k h
 have hsn := fun k (h : k < L.length) => (List.take_succ_eq_append_getElem h)
 have hxx := fun k (h : k < L.length) => hL _ (List.getElem_mem h)
 have hwl := fun k => wordsB_len (L.drop k)
 have hfull : L.take n = L := by rw [← hc, List.take_length]
 have hend : wordsB (L.drop n) = [] := by rw [← hc, List.drop_length]; rfl
 have hcc := Lib.hid hc
 generalize hl0 : putB 4 s ++ _ = l0 at *
 generalize hl1 : putB 4 0 ++ _ = l1 at *
 generalize hl2 : [82, 69, 77, 66] ++ _ = l2 at *
 generalize hl3 : putB 1 n ++ _ = l3 at *
 generalize hl4 : putB 3 X ++ _ = l4 at *
 have hXb : (X : Int) ≤ 16777215 := by omega
 have hnb : (n : Int) ≤ 16 := by omega
 have hexb : (ex : Int) ≤ 46 := by omega
 have hblb : (bl : Int) ≤ 18 := by omega
 clear hl0 hl1 hl2 hl3 hl4 hL hr hc hs hlb hrb hrx hrt hX hml
 replace hst := Lib.hid hst
 replace hsn := Lib.hid hsn
 replace hxx := Lib.hid hxx
 replace hwl := Lib.hid hwl
 replace hfull := Lib.hid hfull
 replace hend := Lib.hid hend
 replace hdz := Lib.hid hdz
 replace hfit := Lib.hid hfit
 go_enter Try.func139, Try.ntmps139
 go_upto_region 1 with (fail)
 generalize (w.alloc _) = w1 at *
 generalize hw0 : w.heap.size = g1 at *
 replace hw0 := Lib.hid hw0
 have hg1 : g1 ∉ [g] := by simp; omega
 clear BA
 go_wp2_with fail
 refine Calls.mono (c1 _ D1.out).out ?_
 rintro e w2 ⟨rfl, D2, T2⟩
 have X2 := Lib.hid (X1.out.st T2 hg1)
 have R2 := Lib.hid (R1.out.trans T2)
 have hlt3 := X2.out.lt
 clear D1 X1 R1 c1 T2
 dsimp only
 have BC : BW w2 (w2.alloc (.cells (rembC s 0 none 0 0) 111)) := (BW.refl _).alloc
 have Y3 := Lib.hid (HpB.new w2 (.cells (rembC s 0 none 0 0) 111))
 have X3 := Lib.hid (X2.out.bw BC)
 have k2 := c2 _ (D2.bw BC)
 have R3 := Lib.hid (R2.out.new BC)
 clear D2 X2 R2 c2
 replace BC := Lib.hid BC
 go_upto_region 2 with (fail)
 generalize (w2.alloc _) = w3 at *
 generalize w2.heap.size = g3 at *
 have hng : Hid (g3 ≠ g ∧ g1 ≠ g ∧ g3 ≠ g1 ∧ g1 < g3 ∧ g < g1) := by have := hw0.out; show _ ∧ _; omega
 clear BC
 go_wp2_with fail
 refine Calls.mono k2.out ?_
 rintro e w4 ⟨rfl, D4, T4⟩
 have X4 := Lib.hid (X3.out.st T4 hg1)
 have Y4 := Lib.hid (Y3.out.st T4 (by have := hng.out.1; simpa using this))
 have R4 := Lib.hid (R3.out.trans T4)
 clear X3 Y3 R3 T4 k2
 dsimp only
 go_wp2_with fail
 refine Calls.mono (cneed w4).out ?_
 rintro e w' ⟨rfl, rfl⟩
 dsimp only
 obtain ⟨sb, cb, H5, O5, hcb, hmb⟩ := D4.get
 unfold maxLen at hmb
 rw [hTl.out] at H5 O5 hcb
 have V5 := O5.sb.takeH 4 (by omega)
 rw [htk.out] at V5
 have cvs : (convert 36 9 (.slice sb 4 cb)).run Try.prog w4 = .ok (.string ⟨#[82, 69, 77, 66]⟩) w4 := conv_sb V5
 have hcH := fun w => run_cut_h (P := Try.prog) Try.underlying36 info_u8 sb (8 + 4 * n) cb 4 4 rfl .i64 (by omega) w
 have hcL := fun w => run_cut_l (P := Try.prog) Try.underlying36 info_u8 sb (8 + 4 * n) cb 4 4 rfl .i64 (by omega) w
 have O8 := O5.cut 4 (8 + 4 * n) cb (by omega) (Nat.le_refl _) hcb (Nat.le_refl _)
 have eT : (l2.drop 4).take (8 + 4 * n - 4) = l3 := by
  rw [hdk.out]
  exact List.take_of_length_le (by have := hT2.out; omega)
 rw [eT] at O8
 have hTn : 8 + 4 * n - 4 = l3.length := by have := hT2.out; omega
 have z1 := (hp_cell H5 1).trans (show _ = some (.slice sb (8 + 4 * n) cb) from rfl)
 have f1 := hp_frz H5 1
 have H9 := hp_set H5 1 (.slice (cutA sb 4 cb 1) (8 + 4 * n - 4) (cb - 4))
 have T9 := still_scB w4 g 1 (.slice (cutA sb 4 cb 1) (8 + 4 * n - 4) (cb - 4))
 have O9 := O8.still T9 (fun k hk => O8.2.2.ne H5 (by decide) k hk |> fun h hm => h (by simpa using hm))
 have X9 := Lib.hid (X4.out.st T9 hg1)
 have Y9 := Lib.hid (Y4.out.st T9 (by have := hng.out.1; simpa using this))
 have R9 := Lib.hid (R4.out.trans T9)
 have D9 : Hid (BdV (w4.setCell ⟨g, 1, none⟩ (.slice (cutA sb 4 cb 1) (8 + 4 * n - 4) (cb - 4))) base g cnt l3) := ⟨_, H9, by rw [← hTn]; exact O9⟩
 have d4 : decide ((4 : Int) ≤ ((8 + 4 * n : Nat) : Int)) = true := decide_eq_true (by omega)
 generalize 8 + 4 * n - 4 = q4 at *
 generalize 8 + 4 * n = q8 at *
 clear X4 Y4 R4 D4 O5 V5 O8 O9 H5 H9 T9 eT hTn
 go_upto_region 4 with (fail)
 refine Calls.mono (cneed w4).out ?_
 rintro e w' ⟨rfl, rfl⟩
 dsimp only
 clear cvs hcH d4
 go_upto_region 5 with (fail)
 clear z1 f1 hcL
 generalize (w4.setCell _ _) = w5 at *
 have c3a := c3 w5 D9.out
 clear c3 D9
 go_wp2_with fail
 refine Calls.mono c3a.out ?_
 rintro e w6 ⟨rfl, D6, T6⟩
 have X6 := Lib.hid (X9.out.st T6 hg1)
 have Y6 := Lib.hid (Y9.out.st T6 (by have := hng.out.1; simpa using this))
 have R6 := Lib.hid (R9.out.trans T6)
 have c4a := c4 w6 D6
 clear c3a X9 Y9 R9 T6 c4 D6
 dsimp only
 go_wp2_with fail
 refine Calls.mono (cc w6).out ?_
 rintro e w' ⟨rfl, rfl⟩
 dsimp only
 go_wp2_with fail
 refine Calls.mono c4a.out ?_
 rintro e w7 ⟨rfl, D7, T7⟩
 have X7 := Lib.hid (X6.out.st T7 hg1)
 have Y7 := Lib.hid (Y6.out.st T7 (by have := hng.out.1; simpa using this))
 have R7 := Lib.hid (R6.out.trans T7)
 replace D7 := Lib.hid D7
 clear c4a X6 Y6 R6 T7 cc
 dsimp only
 go_wp2_with fail
 refine Calls.mono (cL w7).out ?_
 rintro e w' ⟨rfl, rfl⟩
 dsimp only
 clear hand hshr
 have TS := still_sc w7 g3 12 (.int .u64 (rt : Nat))
 have z12 := (hp_cell Y7.out 12).trans (show _ = some (.int .u64 0) from rfl)
 have f12 := hp_frz Y7.out 12
 have Y0 : Hid (HpB (w7.setCell ⟨g3, 12, none⟩ (.int .u64 (rt : Nat))) g3 (.cells (rembC s rt none 0 0) 111)) := hp_set Y7.out 12 _
 have X0 := Lib.hid (X7.out.st TS (by have := hng.out; simp; omega))
 have D0 := Lib.hid (D7.out.st TS (fun q hq => by obtain rfl : q = g3 := (by simpa using hq); exact ⟨_, _, _, Y7.out, by decide, by decide⟩))
 have R0 := Lib.hid (R7.out.fresh TS (fun q hq => by obtain rfl : q = g3 := (by simpa using hq); have := hw0.out; have := hng.out; omega))
 rw [← hdz.out] at D0
 clear TS X7 Y7 R7 D7
 have e5 := e57.out
 clear e57
 have hdec : ((bl : Int) == 0) = true ∨ (((bl : Int) == 0) = false ∧ decide ((bl : Int) + (ex : Int) ≤ 63) = true) := by
  by_cases hb0 : bl = 0
  ·left; simp; omega
  ·right
   have hf := hfit.out hb0
   exact ⟨by simp; omega, decide_eq_true (by omega)⟩
 clear hfit
 rcases hdec with db | ⟨db, df⟩
 rotate_left
 go_wp2_with fail
 refine Calls.mono (cL w7).out ?_
 rintro e w' ⟨rfl, rfl⟩
 dsimp only
 all_goals
  clear cL
  go_wp2_with fail
  refine Calls.mono (cneed w7).out ?_
  rintro e w' ⟨rfl, rfl⟩
  dsimp only
  go_upto_region 10 with (fail)
  clear z12 f12 e5 cneed
  generalize (w7.setCell _ _) = w8 at *
  go_upto_region 11 with (fail)
  go_loopg [66] n (fun m' a wx => ∃ (k : Nat) (so : Option Addr) (co : Nat), m' = n - k ∧ k ≤ n ∧ a = .int .i64 (k : Nat) ∧ k ≤ co ∧ co ≤ 9223372036854775807 ∧ Hid (HpB wx (g3) (.cells (rembC s rt so k co) 111)) ∧ Hid (EQ ES 73 wx g1 (.slice so k co) k (L.take k)) ∧ Hid (BdV wx base g cnt (wordsB (L.drop k))) ∧ Hid (HpB wx g1 (.cells zctl 111)) ∧ Hid (Still [g] w wx))
  case atStart => exact ⟨0, none, 0, rfl, by omega, rfl, Nat.le_refl _, by omega, Y0, Lib.hid (EQ.nil _ _ _ _), D0, X0, R0⟩
  case round =>
   clear X0 Y0 D0 R0
   obtain ⟨k, so, co, rfl, hk, rfl, hkc, hco, Y, Q, D, X, R⟩ := hrel
   by_cases hkn : k < n
   ·have d : decide ((k : Int) < (n : Int)) = true := by simp; omega
    have hkl : k < L.length := by rw [hcc.out]; exact hkn
    have hs1 := hst.out k hkl
    have hn1 := hsn.out k hkl
    have hx1 := hxx.out k hkl
    have hl1 := hwl.out (k + 1)
    have hlk : (L.drop (k + 1)).length ≤ 16 := by rw [List.length_drop, hcc.out]; omega
    generalize L[k] = x at *
    have cw := fun wz h => Lib.hid (bwordA base g cnt x (wordsB (L.drop (k + 1))) hx1 (by omega) wz h)
    rw [← hs1] at cw
    clear hl1 hlk hs1 hx1
    replace hn1 := Lib.hid hn1
    go_upto_region 12 with (fail)
    have l9 : ∀ y : LaterS [g] wr, y.now.cell? ⟨g3, 9, none⟩ = some (.slice so k co) := fun y => y.cell ((hp_cell Y.out 9).trans rfl) (by have := hng.out.1; simpa using this)
    refine wp_region_gg ([g]) [3] [5] (by kernel_rfl) ?_
    refine hoist ([g]) [] (a1 := ?_) 0 rfl (by kernel_rfl) (.inr rfl) rfl rfl rfl (fun x K hK => ?_) ?_
    rotate_left
    ·go_big_quiet_op
     exact hK
    refine hoist ([g]) [] (a1 := ?_) 1 rfl (by kernel_rfl) (.inr rfl) rfl rfl rfl (fun x K hK => ?_) ?_
    rotate_left
    ·go_big_quiet_op
     exact hK
    refine hoist [] [3] (a1 := ?_) 2 rfl (by kernel_rfl) (.inl ⟨rfl, rfl⟩) rfl rfl rfl (fun x K hK => ?_) ?_
    rotate_left
    ·go_big_quiet_op
     exact hK
    refine effect 3 rfl (by kernel_rfl) (by kernel_rfl) rfl (fun x3 K hK => ?_)
    go_simp
    refine Calls.mono (cw x3.now (D.out.bw x3.bw)).out ?_
    rintro e w7 ⟨rfl, D7, T7⟩
    refine hK _ _ T7 ?_
    clear hK K
    have Y7 := Lib.hid ((Y.out.bw x3.bw).st T7 (by have := hng.out.1; simpa using this))
    have X7 := Lib.hid ((X.out.bw x3.bw).st T7 (by have := hng.out.2.1; simpa using this))
    have hgd := D.out.row
    have Q7 := Lib.hid ((Q.out.bw x3.bw).still T7 (fun _ _ => trivial) (fun q hq hm => by obtain rfl : q = g := (by simpa using hm); obtain ⟨cs, hcs⟩ := hgd; exact Q.out.ne hcs (by decide) _ hq rfl))
    have R7 := Lib.hid ((R.out.trans (x3.bw.still [g])).trans T7)
    replace D7 := Lib.hid D7
    clear T7 Y X Q R D cw l9 hgd
    try simp only [Act.put, List.setIfInBounds_toArray, List.set_cons_succ, List.set_cons_zero]
    refine effect 4 rfl (by kernel_rfl) (by kernel_rfl) rfl (fun x4 K hK => ?_)
    go_simp
    refine hK _ _ (Still.of_below ((Below.refl _ _).alloc (Nat.le_refl _) _)) ?_
    clear hK K
    have hb := x4.bw.trans ((BW.refl x4.now).alloc (o := .cells #[.int .u32 (x : Nat)] 73))
    have L8 := Lib.hid (Sls.new1 (E := ES) x4.now 73 [.int .u32 (x : Nat)] rfl)
    have Y8 := Lib.hid (Y7.out.bw hb)
    have X8 := Lib.hid (X7.out.bw hb)
    have Q8 := Lib.hid (Q7.out.bw hb)
    have D8 := Lib.hid (D7.out.bw hb)
    have R8 := Lib.hid (R7.out.trans (hb.still [g]))
    clear hb Y7 X7 Q7 D7 R7
    generalize (x4.now.alloc _) = w8 at *
    generalize x4.now.heap.size = g8 at *
    try simp only [Act.put, List.setIfInBounds_toArray, List.set_cons_succ, List.set_cons_zero]
    refine tail 5 rfl (by kernel_rfl) rfl (fun xr => ?_)
    simp only [List.drop_succ_cons, List.drop_zero]
    have L9 := Lib.hid (L8.out.bw xr.bw)
    have Y9 := Lib.hid (Y8.out.bw xr.bw)
    have X9 := Lib.hid (X8.out.bw xr.bw)
    have Q9 := Lib.hid (Q8.out.bw xr.bw)
    have D9 := Lib.hid (D8.out.bw xr.bw)
    have R9 := Lib.hid (R8.out.trans (xr.bw.still [g]))
    clear L8 Y8 X8 Q8 D8 R8
    generalize xr.now = w9 at *
    have hz9 : g1 ≤ w9.heap.size := by have := R9.out.size; have := hw0.out; omega
    go_upto_region 13 with (at_builtin; go_must (refine wpList_apEQ slES rfl _ _ rfl g1 (.slice so k co) k (L.take k) rfl Q9.out _ rfl 1 [x] [.int .u32 (x : Nat)] L9.out (EL.single rfl) rfl (by omega) hz9 (fun _ _ => trivial) ?_; intro s3 c3 w3 hc3 hm3 Q3 T3 hb3 G3; unfold maxLen at hm3; replace T3 : Still (Value.slice so k co).ownBlock.toList _ w3 := T3; have Y3 := Lib.hid (Y9.out.st T3 (fun hm => Q9.out.ne Y9.out (by decide) _ (by simpa using hm) rfl)); have X3 := Lib.hid (X9.out.st T3 (fun hm => Q9.out.ne X9.out (by decide) _ (by simpa using hm) rfl)); have D3 := Lib.hid (D9.out.st T3 (fun q hq => by obtain ⟨cs, hcs⟩ := Q9.out.row q (by simpa using hq); exact ⟨_, _, _, hcs, by decide, by decide⟩)); have R3 := Lib.hid (R9.out.fresh T3 (fun q hq => by have := Q9.out.ge' q (by simpa using hq); have := hw0.out; omega)); rw [← hn1.out] at Q3; replace Q3 := Lib.hid Q3; clear T3 hb3 G3 Y9 X9 D9 R9 Q9 L9; have z9 := (hp_cell Y3.out 9).trans (show _ = some (.slice so k co) from rfl); have f9 := hp_frz Y3.out 9))
    clear z9 f9
    have TS := still_sc w3 (g3) 9 (.slice s3 (k + 1) c3)
    have Y4 : Hid (HpB (w3.setCell ⟨g3, 9, none⟩ (.slice s3 (k + 1) c3)) (g3) (.cells (rembC s rt s3 (k + 1) c3) 111)) := hp_set Y3.out 9 _
    have X4 := Lib.hid (X3.out.st TS (by have := hng.out; simp; omega))
    have D4 := Lib.hid (D3.out.st TS (fun q hq => by obtain rfl : q = g3 := (by simpa using hq); exact ⟨_, _, _, Y3.out, by decide, by decide⟩))
    have Q4 := Lib.hid (Q3.out.still TS (fun _ _ => trivial) (fun q hq hm => Q3.out.ne Y3.out (by decide) q hq (by simpa using hm)))
    have R4 := Lib.hid (R3.out.fresh TS (fun q hq => by obtain rfl : q = g3 := (by simpa using hq); have := hw0.out; have := hng.out; omega))
    clear TS Y3 X3 D3 Q3 R3
    go_wp2_with fail
    go_roundg (n - (k + 1))
    case measure => omega
    case rel => exact ⟨k + 1, s3, c3, rfl, by omega, by push_cast; rfl, by omega, by omega, Y4, Q4, D4, X4, R4⟩
   ·obtain rfl : k = n := by omega
    have d : decide ((k : Int) < (k : Int)) = false := by simp
    have Q2 := Q.out
    have D2 := D.out
    rw [hfull.out] at Q2
    rw [hend.out] at D2
    replace Q2 := Lib.hid Q2
    replace D2 := Lib.hid D2
    have u0 := hp_cell (Y.out) 0
    have u1 := hp_cell (Y.out) 1
    have u2 := hp_cell (Y.out) 2
    have u3 := hp_cell (Y.out) 3
    have u4 := hp_cell (Y.out) 4
    have u5 := hp_cell (Y.out) 5
    have u6 := hp_cell (Y.out) 6
    have u7 := hp_cell (Y.out) 7
    have u8 := hp_cell (Y.out) 8
    have u9 := hp_cell (Y.out) 9
    have u10 := hp_cell (Y.out) 10
    have u11 := hp_cell (Y.out) 11
    have u12 := hp_cell (Y.out) 12
    simp only [List.getElem?_toArray, List.getElem?_cons_zero, List.getElem?_cons_succ] at u0 u1 u2 u3 u4 u5 u6 u7 u8 u9 u10 u11 u12
    have z0 := hp_cell (X.out) 0
    have y0 := hp_frz (X.out) 0
    have z1 := hp_cell (X.out) 1
    have y1 := hp_frz (X.out) 1
    have z2 := hp_cell (X.out) 2
    have y2 := hp_frz (X.out) 2
    have z3 := hp_cell (X.out) 3
    have y3 := hp_frz (X.out) 3
    have z4 := hp_cell (X.out) 4
    have y4 := hp_frz (X.out) 4
    have z5 := hp_cell (X.out) 5
    have y5 := hp_frz (X.out) 5
    have z6 := hp_cell (X.out) 6
    have y6 := hp_frz (X.out) 6
    have z7 := hp_cell (X.out) 7
    have y7 := hp_frz (X.out) 7
    have z8 := hp_cell (X.out) 8
    have y8 := hp_frz (X.out) 8
    have z9 := hp_cell (X.out) 9
    have y9 := hp_frz (X.out) 9
    have z10 := hp_cell (X.out) 10
    have y10 := hp_frz (X.out) 10
    have z11 := hp_cell (X.out) 11
    have y11 := hp_frz (X.out) 11
    have z12 := hp_cell (X.out) 12
    have y12 := hp_frz (X.out) 12
    simp only [List.getElem?_toArray, List.getElem?_cons_zero, List.getElem?_cons_succ] at z0 z1 z2 z3 z4 z5 z6 z7 z8 z9 z10 z11 z12
    have TS := still_st13 wr g1 (.int .i64 4) (.int .u32 (s : Nat)) (.int .u32 0) (.int .u64 0) (.int .u32 0) (.int .u32 0) (.int .u32 0) (.slice none 0 0) (.slice none 0 0) (.slice so k co) (.slice none 0 0) (.slice none 0 0) (.int .u64 (rt : Nat))
    have D6 := Lib.hid (D2.out.st TS (fun q hq => by obtain rfl : q = g1 := (by simpa using hq); exact ⟨_, _, _, X.out, by decide, by decide⟩))
    have Q6 := Lib.hid (Q2.out.still TS (fun _ _ => trivial) (fun q hq hm => Q2.out.ne X.out (by decide) q hq (by simpa using hm)))
    have R6 := Lib.hid (R.out.fresh TS (fun q hq => by obtain rfl : q = g1 := (by simpa using hq); have := hw0.out; omega))
    have X6 := Lib.hid (HpB.st13 X.out rfl (.int .i64 4) (.int .u32 (s : Nat)) (.int .u32 0) (.int .u64 0) (.int .u32 0) (.int .u32 0) (.int .u32 0) (.slice none 0 0) (.slice none 0 0) (.slice so k co) (.slice none 0 0) (.slice none 0 0) (.int .u64 (rt : Nat)))
    clear D Q R TS Y X D2 Q2
    go_wp2_with fail
    refine bodyPost_ret (results_cell_row (p := 2) rfl _ _ g1 _ _ _ _ rfl X6.out Try.underlying111 rfl (by kernel_rfl)) rfl ?_
    refine ⟨.slice none 0 0, .slice none 0 0, .slice so k co, .slice none 0 0, .slice none 0 0, rfl, ⟨EQ.nil _ _ _ _, EQ.nil _ _ _ _, ?_, EQ.nil _ _ _ _, EQ.nil _ _ _ _⟩, D6.out, R6.out⟩
    dsimp only
    rw [hcc.out, hw0.out]
    exact Q6.out
end Go.Proofs.Ytcempndfbckcaaa

namespace Go.Proofs.Ytcempndfbckcaaa
open Go.RowKit
theorem put2 (q : Nat) (h : q < 65536) : putB 2 q = [q / 256, q % 256] := by
 have h1 : (putB 2 q).length = 2 := putB_len 2 q
 have h2 := numB_putB 2 q
 have h3 := putB_byt 2 q
 match hp : putB 2 q, h1 with
 | [a, b], _ =>
  rw [hp] at h2 h3
  have ha := h3 a (by simp)
  have hb := h3 b (by simp)
  simp only [numB, List.foldl_cons, List.foldl_nil] at h2
  have e1 : a = q / 256 := by omega
  have e2 : b = q % 256 := by omega
  rw [e1, e2]
theorem part_mk (i cnt t : Nat) (k : Int) (l : List Nat) (F : FuncId) (c : Ctl) (hi : i < 8) (hkv : kv i = (kindV (t : Nat) k, fnV F)) (hk : k = (if t = 205 ∨ t = 206 then (cnt : Int) else -1)) (hc : cnt ≤ 31) (ht : t ≤ 255) (hl : l.length ≤ 2000) (h4 : l.length % 4 = 0) (hR : ReadsTo F cnt l c) (hF : ∀ (args : Array Value) (w : World), (callFunc F args).run Try.prog w = .ok (.enter F args) w) :
  PartOk (([128 + cnt, t] ++ putB 2 (l.length / 4)) ++ l) c := by
 refine ⟨i, cnt, t, l.length / 4 / 256, l.length / 4 % 256, k, l, F, hi, hkv, hk, hc, ht, by omega, by omega, by omega, hR, hF, ?_, by omega⟩
 rw [put2 _ (by omega)]
 rfl
theorem any_badR {L : List Rep} (h : L.any badR = false) : ∀ r ∈ L, -8388608 ≤ r.lost ∧ r.lost < 8388608 := fun r hr => by
 have h1 := List.any_eq_false.1 h r hr
 unfold badR at h1
 simp only [decide_eq_true_eq] at h1
 omega
theorem any_badN {L : List (Nat × List Nat)} (h : L.any badN = false) : ∀ p ∈ L, nameB (bstr p.2) = true ∧ p.2.length ≤ 16 := fun p hp => by
 have h1 := List.any_eq_false.1 h p hp
 unfold badN at h1
 have h2 : nameB (bstr p.2) = true := by simpa using h1
 refine ⟨h2, ?_⟩
 unfold nameB at h2
 simp only [Bool.and_eq_true, decide_eq_true_eq] at h2
 have := h2.1.2
 rw [bstr_size] at this
 exact this
theorem nil_of {α : Type} {l : List α} (h : l.length ≤ 0) : l = [] := List.eq_nil_of_length_eq_zero (by omega)
theorem part_ok (c : Ctl) (wf : CtlWf c) (sm : CtlSm c) (h : mayC c = true) : PartOk (partB c) c := by
 obtain ⟨hb1, hb2, hb3⟩ := may_bnd h sm
 unfold partB
 revert hb1 hb2 hb3
 obtain ⟨k, s, m, t, st, pk, oc, reps, nams, srcs, loss, firs, rt⟩ := c
 obtain ⟨b1, b2, b3, b4, b5, b6, b7, b8, b9, b10, b11, b12, b13⟩ := wf
 have smn := sm.name
 clear sm
 unfold mayC at h
 unfold hdrW bodyW
 dsimp only at *
 by_cases h1 : k = 200
 ·rw [if_pos h1] at h; simp only [if_pos h1]
  subst h1
  simp only [Bool.and_eq_true, decide_eq_true_eq, Bool.not_eq_true'] at h
  obtain ⟨⟨⟨⟨q1, q2, q3, q4, q5, q6, q7⟩, -⟩, hR⟩, -⟩ := h
  obtain rfl := nil_of q2
  obtain rfl := nil_of q3
  obtain rfl := nil_of q4
  obtain rfl := nil_of q5
  subst q6 q7
  intro _ _ hl
  have e : wordsB [s] ++ putB 8 t ++ wordsB [st, pk, oc] ++ repsB reps = putB 4 s ++ (putB 8 t ++ (putB 4 st ++ (putB 4 pk ++ (putB 4 oc ++ repsB reps)))) := by
   simp only [wordsB_cons, wordsB_nil, List.append_assoc, List.append_nil, List.nil_append]
  refine part_mk 0 reps.length 200 (-1) _ 132 _ (by decide) rfl (by simp) (by omega) (by decide) hl (by simp only [List.length_append, wordsB_len, putB_len, repsB_len, List.length_cons, List.length_nil]; omega) ?_ (fun _ _ => by kernel_rfl)
  rw [e]
  exact sender_ok reps.length s t st pk oc reps b2 b4 b5 b6 b7 rfl q1 b9 (any_badR hR)
 rw [if_neg h1] at h; simp only [if_neg h1]
 by_cases h2 : k = 201
 ·rw [if_pos h2] at h; simp only [if_pos h2]
  subst h2
  simp only [Bool.and_eq_true, decide_eq_true_eq, Bool.not_eq_true'] at h
  obtain ⟨⟨⟨⟨q1, q2, q3, q4, q5, q6, q7, q8, q9, q10, q11⟩, -⟩, hR⟩, -⟩ := h
  obtain rfl := nil_of q2
  obtain rfl := nil_of q3
  obtain rfl := nil_of q4
  obtain rfl := nil_of q5
  subst q6 q7 q8 q9 q10 q11
  intro _ _ hl
  have e : wordsB [s] ++ repsB reps = putB 4 s ++ repsB reps := by
   simp only [wordsB_cons, wordsB_nil, List.append_assoc, List.append_nil, List.nil_append]
  refine part_mk 1 reps.length 201 (-1) _ 133 _ (by decide) rfl (by simp) (by omega) (by decide) hl (by simp only [List.length_append, wordsB_len, putB_len, repsB_len, List.length_cons, List.length_nil]; omega) ?_ (fun _ _ => by kernel_rfl)
  rw [e]
  have hr := receiver_ok reps.length (putB 4 s ++ repsB reps) q1 (by rw [List.length_append, putB_len, repsB_len])
  rw [take_put, drop_put, numB_putB, Nat.mod_eq_of_lt b2, reps_back reps b9 (any_badR hR)] at hr
  exact hr
 rw [if_neg h2] at h; simp only [if_neg h2]
 by_cases h3 : k = 202
 ·rw [if_pos h3] at h; simp only [if_pos h3]
  subst h3
  simp only [Bool.and_eq_true, decide_eq_true_eq, Bool.not_eq_true'] at h
  obtain ⟨⟨⟨⟨q1, q2, q3, q4, q5, q0, q6, q7, q8, q9, q10, q11⟩, hN⟩, -⟩, -⟩ := h
  obtain rfl := nil_of q1
  obtain rfl := nil_of q3
  obtain rfl := nil_of q4
  obtain rfl := nil_of q5
  subst q0 q6 q7 q8 q9 q10 q11
  intro _ _ hl
  refine part_mk 2 nams.length 202 (-1) _ 134 _ (by decide) rfl (by simp) (by omega) (by decide) hl (namsB_len nams smn).1 ?_ (fun _ _ => by kernel_rfl)
  exact names_ok nams.length nams (fun p hp => ⟨(b10 p hp).1, (b10 p hp).2, any_badN hN p hp⟩) rfl q2
 rw [if_neg h3] at h; simp only [if_neg h3]
 by_cases h4 : k = 203
 ·rw [if_pos h4] at h; simp only [if_pos h4]
  subst h4
  simp only [Bool.and_eq_true, decide_eq_true_eq, Bool.not_eq_true'] at h
  obtain ⟨⟨⟨⟨q1, q2, q3, q4, q5, q0, q6, q7, q8, q9, q10, q11⟩, -⟩, -⟩, -⟩ := h
  obtain rfl := nil_of q1
  obtain rfl := nil_of q2
  obtain rfl := nil_of q4
  obtain rfl := nil_of q5
  subst q0 q6 q7 q8 q9 q10 q11
  intro _ _ hl
  refine part_mk 3 srcs.length 203 (-1) _ 135 _ (by decide) rfl (by simp) (by omega) (by decide) hl (by rw [wordsB_len]; omega) ?_ (fun _ _ => by kernel_rfl)
  exact bye_ok srcs.length srcs b11 rfl q3
 rw [if_neg h4] at h; simp only [if_neg h4]
 by_cases h5 : k = 1
 ·rw [if_pos h5] at h; simp only [if_pos h5]
  subst h5
  simp only [Bool.and_eq_true, decide_eq_true_eq, Bool.not_eq_true', decide_eq_false_iff_not] at h
  obtain ⟨⟨⟨⟨⟨q1, q2, q3, q4, q5, q7, q8, q9, q10, q11⟩, hn0⟩, -⟩, -⟩, -⟩ := h
  obtain rfl := nil_of q1
  obtain rfl := nil_of q2
  obtain rfl := nil_of q3
  obtain rfl := nil_of q5
  subst q7 q8 q9 q10 q11
  intro _ _ hl
  have e : wordsB [s, m] ++ lossB loss = putB 4 s ++ (putB 4 m ++ lossB loss) := by
   simp only [wordsB_cons, wordsB_nil, List.append_assoc, List.append_nil, List.nil_append]
  refine part_mk 4 1 205 1 _ 136 _ (by decide) rfl (by simp) (by omega) (by decide) hl (by simp only [List.length_append, wordsB_len, lossB_len, List.length_cons, List.length_nil]; omega) ?_ (fun _ _ => by kernel_rfl)
  rw [e]
  exact nack_ok 1 s m loss.length b2 b3 loss b12 rfl q4 (by omega)
 rw [if_neg h5] at h; simp only [if_neg h5]
 by_cases h6 : k = 2
 ·rw [if_pos h6] at h; simp only [if_pos h6]
  subst h6
  simp only [Bool.and_eq_true, decide_eq_true_eq, Bool.not_eq_true'] at h
  obtain ⟨⟨⟨⟨q1, q2, q3, q4, q5, q7, q8, q9, q10, q11⟩, -⟩, -⟩, -⟩ := h
  obtain rfl := nil_of q1
  obtain rfl := nil_of q2
  obtain rfl := nil_of q3
  obtain rfl := nil_of q4
  obtain rfl := nil_of q5
  subst q7 q8 q9 q10 q11
  intro _ _ hl
  have e : wordsB [s, m] = putB 4 s ++ putB 4 m := by
   simp only [wordsB_cons, wordsB_nil, List.append_assoc, List.append_nil, List.nil_append]
  refine part_mk 5 1 206 1 _ 137 _ (by decide) rfl (by simp) (by omega) (by decide) hl (by simp only [wordsB_len, List.length_cons, List.length_nil]) ?_ (fun _ _ => by kernel_rfl)
  rw [e]
  exact pli_ok 1 s m b2 b3
 rw [if_neg h6] at h; simp only [if_neg h6]
 by_cases h7 : k = 3
 ·rw [if_pos h7] at h; simp only [if_pos h7]
  subst h7
  simp only [Bool.and_eq_true, decide_eq_true_eq, Bool.not_eq_true', decide_eq_false_iff_not] at h
  obtain ⟨⟨⟨⟨⟨q1, q2, q3, q4, q5, q0, q7, q8, q9, q10, q11⟩, hn0⟩, -⟩, -⟩, -⟩ := h
  obtain rfl := nil_of q1
  obtain rfl := nil_of q2
  obtain rfl := nil_of q3
  obtain rfl := nil_of q4
  subst q0 q7 q8 q9 q10 q11
  intro _ _ hl
  have e : wordsB [s, 0] ++ firB firs = putB 4 s ++ (putB 4 0 ++ firB firs) := by
   simp only [wordsB_cons, wordsB_nil, List.append_assoc, List.append_nil, List.nil_append]
  refine part_mk 6 4 206 4 _ 138 _ (by decide) rfl (by simp) (by omega) (by decide) hl (by simp only [List.length_append, wordsB_len, firB_len, List.length_cons, List.length_nil]; omega) ?_ (fun _ _ => by kernel_rfl)
  rw [e]
  exact fir_ok 4 s firs.length b2 firs b13 rfl q5 (by omega)
 rw [if_neg h7] at h; simp only [if_neg h7]
 by_cases h8 : k = 4
 ·rw [if_pos h8] at h
  subst h8
  simp only [Bool.and_eq_true, decide_eq_true_eq, Bool.not_eq_true'] at h
  obtain ⟨⟨⟨⟨q1, q2, q3, q4, q5, q0, q7, q8, q9, q10⟩, -⟩, -⟩, hrt⟩ := h
  obtain rfl := nil_of q1
  obtain rfl := nil_of q2
  obtain rfl := nil_of q4
  obtain rfl := nil_of q5
  subst q0 q7 q8 q9 q10
  intro _ _ hl
  have e : rembB s rt srcs = putB 4 s ++ (putB 4 0 ++ ([82, 69, 77, 66] ++ (putB 1 srcs.length ++ (putB 3 (expN rt * 262144 + manN rt) ++ wordsB srcs)))) := by
   unfold rembB
   simp only [wordsB_cons, wordsB_nil, List.append_assoc, List.append_nil, List.nil_append]
  refine part_mk 7 15 206 15 _ 139 _ (by decide) rfl (by simp) (by omega) (by decide) hl (by rw [e]; simp only [List.length_append, wordsB_len, putB_len, List.length_cons, List.length_nil]; omega) ?_ (fun _ _ => by kernel_rfl)
  rw [e]
  exact remb_ok 15 s rt srcs.length b2 srcs b11 rfl q3 hrt
 rw [if_neg h8] at h
 cases h
theorem partsB_eq (L : List Ctl) : restB (L.map fun c => (partB c, c)) 0 = partsB L := by
 unfold restB partsB
 rw [List.drop_zero, List.map_map]
 rfl
theorem okW_all {L : List Ctl} (h : okW L = true) : (1 ≤ L.length ∧ L.length ≤ 8) ∧ (∀ c ∈ L, mayC c = true) ∧ (partsB L).length ≤ 1200 := by
 unfold okW at h
 simp only [Bool.and_eq_true, decide_eq_true_eq, List.all_eq_true] at h
 exact ⟨h.1.1, h.1.2, h.2⟩
theorem read_back (L : List Ctl) (h : okW L = true) (wf : ∀ c ∈ L, CtlWf c) (sm : ∀ c ∈ L, CtlSm c) (v : Value) (w : World) (hv : SB w v (partsB L).length (partsB L)) :
  Calls Try.prog 55 #[v] w fun e w' => ∃ so co, e = .returned (.tuple #[.slice so L.length co, .int .i64 0]) ∧ EQ EC 111 w' w.heap.size (.slice so L.length co) L.length L ∧ BW w w' := by
 obtain ⟨⟨h1, h8⟩, hm, hl⟩ := okW_all h
 have hr := Read_ok (L.map fun c => (partB c, c)) (by
  intro p hp
  obtain ⟨c, hc, rfl⟩ := List.mem_map.1 hp
  exact part_ok c (wf c hc) (sm c hc) (hm c hc)) (by rw [List.length_map]; exact h1) (by rw [List.length_map]; exact h8) v (partsB L).length hl w (by rw [partsB_eq]; exact hv)
 have e : (L.map fun c => (partB c, c)).map Prod.snd = L := by rw [List.map_map]; exact List.map_id L
 rw [List.length_map, e] at hr
 exact hr
end Go.Proofs.Ytcempndfbckcaaa
