/- rtcp's body: numbers that are written are read; a pli. No condition but the sizes'. rtcp's body: reports that are written are read; a sender's report. No condition but the sizes'. rtcp's body: a bye. No condition but the sizes'. rtcp's body: a name. No condition but the sizes'. rtcp's body: names. No condition but the sizes'. -/
import Derived.Test.YtcempndfbckcaaaGW4
import Derived.Test.YtcempndfbckcaaaGX0
import Derived.Test.YtcempndfbckcaaaPb
import Derived.Test.YtcempndfbckcaaaGX1
import Derived.Test.YtcempndfbckcaaaRcNp
import Derived.Test.YtcempndfbckcaaaGW5
namespace Go.Proofs.Ytcempndfbckcaaa
open Go.RowKit
theorem bwordA (base g cnt x : Nat) (r : List Nat) (hx : x < 4294967296) (hr : r.length ≤ 1000000) (w : World) (h : BdV w base g cnt (putB 4 x ++ r)) :
  Calls Try.prog 144 #[.pointer (some ⟨g, 0, none⟩)] w fun e w' => e = .returned (.int .u32 (x : Nat)) ∧ BdV w' base g cnt r ∧ Still [g] w w' := by
 have h1 := bword_ok base g cnt (putB 4 x ++ r) (by rw [List.length_append, putB_len]; omega) (by rw [List.length_append, putB_len]; omega) w h
 rw [List.take_left' (putB_len 4 x), List.drop_left' (putB_len 4 x), numB_putB, Nat.mod_eq_of_lt hx] at h1
 exact h1
theorem bnumA (base g cnt n x : Nat) (r : List Nat) (hn1 : 1 ≤ n) (hn8 : n ≤ 8) (hx : x < 256 ^ n) (hr : r.length ≤ 1000000) (w : World) (h : BdV w base g cnt (putB n x ++ r)) :
  Calls Try.prog 145 #[.pointer (some ⟨g, 0, none⟩), .int .i64 (n : Nat)] w fun e w' => e = .returned (.int .u64 (x : Nat)) ∧ BdV w' base g cnt r ∧ Still [g] w w' := by
 have h1 := bnum_ok base g cnt n (putB n x ++ r) hn1 hn8 (by rw [List.length_append, putB_len]; omega) (by rw [List.length_append, putB_len]; omega) w h
 rw [List.take_left' (putB_len n x), List.drop_left' (putB_len n x), numB_putB, Nat.mod_eq_of_lt hx] at h1
 exact h1
abbrev zctl : Array Value := #[.int .i64 0, .int .u32 0, .int .u32 0, .int .u64 0, .int .u32 0, .int .u32 0, .int .u32 0, .slice none 0 0, .slice none 0 0, .slice none 0 0, .slice none 0 0, .slice none 0 0, .int .u64 0]
set_option maxRecDepth 100000 in
set_option maxHeartbeats 8000000 in
theorem pli_ok (cnt s m : Nat) (hs : s < 4294967296) (hm : m < 4294967296) : ReadsTo 137 cnt (putB 4 s ++ putB 4 m) ⟨2, s, m, 0, 0, 0, 0, [], [], [], [], [], 0⟩ := by
 intro base g w hr
 have c1 := fun wz h => Lib.hid (bwordA base g cnt s (putB 4 m) hs (by rw [putB_len]; omega) wz h)
 have c2 := fun wz h => Lib.hid (bwordA base g cnt m [] hm (by simp) wz h)
 rw [List.append_nil] at c2
 have hlt := hr.lt
 have BA : BW w (w.alloc (.cells zctl 111)) := (BW.refl _).alloc
 have X1 := Lib.hid (HpB.new w (.cells zctl 111))
 have D1 := Lib.hid (hr.bw BA)
 have R1 := Lib.hid (BA.still [g])
 generalize putB 4 s ++ putB 4 m = l0 at *
 generalize putB 4 m = l1 at *
 clear hs hm
 go_enter Try.func137, Try.ntmps137
 go_upto_region 1 with (fail)
 generalize (w.alloc _) = w1 at *
 generalize hw0 : w.heap.size = g1 at *
 replace hw0 := Lib.hid hw0
 have hg1 : g1 ∉ [g] := by simp; omega
 clear BA
 go_wp2_with fail
 refine Calls.mono (c1 _ D1.out).out ?_
 rintro e w2 ⟨rfl, D2, T2⟩
 have X2 := Lib.hid (X1.out.st T2 hg1)
 have R2 := Lib.hid (R1.out.trans T2)
 have c2a := c2 w2 D2
 clear D1 X1 R1 c1 T2 c2 D2
 dsimp only
 go_wp2_with fail
 refine Calls.mono c2a.out ?_
 rintro e w3 ⟨rfl, D3, T3⟩
 have X3 := Lib.hid (X2.out.st T3 hg1)
 have R3 := Lib.hid (R2.out.trans T3)
 replace D3 := Lib.hid D3
 clear X2 R2 c2a T3
 dsimp only
 have z0 := hp_cell (X3.out) 0
 have y0 := hp_frz (X3.out) 0
 have z1 := hp_cell (X3.out) 1
 have y1 := hp_frz (X3.out) 1
 have z2 := hp_cell (X3.out) 2
 have y2 := hp_frz (X3.out) 2
 have z3 := hp_cell (X3.out) 3
 have y3 := hp_frz (X3.out) 3
 have z4 := hp_cell (X3.out) 4
 have y4 := hp_frz (X3.out) 4
 have z5 := hp_cell (X3.out) 5
 have y5 := hp_frz (X3.out) 5
 have z6 := hp_cell (X3.out) 6
 have y6 := hp_frz (X3.out) 6
 have z7 := hp_cell (X3.out) 7
 have y7 := hp_frz (X3.out) 7
 have z8 := hp_cell (X3.out) 8
 have y8 := hp_frz (X3.out) 8
 have z9 := hp_cell (X3.out) 9
 have y9 := hp_frz (X3.out) 9
 have z10 := hp_cell (X3.out) 10
 have y10 := hp_frz (X3.out) 10
 have z11 := hp_cell (X3.out) 11
 have y11 := hp_frz (X3.out) 11
 have z12 := hp_cell (X3.out) 12
 have y12 := hp_frz (X3.out) 12
 simp only [List.getElem?_toArray, List.getElem?_cons_zero, List.getElem?_cons_succ] at z0 z1 z2 z3 z4 z5 z6 z7 z8 z9 z10 z11 z12
 have TS := still_st13 w3 g1 (.int .i64 2) (.int .u32 (s : Nat)) (.int .u32 (m : Nat)) (.int .u64 0) (.int .u32 0) (.int .u32 0) (.int .u32 0) (.slice none 0 0) (.slice none 0 0) (.slice none 0 0) (.slice none 0 0) (.slice none 0 0) (.int .u64 0)
 have D6 := Lib.hid (D3.out.st TS (fun k hk => by obtain rfl : k = g1 := (by simpa using hk); exact ⟨_, _, _, X3.out, by decide, by decide⟩))
 have R6 := Lib.hid (R3.out.fresh TS (fun k hk => by obtain rfl : k = g1 := (by simpa using hk); have := hw0.out; omega))
 have X6 := Lib.hid (HpB.st13 X3.out rfl (.int .i64 2) (.int .u32 (s : Nat)) (.int .u32 (m : Nat)) (.int .u64 0) (.int .u32 0) (.int .u32 0) (.int .u32 0) (.slice none 0 0) (.slice none 0 0) (.slice none 0 0) (.slice none 0 0) (.slice none 0 0) (.int .u64 0))
 clear D3 R3 TS X3
 go_wp2_with fail
 refine bodyPost_ret (results_cell_row (p := 2) rfl _ _ g1 _ _ _ _ rfl X6.out Try.underlying111 rfl (by kernel_rfl)) rfl ?_
 refine ⟨.slice none 0 0, .slice none 0 0, .slice none 0 0, .slice none 0 0, .slice none 0 0, rfl, CtlV.nils _ _ _ rfl rfl rfl rfl rfl, D6.out, R6.out⟩
end Go.Proofs.Ytcempndfbckcaaa

namespace Go.Proofs.Ytcempndfbckcaaa
open Go.RowKit
theorem take_put (n x : Nat) (r : List Nat) : (putB n x ++ r).take n = putB n x := List.take_left' (putB_len n x)
theorem drop_put (n x : Nat) (r : List Nat) : (putB n x ++ r).drop n = r := List.drop_left' (putB_len n x)
theorem wordsB_cons (x : Nat) (l : List Nat) : wordsB (x :: l) = putB 4 x ++ wordsB l := rfl
theorem wordsB_nil : wordsB [] = [] := rfl
theorem repOf_back (r : Rep) (wf : RepWf r) (hl : -8388608 ≤ r.lost ∧ r.lost < 8388608) (rest : List Nat) : repOf (repW r ++ rest) = r := by
 obtain ⟨s, f, lost, h, j, l, d⟩ := r
 obtain ⟨b1, b2, b3, b4, b5, b6, b7, b8⟩ := wf
 dsimp only at *
 have e : repW ⟨s, f, lost, h, j, l, d⟩ ++ rest = putB 4 s ++ (putB 1 f ++ (putB 3 (lostU lost) ++ (putB 4 h ++ (putB 4 j ++ (putB 4 l ++ (putB 4 d ++ rest)))))) := by
  simp only [repW, wordsB_cons, wordsB_nil, List.append_assoc, List.append_nil, List.nil_append]
 rw [e]
 unfold repOf
 simp only [take_put, drop_put, numB_putB]
 have e3 : sgn24 (lostU lost % 256 ^ 3) = lost := by
  unfold sgn24 lostU
  split <;> omega
 rw [e3, Nat.mod_eq_of_lt (show s < 256 ^ 4 by omega), Nat.mod_eq_of_lt (show f < 256 ^ 1 by omega), Nat.mod_eq_of_lt (show h < 256 ^ 4 by omega), Nat.mod_eq_of_lt (show j < 256 ^ 4 by omega), Nat.mod_eq_of_lt (show l < 256 ^ 4 by omega), Nat.mod_eq_of_lt (show d < 256 ^ 4 by omega)]
theorem repsB_drop (L : List Rep) : ∀ (k : Nat), (repsB L).drop (24 * k) = repsB (L.drop k) := by
 induction L with
 | nil => intro k; simp [repsB]
 | cons r L ih =>
  intro k
  cases k with
  | zero => rfl
  | succ k =>
   rw [List.drop_succ_cons, ← ih k]
   have e : repsB (r :: L) = repW r ++ repsB L := rfl
   rw [e, show 24 * (k + 1) = 24 + 24 * k by omega, ← List.drop_drop, List.drop_left' (repW_len r)]
theorem reps_back (L : List Rep) (wf : ∀ r ∈ L, RepWf r) (hl : ∀ r ∈ L, -8388608 ≤ r.lost ∧ r.lost < 8388608) : (repsN (repsB L) L.length).map repOf = L := by
 refine List.ext_getElem (by simp [repsN]) fun i h1 h2 => ?_
 simp only [repsN, List.getElem_map, List.getElem_range]
 rw [repsB_drop, List.drop_eq_getElem_cons h2]
 exact repOf_back _ (wf _ (List.getElem_mem h2)) (hl _ (List.getElem_mem h2)) _
set_option maxRecDepth 100000 in
set_option maxHeartbeats 8000000 in
theorem sender_ok (cnt s t st pk oc : Nat) (L : List Rep) (hs : s < 4294967296) (ht : t < 256 ^ 8) (hst : st < 4294967296) (hpk : pk < 4294967296) (hoc : oc < 4294967296) (hc : L.length = cnt) (hcn : cnt ≤ 16) (wf : ∀ r ∈ L, RepWf r) (hl : ∀ r ∈ L, -8388608 ≤ r.lost ∧ r.lost < 8388608) :
  ReadsTo 132 cnt (putB 4 s ++ (putB 8 t ++ (putB 4 st ++ (putB 4 pk ++ (putB 4 oc ++ repsB L))))) ⟨200, s, 0, t, st, pk, oc, L, [], [], [], [], 0⟩ := by
 intro base g w hr
 have hlb := repsB_len L
 have hback := reps_back L wf hl
 rw [hc] at hback
 have c1 := fun wz h => Lib.hid (bwordA base g cnt s (putB 8 t ++ (putB 4 st ++ (putB 4 pk ++ (putB 4 oc ++ repsB L)))) hs (by simp only [List.length_append, putB_len]; omega) wz h)
 have c2 := fun wz h => Lib.hid (bnumA base g cnt 8 t (putB 4 st ++ (putB 4 pk ++ (putB 4 oc ++ repsB L))) (by decide) (by decide) ht (by simp only [List.length_append, putB_len]; omega) wz h)
 have c3 := fun wz h => Lib.hid (bwordA base g cnt st (putB 4 pk ++ (putB 4 oc ++ repsB L)) hst (by simp only [List.length_append, putB_len]; omega) wz h)
 have c4 := fun wz h => Lib.hid (bwordA base g cnt pk (putB 4 oc ++ repsB L) hpk (by simp only [List.length_append, putB_len]; omega) wz h)
 have c5 := fun wz h => Lib.hid (bwordA base g cnt oc (repsB L) hoc (by omega) wz h)
 have cr := fun w h => Lib.hid (reports_ok base g cnt (repsB L) hcn (by omega) (by omega) w h)
 have hdd : (repsB L).drop (24 * cnt) = [] := List.drop_of_length_le (by omega)
 rw [hdd] at cr
 have hq := fun w b v h => Lib.hid (EQ.reps (w := w) (base := b) (v := v) (n := cnt) (l := repsN (repsB L) cnt) h)
 rw [hback] at hq
 generalize repsN (repsB L) cnt = ds at *
 generalize hl0 : putB 4 s ++ _ = l0 at *
 generalize hl1 : putB 8 t ++ _ = l1 at *
 generalize hl2 : putB 4 st ++ _ = l2 at *
 generalize hl3 : putB 4 pk ++ _ = l3 at *
 generalize hl4 : putB 4 oc ++ _ = l4 at *
 generalize hl5 : repsB L = l5 at *
 have hc' := Lib.hid hc
 clear hl0 hl1 hl2 hl3 hl4 hl5 hlb hdd hback hs ht hst hpk hoc wf hl hc
 have hlt := hr.lt
 have BA : BW w (w.alloc (.cells zctl 111)) := (BW.refl _).alloc
 have X1 := Lib.hid (HpB.new w (.cells zctl 111))
 have D1 := Lib.hid (hr.bw BA)
 have R1 := Lib.hid (BA.still [g])
 go_enter Try.func132, Try.ntmps132
 go_upto_region 1 with (fail)
 generalize (w.alloc _) = w1 at *
 generalize hw0 : w.heap.size = g1 at *
 replace hw0 := Lib.hid hw0
 have hg1 : g1 ∉ [g] := by simp; omega
 clear BA
 go_wp2_with fail
 refine Calls.mono (c1 _ D1.out).out ?_
 rintro e w2 ⟨rfl, D2, T2⟩
 have X2 := Lib.hid (X1.out.st T2 hg1)
 have R2 := Lib.hid (R1.out.trans T2)
 have k2 := c2 w2 D2
 clear D1 X1 R1 c1 T2 c2 D2
 dsimp only
 go_wp2_with fail
 refine Calls.mono k2.out ?_
 rintro e w3 ⟨rfl, D3, T3⟩
 have X3 := Lib.hid (X2.out.st T3 hg1)
 have R3 := Lib.hid (R2.out.trans T3)
 have k3 := c3 w3 D3
 clear X2 R2 k2 T3 c3 D3
 dsimp only
 go_wp2_with fail
 refine Calls.mono k3.out ?_
 rintro e w4 ⟨rfl, D4, T4⟩
 have X4 := Lib.hid (X3.out.st T4 hg1)
 have R4 := Lib.hid (R3.out.trans T4)
 have k4 := c4 w4 D4
 clear X3 R3 k3 T4 c4 D4
 dsimp only
 go_wp2_with fail
 refine Calls.mono k4.out ?_
 rintro e w5 ⟨rfl, D5, T5⟩
 have X5 := Lib.hid (X4.out.st T5 hg1)
 have R5 := Lib.hid (R4.out.trans T5)
 have k5 := c5 w5 D5
 clear X4 R4 k4 T5 c5 D5
 dsimp only
 go_wp2_with fail
 refine Calls.mono k5.out ?_
 rintro e w6 ⟨rfl, D6, T6⟩
 have X6 := Lib.hid (X5.out.st T6 hg1)
 have R6 := Lib.hid (R5.out.trans T6)
 have hlt1 := X6.out.lt
 clear X5 R5 k5 T6
 dsimp only
 have BC : BW w6 (w6.alloc (.cells #[.int .i64 200, .int .u32 (s : Nat), .int .u32 0, .int .u64 (t : Nat), .int .u32 (st : Nat), .int .u32 (pk : Nat), .int .u32 (oc : Nat), .slice none 0 0, .slice none 0 0, .slice none 0 0, .slice none 0 0, .slice none 0 0, .int .u64 0] 111)) := (BW.refl _).alloc
 have Y3 := Lib.hid (HpB.new w6 (.cells #[.int .i64 200, .int .u32 (s : Nat), .int .u32 0, .int .u64 (t : Nat), .int .u32 (st : Nat), .int .u32 (pk : Nat), .int .u32 (oc : Nat), .slice none 0 0, .slice none 0 0, .slice none 0 0, .slice none 0 0, .slice none 0 0, .int .u64 0] 111))
 have X7 := Lib.hid (X6.out.bw BC)
 have D7 := D6.bw BC
 have R7 := Lib.hid (R6.out.new BC)
 have cra := cr _ D7
 clear X6 D6 R6 D7 cr
 replace BC := Lib.hid BC
 go_upto_region 2 with (fail)
 generalize (w6.alloc _) = w7 at *
 have hlt3 : g1 < w6.heap.size := by omega
 generalize w6.heap.size = g3 at *
 have hlt0 : g < g1 := by have := hw0.out; omega
 have hg3 : g3 ∉ [g] := by simp; omega
 have h31 : g3 ≠ g1 := by omega
 have hlt4 := Y3.out.lt
 clear BC hlt1
 go_wp2_with fail
 refine Calls.mono cra.out ?_
 rintro e w8 ⟨so, co, rfl, Q4, D4, T4⟩
 have X4 := Lib.hid (X7.out.st T4 hg1)
 have Y4 := Lib.hid (Y3.out.st T4 hg3)
 have R4 := Lib.hid (R7.out.trans T4)
 replace Q4 := Lib.hid Q4
 replace D4 := Lib.hid D4
 clear X7 Y3 R7 T4 cra
 dsimp only
 have z0 := hp_cell (Y4.out) 0
 have y0 := hp_frz (Y4.out) 0
 have z1 := hp_cell (Y4.out) 1
 have y1 := hp_frz (Y4.out) 1
 have z2 := hp_cell (Y4.out) 2
 have y2 := hp_frz (Y4.out) 2
 have z3 := hp_cell (Y4.out) 3
 have y3 := hp_frz (Y4.out) 3
 have z4 := hp_cell (Y4.out) 4
 have y4 := hp_frz (Y4.out) 4
 have z5 := hp_cell (Y4.out) 5
 have y5 := hp_frz (Y4.out) 5
 have z6 := hp_cell (Y4.out) 6
 have y6 := hp_frz (Y4.out) 6
 have z7 := hp_cell (Y4.out) 7
 have y7 := hp_frz (Y4.out) 7
 have z8 := hp_cell (Y4.out) 8
 have y8 := hp_frz (Y4.out) 8
 have z9 := hp_cell (Y4.out) 9
 have y9 := hp_frz (Y4.out) 9
 have z10 := hp_cell (Y4.out) 10
 have y10 := hp_frz (Y4.out) 10
 have z11 := hp_cell (Y4.out) 11
 have y11 := hp_frz (Y4.out) 11
 have z12 := hp_cell (Y4.out) 12
 have y12 := hp_frz (Y4.out) 12
 simp only [List.getElem?_toArray, List.getElem?_cons_zero, List.getElem?_cons_succ] at z0 z1 z2 z3 z4 z5 z6 z7 z8 z9 z10 z11 z12
 have TS := still_sc w8 g3 7 (.slice so cnt co)
 have Y5 : Hid (HpB (w8.setCell ⟨g3, 7, none⟩ (.slice so cnt co)) g3 (.cells #[.int .i64 200, .int .u32 (s : Nat), .int .u32 0, .int .u64 (t : Nat), .int .u32 (st : Nat), .int .u32 (pk : Nat), .int .u32 (oc : Nat), .slice so cnt co, .slice none 0 0, .slice none 0 0, .slice none 0 0, .slice none 0 0, .int .u64 0] 111)) := hp_set Y4.out 7 _
 have X5 := Lib.hid (X4.out.st TS (by simpa using h31.symm))
 have D5 := Lib.hid (D4.out.st TS (fun k hk => by obtain rfl : k = g3 := (by simpa using hk); exact ⟨_, _, _, Y4.out, by decide, by decide⟩))
 have Q5 := Lib.hid (Q4.out.old TS (fun k hk => by obtain rfl : k = g3 := (by simpa using hk); exact hlt4))
 have R5 := Lib.hid (R4.out.fresh TS (fun k hk => by obtain rfl : k = g3 := (by simpa using hk); have := hw0.out; omega))
 clear X4 D4 Q4 R4 TS Y4
 replace y0 := Lib.hid y0
 replace y1 := Lib.hid y1
 replace y2 := Lib.hid y2
 replace y3 := Lib.hid y3
 replace y4 := Lib.hid y4
 replace y5 := Lib.hid y5
 replace y6 := Lib.hid y6
 replace y8 := Lib.hid y8
 replace y9 := Lib.hid y9
 replace y10 := Lib.hid y10
 replace y11 := Lib.hid y11
 replace y12 := Lib.hid y12
 replace z0 := Lib.hid z0
 replace z1 := Lib.hid z1
 replace z2 := Lib.hid z2
 replace z3 := Lib.hid z3
 replace z4 := Lib.hid z4
 replace z5 := Lib.hid z5
 replace z6 := Lib.hid z6
 replace z8 := Lib.hid z8
 replace z9 := Lib.hid z9
 replace z10 := Lib.hid z10
 replace z11 := Lib.hid z11
 replace z12 := Lib.hid z12
 go_upto_region 3 with (fail)
 generalize w8.setCell ⟨g3, 7, none⟩ (.slice so cnt co) = w9 at *
 clear y0 y1 y2 y3 y4 y5 y6 y7 y8 y9 y10 y11 y12 z0 z1 z2 z3 z4 z5 z6 z7 z8 z9 z10 z11 z12
 have u0 := hp_cell (Y5.out) 0
 have u1 := hp_cell (Y5.out) 1
 have u2 := hp_cell (Y5.out) 2
 have u3 := hp_cell (Y5.out) 3
 have u4 := hp_cell (Y5.out) 4
 have u5 := hp_cell (Y5.out) 5
 have u6 := hp_cell (Y5.out) 6
 have u7 := hp_cell (Y5.out) 7
 have u8 := hp_cell (Y5.out) 8
 have u9 := hp_cell (Y5.out) 9
 have u10 := hp_cell (Y5.out) 10
 have u11 := hp_cell (Y5.out) 11
 have u12 := hp_cell (Y5.out) 12
 simp only [List.getElem?_toArray, List.getElem?_cons_zero, List.getElem?_cons_succ] at u0 u1 u2 u3 u4 u5 u6 u7 u8 u9 u10 u11 u12
 have z0 := hp_cell (X5.out) 0
 have y0 := hp_frz (X5.out) 0
 have z1 := hp_cell (X5.out) 1
 have y1 := hp_frz (X5.out) 1
 have z2 := hp_cell (X5.out) 2
 have y2 := hp_frz (X5.out) 2
 have z3 := hp_cell (X5.out) 3
 have y3 := hp_frz (X5.out) 3
 have z4 := hp_cell (X5.out) 4
 have y4 := hp_frz (X5.out) 4
 have z5 := hp_cell (X5.out) 5
 have y5 := hp_frz (X5.out) 5
 have z6 := hp_cell (X5.out) 6
 have y6 := hp_frz (X5.out) 6
 have z7 := hp_cell (X5.out) 7
 have y7 := hp_frz (X5.out) 7
 have z8 := hp_cell (X5.out) 8
 have y8 := hp_frz (X5.out) 8
 have z9 := hp_cell (X5.out) 9
 have y9 := hp_frz (X5.out) 9
 have z10 := hp_cell (X5.out) 10
 have y10 := hp_frz (X5.out) 10
 have z11 := hp_cell (X5.out) 11
 have y11 := hp_frz (X5.out) 11
 have z12 := hp_cell (X5.out) 12
 have y12 := hp_frz (X5.out) 12
 simp only [List.getElem?_toArray, List.getElem?_cons_zero, List.getElem?_cons_succ] at z0 z1 z2 z3 z4 z5 z6 z7 z8 z9 z10 z11 z12
 have TS := still_st13 w9 g1 (.int .i64 200) (.int .u32 (s : Nat)) (.int .u32 0) (.int .u64 (t : Nat)) (.int .u32 (st : Nat)) (.int .u32 (pk : Nat)) (.int .u32 (oc : Nat)) (.slice so cnt co) (.slice none 0 0) (.slice none 0 0) (.slice none 0 0) (.slice none 0 0) (.int .u64 0)
 have D6 := Lib.hid (D5.out.st TS (fun k hk => by obtain rfl : k = g1 := (by simpa using hk); exact ⟨_, _, _, X5.out, by decide, by decide⟩))
 have Q6 := Lib.hid (Q5.out.old TS (fun k hk => by obtain rfl : k = g1 := (by simpa using hk); omega))
 have R6 := Lib.hid (R5.out.fresh TS (fun k hk => by obtain rfl : k = g1 := (by simpa using hk); have := hw0.out; omega))
 have X6 := Lib.hid (HpB.st13 X5.out rfl (.int .i64 200) (.int .u32 (s : Nat)) (.int .u32 0) (.int .u64 (t : Nat)) (.int .u32 (st : Nat)) (.int .u32 (pk : Nat)) (.int .u32 (oc : Nat)) (.slice so cnt co) (.slice none 0 0) (.slice none 0 0) (.slice none 0 0) (.slice none 0 0) (.int .u64 0))
 clear D5 Q5 R5 TS Y5 X5
 go_wp2_with fail
 refine bodyPost_ret (results_cell_row (p := 2) rfl _ _ g1 _ _ _ _ rfl X6.out Try.underlying111 rfl (by kernel_rfl)) rfl ?_
 refine ⟨.slice so cnt co, .slice none 0 0, .slice none 0 0, .slice none 0 0, .slice none 0 0, rfl, ⟨?_, EQ.nil _ _ _ _, EQ.nil _ _ _ _, EQ.nil _ _ _ _, EQ.nil _ _ _ _⟩, D6.out, R6.out⟩
 dsimp only
 rw [hc'.out]
 exact (hq _ _ _ (Q6.out.up (by have := hw0.out; omega))).out
end Go.Proofs.Ytcempndfbckcaaa

namespace Go.Proofs.Ytcempndfbckcaaa
open Go.RowKit
theorem wordsB_drop (L : List Nat) (k : Nat) (h : k < L.length) : wordsB (L.drop k) = putB 4 (L[k]) ++ wordsB (L.drop (k + 1)) := by
 rw [List.drop_eq_getElem_cons h]
 rfl
abbrev byeC (so : Option Addr) (k co : Nat) : Array Value := #[.int .i64 203, .int .u32 0, .int .u32 0, .int .u64 0, .int .u32 0, .int .u32 0, .int .u32 0, .slice none 0 0, .slice none 0 0, .slice so k co, .slice none 0 0, .slice none 0 0, .int .u64 0]
set_option maxRecDepth 100000 in
set_option maxHeartbeats 8000000 in
theorem bye_ok (cnt : Nat) (L : List Nat) (hL : ∀ x ∈ L, x < 4294967296) (hc : L.length = cnt) (hcn : cnt ≤ 16) :
  ReadsTo 135 cnt (wordsB L) ⟨203, 0, 0, 0, 0, 0, 0, [], [], L, [], [], 0⟩ := by
 intro base g w hr
 have cc := fun w => Lib.hid (counted_ok cnt hcn w)
 have hlt := hr.lt
 have BA : BW w (w.alloc (.cells zctl 111)) := (BW.refl _).alloc
 have BB : BW (w.alloc (.cells zctl 111)) ((w.alloc (.cells zctl 111)).alloc (.cells (byeC none 0 0) 111)) := (BW.refl _).alloc
 have X0 := Lib.hid ((HpB.new w (.cells zctl 111)).bw BB)
 have Y0 := Lib.hid (show HpB _ (w.heap.size + 1) _ from hp_new (w.alloc (.cells zctl 111)) (.cells (byeC none 0 0) 111) (w.heap.size + 1) (by simp))
 have D0 := Lib.hid (hr.bw (BA.trans BB))
 have R0 := Lib.hid ((BA.trans BB).still [g])
 have hdz : wordsB (L.drop 0) = wordsB L := rfl
 have hst := fun k (h : k < L.length) => wordsB_drop L k h
 have hsn := fun k (h : k < L.length) => (List.take_succ_eq_append_getElem h)
 have hxx := fun k (h : k < L.length) => hL _ (List.getElem_mem h)
 have hwl := fun k => wordsB_len (L.drop k)
 have hfull : L.take cnt = L := by rw [← hc, List.take_length]
 have hend : wordsB (L.drop cnt) = [] := by rw [← hc, List.drop_length]; rfl
 rw [← hdz] at D0
 have hcc := Lib.hid hc
 clear hdz hL hr hc
 replace BA := Lib.hid BA
 replace BB := Lib.hid BB
 replace hst := Lib.hid hst
 replace hsn := Lib.hid hsn
 replace hxx := Lib.hid hxx
 replace hwl := Lib.hid hwl
 replace hfull := Lib.hid hfull
 replace hend := Lib.hid hend
 go_enter Try.func135, Try.ntmps135
 go_upto_region 2 with (fail)
 generalize ((w.alloc _).alloc _) = w1 at *
 generalize hw0 : w.heap.size = g1 at *
 replace hw0 := Lib.hid hw0
 have hg1 : Hid (g < g1) := Lib.hid hlt
 clear BA BB
 have c0 : w1.cell? ⟨g, 0, none⟩ = some (.int .i64 (cnt : Nat)) := by
  obtain ⟨v, h1, _⟩ := D0.out
  exact hp_cell h1 0
 go_wp2_with fail
 refine Calls.mono (cc w1).out ?_
 rintro e w' ⟨rfl, rfl⟩
 dsimp only
 clear c0 cc
 go_upto_region 3 with (fail)
 go_loopg [10] cnt (fun m' a wx => ∃ (k : Nat) (so : Option Addr) (co : Nat), m' = cnt - k ∧ k ≤ cnt ∧ a = .int .i64 (k : Nat) ∧ k ≤ co ∧ co ≤ 9223372036854775807 ∧ Hid (HpB wx (g1 + 1) (.cells (byeC so k co) 111)) ∧ Hid (EQ ES 73 wx g1 (.slice so k co) k (L.take k)) ∧ Hid (BdV wx base g cnt (wordsB (L.drop k))) ∧ Hid (HpB wx g1 (.cells zctl 111)) ∧ Hid (Still [g] w wx))
 case atStart => exact ⟨0, none, 0, rfl, by omega, rfl, Nat.le_refl _, by omega, Y0, Lib.hid (EQ.nil _ _ _ _), D0, X0, R0⟩
 case round =>
  clear X0 Y0 D0 R0
  obtain ⟨k, so, co, rfl, hk, rfl, hkc, hco, Y, Q, D, X, R⟩ := hrel
  by_cases hkn : k < cnt
  ·have d : decide ((k : Int) < (cnt : Int)) = true := by simp; omega
   have hkl : k < L.length := by rw [hcc.out]; exact hkn
   have hs1 := hst.out k hkl
   have hn1 := hsn.out k hkl
   have hx1 := hxx.out k hkl
   have hl1 := hwl.out (k + 1)
   have hlk : (L.drop (k + 1)).length ≤ 16 := by rw [List.length_drop, hcc.out]; omega
   generalize L[k] = x at *
   have cw := fun wz h => Lib.hid (bwordA base g cnt x (wordsB (L.drop (k + 1))) hx1 (by omega) wz h)
   rw [← hs1] at cw
   clear hl1 hlk hs1 hx1
   replace hn1 := Lib.hid hn1
   have hng : Hid (g1 + 1 ≠ g ∧ g1 ≠ g) := by have := hg1.out; show _ ∧ _; omega
   go_upto_region 4 with (fail)
   have l9 : ∀ y : LaterS [g] wr, y.now.cell? ⟨g1 + 1, 9, none⟩ = some (.slice so k co) := fun y => y.cell ((hp_cell Y.out 9).trans rfl) (by have := hng.out.1; simpa using this)
   refine wp_region_gg ([g]) [3] [5] (by kernel_rfl) ?_
   refine hoist ([g]) [] (a1 := ?_) 0 rfl (by kernel_rfl) (.inr rfl) rfl rfl rfl (fun x K hK => ?_) ?_
   rotate_left
   ·go_big_quiet_op
    exact hK
   refine hoist ([g]) [] (a1 := ?_) 1 rfl (by kernel_rfl) (.inr rfl) rfl rfl rfl (fun x K hK => ?_) ?_
   rotate_left
   ·go_big_quiet_op
    exact hK
   refine hoist [] [3] (a1 := ?_) 2 rfl (by kernel_rfl) (.inl ⟨rfl, rfl⟩) rfl rfl rfl (fun x K hK => ?_) ?_
   rotate_left
   ·go_big_quiet_op
    exact hK
   refine effect 3 rfl (by kernel_rfl) (by kernel_rfl) rfl (fun x3 K hK => ?_)
   go_simp
   refine Calls.mono (cw x3.now (D.out.bw x3.bw)).out ?_
   rintro e w7 ⟨rfl, D7, T7⟩
   refine hK _ _ T7 ?_
   clear hK K
   have Y7 := Lib.hid ((Y.out.bw x3.bw).st T7 (by have := hng.out.1; simpa using this))
   have X7 := Lib.hid ((X.out.bw x3.bw).st T7 (by have := hng.out.2; simpa using this))
   have hgd := D.out.row
   have Q7 := Lib.hid ((Q.out.bw x3.bw).still T7 (fun _ _ => trivial) (fun q hq hm => by obtain rfl : q = g := (by simpa using hm); obtain ⟨cs, hcs⟩ := hgd; exact Q.out.ne hcs (by decide) _ hq rfl))
   have R7 := Lib.hid ((R.out.trans (x3.bw.still [g])).trans T7)
   replace D7 := Lib.hid D7
   clear T7 Y X Q R D cw l9 hgd
   try simp only [Act.put, List.setIfInBounds_toArray, List.set_cons_succ, List.set_cons_zero]
   refine effect 4 rfl (by kernel_rfl) (by kernel_rfl) rfl (fun x4 K hK => ?_)
   go_simp
   refine hK _ _ (Still.of_below ((Below.refl _ _).alloc (Nat.le_refl _) _)) ?_
   clear hK K
   have hb := x4.bw.trans ((BW.refl x4.now).alloc (o := .cells #[.int .u32 (x : Nat)] 73))
   have L8 := Lib.hid (Sls.new1 (E := ES) x4.now 73 [.int .u32 (x : Nat)] rfl)
   have Y8 := Lib.hid (Y7.out.bw hb)
   have X8 := Lib.hid (X7.out.bw hb)
   have Q8 := Lib.hid (Q7.out.bw hb)
   have D8 := Lib.hid (D7.out.bw hb)
   have R8 := Lib.hid (R7.out.trans (hb.still [g]))
   clear hb Y7 X7 Q7 D7 R7
   generalize (x4.now.alloc _) = w8 at *
   generalize x4.now.heap.size = g8 at *
   try simp only [Act.put, List.setIfInBounds_toArray, List.set_cons_succ, List.set_cons_zero]
   refine tail 5 rfl (by kernel_rfl) rfl (fun xr => ?_)
   simp only [List.drop_succ_cons, List.drop_zero]
   have L9 := Lib.hid (L8.out.bw xr.bw)
   have Y9 := Lib.hid (Y8.out.bw xr.bw)
   have X9 := Lib.hid (X8.out.bw xr.bw)
   have Q9 := Lib.hid (Q8.out.bw xr.bw)
   have D9 := Lib.hid (D8.out.bw xr.bw)
   have R9 := Lib.hid (R8.out.trans (xr.bw.still [g]))
   clear L8 Y8 X8 Q8 D8 R8
   generalize xr.now = w9 at *
   have hz9 : g1 ≤ w9.heap.size := by have := R9.out.size; have := hw0.out; omega
   go_upto_region 5 with (at_builtin; go_must (refine wpList_apEQ slES rfl _ _ rfl g1 (.slice so k co) k (L.take k) rfl Q9.out _ rfl 1 [x] [.int .u32 (x : Nat)] L9.out (EL.single rfl) rfl (by omega) hz9 (fun _ _ => trivial) ?_; intro s3 c3 w3 hc3 hm3 Q3 T3 hb3 G3; unfold maxLen at hm3; replace T3 : Still (Value.slice so k co).ownBlock.toList _ w3 := T3; have Y3 := Lib.hid (Y9.out.st T3 (fun hm => Q9.out.ne Y9.out (by decide) _ (by simpa using hm) rfl)); have X3 := Lib.hid (X9.out.st T3 (fun hm => Q9.out.ne X9.out (by decide) _ (by simpa using hm) rfl)); have D3 := Lib.hid (D9.out.st T3 (fun q hq => by obtain ⟨cs, hcs⟩ := Q9.out.row q (by simpa using hq); exact ⟨_, _, _, hcs, by decide, by decide⟩)); have R3 := Lib.hid (R9.out.fresh T3 (fun q hq => by have := Q9.out.ge' q (by simpa using hq); have := hw0.out; omega)); rw [← hn1.out] at Q3; replace Q3 := Lib.hid Q3; clear T3 hb3 G3 Y9 X9 D9 R9 Q9 L9; have z9 := (hp_cell Y3.out 9).trans (show _ = some (.slice so k co) from rfl); have f9 := hp_frz Y3.out 9))
   clear z9 f9
   have TS := still_sc w3 (g1 + 1) 9 (.slice s3 (k + 1) c3)
   have Y4 : Hid (HpB (w3.setCell ⟨g1 + 1, 9, none⟩ (.slice s3 (k + 1) c3)) (g1 + 1) (.cells (byeC s3 (k + 1) c3) 111)) := hp_set Y3.out 9 _
   have X4 := Lib.hid (X3.out.st TS (by simp))
   have D4 := Lib.hid (D3.out.st TS (fun q hq => by obtain rfl : q = g1 + 1 := (by simpa using hq); exact ⟨_, _, _, Y3.out, by decide, by decide⟩))
   have Q4 := Lib.hid (Q3.out.still TS (fun _ _ => trivial) (fun q hq hm => Q3.out.ne Y3.out (by decide) q hq (by simpa using hm)))
   have R4 := Lib.hid (R3.out.fresh TS (fun q hq => by obtain rfl : q = g1 + 1 := (by simpa using hq); have := hw0.out; omega))
   clear TS Y3 X3 D3 Q3 R3
   go_wp2_with fail
   go_roundg (cnt - (k + 1))
   case measure => omega
   case rel => exact ⟨k + 1, s3, c3, rfl, by omega, by push_cast; rfl, by omega, by omega, Y4, Q4, D4, X4, R4⟩
  ·obtain rfl : k = cnt := by omega
   have d : decide ((k : Int) < (k : Int)) = false := by simp
   have Q2 := Q.out
   have D2 := D.out
   rw [hfull.out] at Q2
   rw [hend.out] at D2
   replace Q2 := Lib.hid Q2
   replace D2 := Lib.hid D2
   have u0 := hp_cell (Y.out) 0
   have u1 := hp_cell (Y.out) 1
   have u2 := hp_cell (Y.out) 2
   have u3 := hp_cell (Y.out) 3
   have u4 := hp_cell (Y.out) 4
   have u5 := hp_cell (Y.out) 5
   have u6 := hp_cell (Y.out) 6
   have u7 := hp_cell (Y.out) 7
   have u8 := hp_cell (Y.out) 8
   have u9 := hp_cell (Y.out) 9
   have u10 := hp_cell (Y.out) 10
   have u11 := hp_cell (Y.out) 11
   have u12 := hp_cell (Y.out) 12
   simp only [List.getElem?_toArray, List.getElem?_cons_zero, List.getElem?_cons_succ] at u0 u1 u2 u3 u4 u5 u6 u7 u8 u9 u10 u11 u12
   have z0 := hp_cell (X.out) 0
   have y0 := hp_frz (X.out) 0
   have z1 := hp_cell (X.out) 1
   have y1 := hp_frz (X.out) 1
   have z2 := hp_cell (X.out) 2
   have y2 := hp_frz (X.out) 2
   have z3 := hp_cell (X.out) 3
   have y3 := hp_frz (X.out) 3
   have z4 := hp_cell (X.out) 4
   have y4 := hp_frz (X.out) 4
   have z5 := hp_cell (X.out) 5
   have y5 := hp_frz (X.out) 5
   have z6 := hp_cell (X.out) 6
   have y6 := hp_frz (X.out) 6
   have z7 := hp_cell (X.out) 7
   have y7 := hp_frz (X.out) 7
   have z8 := hp_cell (X.out) 8
   have y8 := hp_frz (X.out) 8
   have z9 := hp_cell (X.out) 9
   have y9 := hp_frz (X.out) 9
   have z10 := hp_cell (X.out) 10
   have y10 := hp_frz (X.out) 10
   have z11 := hp_cell (X.out) 11
   have y11 := hp_frz (X.out) 11
   have z12 := hp_cell (X.out) 12
   have y12 := hp_frz (X.out) 12
   simp only [List.getElem?_toArray, List.getElem?_cons_zero, List.getElem?_cons_succ] at z0 z1 z2 z3 z4 z5 z6 z7 z8 z9 z10 z11 z12
   have TS := still_st13 wr g1 (.int .i64 203) (.int .u32 0) (.int .u32 0) (.int .u64 0) (.int .u32 0) (.int .u32 0) (.int .u32 0) (.slice none 0 0) (.slice none 0 0) (.slice so k co) (.slice none 0 0) (.slice none 0 0) (.int .u64 0)
   have D6 := Lib.hid (D2.out.st TS (fun q hq => by obtain rfl : q = g1 := (by simpa using hq); exact ⟨_, _, _, X.out, by decide, by decide⟩))
   have Q6 := Lib.hid (Q2.out.still TS (fun _ _ => trivial) (fun q hq hm => Q2.out.ne X.out (by decide) q hq (by simpa using hm)))
   have R6 := Lib.hid (R.out.fresh TS (fun q hq => by obtain rfl : q = g1 := (by simpa using hq); have := hw0.out; omega))
   have X6 := Lib.hid (HpB.st13 X.out rfl (.int .i64 203) (.int .u32 0) (.int .u32 0) (.int .u64 0) (.int .u32 0) (.int .u32 0) (.int .u32 0) (.slice none 0 0) (.slice none 0 0) (.slice so k co) (.slice none 0 0) (.slice none 0 0) (.int .u64 0))
   clear D Q R TS Y X D2 Q2
   go_wp2_with fail
   refine bodyPost_ret (results_cell_row (p := 2) rfl _ _ g1 _ _ _ _ rfl X6.out Try.underlying111 rfl (by kernel_rfl)) rfl ?_
   refine ⟨.slice none 0 0, .slice none 0 0, .slice so k co, .slice none 0 0, .slice none 0 0, rfl, ⟨EQ.nil _ _ _ _, EQ.nil _ _ _ _, ?_, EQ.nil _ _ _ _, EQ.nil _ _ _ _⟩, D6.out, R6.out⟩
   dsimp only
   rw [hcc.out, hw0.out]
   exact Q6.out
end Go.Proofs.Ytcempndfbckcaaa

namespace Go.Proofs.Ytcempndfbckcaaa
open Go.RowKit
theorem zeros_put (j : Nat) (r : List Nat) : zeros (j + 1) ++ r = putB 1 0 ++ (zeros j ++ r) := by
 have : putB 1 0 = [0] := by decide
 rw [this]
 rfl
theorem BdV.get {w : World} {base g cnt : Nat} {l : List Nat} (h : BdV w base g cnt l) : ∃ s c, HpB w g (.cells #[.int .i64 (cnt : Nat), .slice s l.length c] 198) ∧ OB w base 5 (.slice s l.length c) l.length l ∧ l.length ≤ c ∧ c ≤ maxLen := by
 obtain ⟨v, h1, h2⟩ := h
 obtain ⟨s, c, rfl, h3, h4⟩ := h2.len
 exact ⟨s, c, h1, h2, h3, h4⟩
abbrev namC (s : Nat) (str : ByteArray) : Array Value := #[.int .u32 (s : Nat), .string str]
set_option maxRecDepth 100000 in
set_option maxHeartbeats 8000000 in
theorem name_ok (base g cnt s : Nat) (nm rest : List Nat) (hs : s < 4294967296) (hby : ByL nm) (hnm : nameB (bstr nm) = true) (hn : nm.length ≤ 16) (hr : rest.length ≤ 4000) (w : World) (h : BdV w base g cnt (putB 4 s ++ (putB 1 1 ++ (putB 1 nm.length ++ (nm ++ (zeros (1 + pad4 (7 + nm.length)) ++ rest)))))) :
  Calls Try.prog 148 #[.pointer (some ⟨g, 0, none⟩)] w fun e w' => e = .returned (.agg #[.int .u32 (s : Nat), .string (bstr nm)]) ∧ BdV w' base g cnt rest ∧ Still [g] w w' := by
 have hpd : (4 : Int) - ((nm.length : Int) + 2) % 4 = ((1 + pad4 (7 + nm.length) : Nat) : Int) := by unfold pad4; omega
 have hpl : 1 + pad4 (7 + nm.length) ≤ 4 := by unfold pad4; omega
 generalize 1 + pad4 (7 + nm.length) = pad at *
 have c1 := fun wz h => Lib.hid (bwordA base g cnt s (putB 1 1 ++ (putB 1 nm.length ++ (nm ++ (zeros pad ++ rest)))) hs (by simp only [List.length_append, putB_len, zeros_len]; omega) wz h)
 have c2 := fun wz h => Lib.hid (show Calls Try.prog 145 #[.pointer (some ⟨g, 0, none⟩), .int .i64 1] wz (fun e w' => e = .returned (.int .u64 1) ∧ BdV w' base g cnt (putB 1 nm.length ++ (nm ++ (zeros pad ++ rest))) ∧ Still [g] wz w') from bnumA base g cnt 1 1 (putB 1 nm.length ++ (nm ++ (zeros pad ++ rest))) (by decide) (by decide) (by decide) (by simp only [List.length_append, putB_len, zeros_len]; omega) wz h)
 have c3 := fun wz h => Lib.hid (bnumA base g cnt 1 nm.length (nm ++ (zeros pad ++ rest)) (by decide) (by decide) (by omega) (by simp only [List.length_append, zeros_len]; omega) wz h)
 have c4 := fun j (hj : j ≤ 4) wz h => Lib.hid (show Calls Try.prog 145 #[.pointer (some ⟨g, 0, none⟩), .int .i64 1] wz (fun e w' => e = .returned (.int .u64 0) ∧ BdV w' base g cnt (zeros j ++ rest) ∧ Still [g] wz w') from bnumA base g cnt 1 0 (zeros j ++ rest) (by decide) (by decide) (by decide) (by simp only [List.length_append, zeros_len]; omega) wz h)
 have cI := fun wz => Lib.hid (isname_ok (bstr nm) (by rw [bstr_size]; omega) wz)
 rw [hnm] at cI
 have cneed := fun wz => Lib.hid (need_ok wz)
 have hTl : (zeros pad ++ rest).length = pad + rest.length := by rw [List.length_append, zeros_len]
 have hcvs := fun wz v (hv : SB wz v nm.length nm) => conv_sb hv
 have hnl : nm.length = nm.length := rfl
 generalize hT : zeros pad ++ rest = T at *
 generalize hA : putB 4 s ++ _ = lA at *
 generalize hB : putB 1 1 ++ _ = lB at *
 generalize hC : putB 1 nm.length ++ _ = lC at *
 have hD1 : (nm ++ T).length = nm.length + T.length := List.length_append
 have htk : (nm ++ T).take nm.length = nm := List.take_left' rfl
 have hdk : (nm ++ T).drop nm.length = T := List.drop_left' rfl
 generalize nm ++ T = D at *
 have hby2 := Lib.hid hby
 clear hA hB hC hs hnm hby hnl
 generalize hnn : nm.length = n at *
 generalize bstr nm = str at *
 have hlt := h.lt
 have BA : BW w (w.alloc (.cells (namC 0 ⟨#[]⟩) 148)) := (BW.refl _).alloc
 have X1 := Lib.hid (HpB.new w (.cells (namC 0 ⟨#[]⟩) 148))
 have D1 := Lib.hid (h.bw BA)
 have R1 := Lib.hid (BA.still [g])
 clear h
 replace hT := Lib.hid hT
 replace hTl := Lib.hid hTl
 replace hD1 := Lib.hid hD1
 replace htk := Lib.hid htk
 replace hdk := Lib.hid hdk
 replace hnn := Lib.hid hnn
 go_enter Try.func148, Try.ntmps148
 go_upto_region 1 with (fail)
 generalize (w.alloc _) = w1 at *
 generalize hw0 : w.heap.size = g1 at *
 replace hw0 := Lib.hid hw0
 have hg1 : g1 ∉ [g] := by simp; omega
 clear BA
 go_wp2_with fail
 refine Calls.mono (c1 _ D1.out).out ?_
 rintro e w2 ⟨rfl, D2, T2⟩
 have X2 := Lib.hid (X1.out.st T2 hg1)
 have R2 := Lib.hid (R1.out.trans T2)
 have hlt2 := X2.out.lt
 clear D1 X1 R1 c1 T2
 dsimp only
 have BC : BW w2 (w2.alloc (.cells (namC s ⟨#[]⟩) 148)) := (BW.refl _).alloc
 have Y3 := Lib.hid (HpB.new w2 (.cells (namC s ⟨#[]⟩) 148))
 have X3 := Lib.hid (X2.out.bw BC)
 have R3 := Lib.hid (R2.out.new BC)
 have k2 := c2 _ (D2.bw BC)
 clear D2 X2 R2 c2
 replace BC := Lib.hid BC
 go_upto_region 2 with (fail)
 generalize (w2.alloc _) = w3 at *
 generalize w2.heap.size = g3 at *
 have hlt0 : g < g1 := by have := hw0.out; omega
 have hg3 : g3 ∉ [g] := by simp; omega
 have h31 : g3 ≠ g1 := by omega
 clear BC
 go_wp2_with fail
 refine Calls.mono k2.out ?_
 rintro e w4 ⟨rfl, D4, T4⟩
 have X4 := Lib.hid (X3.out.st T4 hg1)
 have Y4 := Lib.hid (Y3.out.st T4 hg3)
 have R4 := Lib.hid (R3.out.trans T4)
 have k3 := c3 w4 D4
 clear k2 X3 Y3 R3 T4 D4 c3
 dsimp only
 go_wp2_with fail
 refine Calls.mono (cneed w4).out ?_
 rintro e w' ⟨rfl, rfl⟩
 dsimp only
 go_wp2_with fail
 refine Calls.mono k3.out ?_
 rintro e w5 ⟨rfl, D5, T5⟩
 have X5 := Lib.hid (X4.out.st T5 hg1)
 have Y5 := Lib.hid (Y4.out.st T5 hg3)
 have R5 := Lib.hid (R4.out.trans T5)
 clear k3 X4 Y4 R4 T5
 dsimp only
 obtain ⟨sb, cb, H5, O5, hcb, hmb⟩ := D5.get
 unfold maxLen at hmb
 have hDn : n ≤ D.length := by have := hD1.out; omega
 have hle : decide ((n : Int) ≤ (D.length : Int)) = true := by simp; omega
 have V5 := Lib.hid (O5.sb.takeH n hDn)
 have e5 := htk.out
 rw [e5] at V5
 have cvs := hcvs w5 _ V5.out
 have hcH := fun w => run_cut_h (P := Try.prog) Try.underlying36 info_u8 sb D.length cb n (n : Int) rfl .i64 (by omega) w
 have z1 := (hp_cell H5 1).trans (show _ = some (.slice sb D.length cb) from rfl)
 have u0 := (hp_cell Y5.out 0).trans (show _ = some (.int .u32 (s : Nat)) from rfl)
 have u1 := (hp_cell Y5.out 1).trans (show _ = some (.string ⟨#[]⟩) from rfl)
 have f1 := hp_frz Y5.out 1
 have T6 := still_sc w5 g3 1 (.string str)
 have Y6 := Lib.hid (show HpB _ g3 (.cells (namC s str) 148) from hp_set Y5.out 1 (.string str))
 have X6 := Lib.hid (X5.out.st T6 (by simpa using h31.symm))
 have D6 := Lib.hid (D5.st T6 (fun k hk => by obtain rfl : k = g3 := (by simpa using hk); exact ⟨_, _, _, Y5.out, by decide, by decide⟩))
 have R6 := Lib.hid (R5.out.fresh T6 (fun k hk => by obtain rfl : k = g3 := (by simpa using hk); have := hw0.out; omega))
 generalize hDl : D.length = dl at *
 have hdl2 : (dl : Int) ≤ 9223372036854775807 := by omega
 clear X5 T6 O5 D5 H5 R5 V5
 replace e5 := Lib.hid e5
 replace hDl := Lib.hid hDl
 go_upto_region 5 with (fail)
 clear hle
 go_wp2_with fail
 refine Calls.mono (cneed w5).out ?_
 rintro e w' ⟨rfl, rfl⟩
 dsimp only
 go_upto_region 6 with (fail)
 clear u0 u1 z1 f1 hcH cvs hcvs Y5
 generalize (w5.setCell _ _) = w6 at *
 have u1 := (hp_cell Y6.out 1).trans (show _ = some (.string str) from rfl)
 go_wp2_with fail
 refine Calls.mono (cI w6).out ?_
 rintro e w7 ⟨rfl, hb⟩
 have X7 := Lib.hid (X6.out.bw hb)
 have Y7 := Lib.hid (Y6.out.bw hb)
 have D7 := D6.bw hb
 have R7 := Lib.hid (R6.out.trans (hb.still [g]))
 clear hb cI u1 X6 Y6 D6 R6
 dsimp only
 go_wp2_with fail
 refine Calls.mono (cneed w7).out ?_
 rintro e w' ⟨rfl, rfl⟩
 dsimp only
 obtain ⟨s7, c7, H7, O7, hc7, hm7⟩ := D7.get
 unfold maxLen at hm7
 rw [hDl.out] at H7 O7 hc7
 have O8 := O7.cut n dl c7 hDn (Nat.le_refl _) hc7 (Nat.le_refl _)
 have eT : (D.drop n).take (dl - n) = T := by
  rw [hdk.out]
  exact List.take_of_length_le (by have := hD1.out; have := hDl.out; omega)
 have hTn : dl - n = T.length := by have := hD1.out; have := hDl.out; omega
 rw [eT] at O8
 have hcL := fun w => run_cut_l (P := Try.prog) Try.underlying36 info_u8 s7 dl c7 n (n : Int) rfl .i64 (by have := hDl.out; omega) w
 have z1 := (hp_cell H7 1).trans (show _ = some (.slice s7 dl c7) from rfl)
 have f1 := hp_frz H7 1
 have H9 := hp_set H7 1 (.slice (cutA s7 n c7 1) (dl - n) (c7 - n))
 have T9 := still_scB w7 g 1 (.slice (cutA s7 n c7 1) (dl - n) (c7 - n))
 have O9 := O8.still T9 (fun k hk hm => O8.2.2.ne H7 (by decide) k hk (by simpa using hm))
 have X9 := Lib.hid (X7.out.st T9 hg1)
 have Y9 := Lib.hid (Y7.out.st T9 hg3)
 have R9 := Lib.hid (R7.out.trans T9)
 have D9 : Hid (BdV (w7.setCell ⟨g, 1, none⟩ (.slice (cutA s7 n c7 1) (dl - n) (c7 - n))) base g cnt T) := ⟨_, H9, by rw [← hTn]; exact O9⟩
 clear X7 Y7 D7 R7 O7 O8 O9 H7 H9 T9 eT hTn
 go_upto_region 8 with (fail)
 clear z1 f1 hcL
 generalize (w7.setCell _ _) = w9 at *
 rw [← hT.out] at D9
 go_upto_region 9 with (fail)
 clear hpd
 go_loopg [5] pad (fun m' a wx => ∃ j, j = m' ∧ j ≤ pad ∧ a = .int .i64 (j : Nat) ∧ Hid (HpB wx g1 (.cells (namC 0 ⟨#[]⟩) 148)) ∧ Hid (HpB wx g3 (.cells (namC s str) 148)) ∧ Hid (BdV wx base g cnt (zeros j ++ rest)) ∧ Hid (Still [g] w wx))
 case atStart => exact ⟨pad, rfl, Nat.le_refl _, rfl, X9, Y9, D9, R9⟩
 case round =>
  clear X9 Y9 D9 R9
  obtain ⟨j, rfl, hj, rfl, X, Y, D', R⟩ := hrel
  cases j with
  | zero =>
   have d : decide ((0 : Int) < ((0 : Nat) : Int)) = false := by simp
   have u0 := hp_cell (Y.out) 0
   have u1 := hp_cell (Y.out) 1
   simp only [List.getElem?_toArray, List.getElem?_cons_zero, List.getElem?_cons_succ] at u0 u1
   have z0 := hp_cell (X.out) 0
   have y0 := hp_frz (X.out) 0
   have z1 := hp_cell (X.out) 1
   have y1 := hp_frz (X.out) 1
   simp only [List.getElem?_toArray, List.getElem?_cons_zero, List.getElem?_cons_succ] at z0 z1
   have TS := (still_scB wr g1 0 (.int .u32 (s : Nat))).trans (still_scB _ g1 1 (.string str))
   have X6 := Lib.hid (show HpB ((wr.setCell ⟨g1, 0, none⟩ (.int .u32 (s : Nat))).setCell ⟨g1, 1, none⟩ (.string str)) g1 (.cells (namC s str) 148) from hp_set (hp_set X.out 0 _) 1 _)
   have D6 := Lib.hid (D'.out.st TS (fun q hq => by obtain rfl : q = g1 := (by simpa using hq); exact ⟨_, _, _, X.out, by decide, by decide⟩))
   have R6 := Lib.hid (R.out.fresh TS (fun q hq => by obtain rfl : q = g1 := (by simpa using hq); have := hw0.out; omega))
   clear D' R TS X Y c4
   go_wp2_with fail
   refine bodyPost_ret (results_cell_row (p := 2) rfl _ _ g1 _ _ _ _ rfl X6.out Try.underlying148 rfl (by kernel_rfl)) rfl ?_
   exact ⟨rfl, by have := D6.out; simpa [zeros] using this, R6.out⟩
  | succ j =>
   have d : decide ((0 : Int) < ((j + 1 : Nat) : Int)) = true := decide_eq_true (by omega)
   have D2 := D'.out
   rw [zeros_put] at D2
   have c4a := c4 j (by omega) wr D2
   clear D' D2
   go_wp2_with fail
   refine Calls.mono c4a.out ?_
   rintro e wa ⟨rfl, Da, Ta⟩
   have Xa := Lib.hid (X.out.st Ta hg1)
   have Ya := Lib.hid (Y.out.st Ta hg3)
   have Ra := Lib.hid (R.out.trans Ta)
   replace Da := Lib.hid Da
   clear X Y R Ta c4a
   dsimp only
   go_wp2_with fail
   refine Calls.mono (cneed wa).out ?_
   rintro e w' ⟨rfl, rfl⟩
   dsimp only
   go_wp2_with fail
   go_roundg j
   case measure => omega
   case rel => exact ⟨j, rfl, by omega, by first | rfl | (congr 1; omega) | (simp; done), Xa, Ya, Da, Ra⟩
end Go.Proofs.Ytcempndfbckcaaa

namespace Go.Proofs.Ytcempndfbckcaaa
open Go.RowKit
theorem namW_right (p : Nat × List Nat) (rest : List Nat) : namW p ++ rest = putB 4 p.1 ++ (putB 1 1 ++ (putB 1 p.2.length ++ (p.2 ++ (zeros (1 + pad4 (7 + p.2.length)) ++ rest)))) := by
 have e : zeros (1 + pad4 (7 + p.2.length)) = [0] ++ zeros (pad4 (7 + p.2.length)) := by
  rw [Nat.add_comm]; rfl
 rw [e]
 simp only [namW, wordsB_cons, wordsB_nil, List.append_assoc, List.append_nil, List.nil_append]
theorem namsB_drop (L : List (Nat × List Nat)) (k : Nat) (h : k < L.length) : namsB (L.drop k) = namW (L[k]) ++ namsB (L.drop (k + 1)) := by
 rw [List.drop_eq_getElem_cons h]
 rfl
abbrev namsC (so : Option Addr) (k co : Nat) : Array Value := #[.int .i64 202, .int .u32 0, .int .u32 0, .int .u64 0, .int .u32 0, .int .u32 0, .int .u32 0, .slice none 0 0, .slice so k co, .slice none 0 0, .slice none 0 0, .slice none 0 0, .int .u64 0]
set_option maxRecDepth 100000 in
set_option maxHeartbeats 8000000 in
theorem names_ok (cnt : Nat) (L : List (Nat × List Nat)) (hL : ∀ p ∈ L, p.1 < 4294967296 ∧ ByL p.2 ∧ nameB (bstr p.2) = true ∧ p.2.length ≤ 16) (hc : L.length = cnt) (hcn : cnt ≤ 16) :
  ReadsTo 134 cnt (namsB L) ⟨202, 0, 0, 0, 0, 0, 0, [], L, [], [], [], 0⟩ := by
 intro base g w hr
 have cc := fun w => Lib.hid (counted_ok cnt hcn w)
 have hlt := hr.lt
 have BA : BW w (w.alloc (.cells zctl 111)) := (BW.refl _).alloc
 have BB : BW (w.alloc (.cells zctl 111)) ((w.alloc (.cells zctl 111)).alloc (.cells (namsC none 0 0) 111)) := (BW.refl _).alloc
 have X0 := Lib.hid ((HpB.new w (.cells zctl 111)).bw BB)
 have Y0 := Lib.hid (show HpB _ (w.heap.size + 1) _ from hp_new (w.alloc (.cells zctl 111)) (.cells (namsC none 0 0) 111) (w.heap.size + 1) (by simp))
 have D0 := Lib.hid (hr.bw (BA.trans BB))
 have R0 := Lib.hid ((BA.trans BB).still [g])
 have hdz : namsB (L.drop 0) = namsB L := rfl
 have hst := fun k (h : k < L.length) => namsB_drop L k h
 have hsn := fun k (h : k < L.length) => (List.take_succ_eq_append_getElem h)
 have hxx := fun k (h : k < L.length) => hL _ (List.getElem_mem h)
 have hwl := fun k => namsB_len (L.drop k) (fun p hp => by have := (hL p (List.mem_of_mem_drop hp)).2.2.2; omega)
 have hfull : L.take cnt = L := by rw [← hc, List.take_length]
 have hend : namsB (L.drop cnt) = [] := by rw [← hc, List.drop_length]; rfl
 rw [← hdz] at D0
 have hcc := Lib.hid hc
 clear hdz hL hr hc
 replace BA := Lib.hid BA
 replace BB := Lib.hid BB
 replace hst := Lib.hid hst
 replace hsn := Lib.hid hsn
 replace hxx := Lib.hid hxx
 replace hwl := Lib.hid hwl
 replace hfull := Lib.hid hfull
 replace hend := Lib.hid hend
 go_enter Try.func134, Try.ntmps134
 go_upto_region 2 with (fail)
 generalize ((w.alloc _).alloc _) = w1 at *
 generalize hw0 : w.heap.size = g1 at *
 replace hw0 := Lib.hid hw0
 have hg1 : Hid (g < g1) := Lib.hid hlt
 clear BA BB
 have c0 : w1.cell? ⟨g, 0, none⟩ = some (.int .i64 (cnt : Nat)) := by
  obtain ⟨v, h1, _⟩ := D0.out
  exact hp_cell h1 0
 go_wp2_with fail
 refine Calls.mono (cc w1).out ?_
 rintro e w' ⟨rfl, rfl⟩
 dsimp only
 clear c0 cc
 go_upto_region 3 with (fail)
 go_loopg [10] cnt (fun m' a wx => ∃ (k : Nat) (so : Option Addr) (co : Nat), m' = cnt - k ∧ k ≤ cnt ∧ a = .int .i64 (k : Nat) ∧ k ≤ co ∧ co ≤ 9223372036854775807 ∧ Hid (HpB wx (g1 + 1) (.cells (namsC so k co) 111)) ∧ Hid (EQ EM 148 wx g1 (.slice so k co) k (L.take k)) ∧ Hid (BdV wx base g cnt (namsB (L.drop k))) ∧ Hid (HpB wx g1 (.cells zctl 111)) ∧ Hid (Still [g] w wx))
 case atStart => exact ⟨0, none, 0, rfl, by omega, rfl, Nat.le_refl _, by omega, Y0, Lib.hid (EQ.nil _ _ _ _), D0, X0, R0⟩
 case round =>
  clear X0 Y0 D0 R0
  obtain ⟨k, so, co, rfl, hk, rfl, hkc, hco, Y, Q, D, X, R⟩ := hrel
  by_cases hkn : k < cnt
  ·have d : decide ((k : Int) < (cnt : Int)) = true := by simp; omega
   have hkl : k < L.length := by rw [hcc.out]; exact hkn
   have hs1 := hst.out k hkl
   have hn1 := hsn.out k hkl
   have hx1 := hxx.out k hkl
   have hl1 := hwl.out (k + 1)
   have hlk : (L.drop (k + 1)).length ≤ 16 := by rw [List.length_drop, hcc.out]; omega
   generalize L[k] = x at *
   obtain ⟨xs, nm⟩ := x
   obtain ⟨hx1, hx2, hx3, hx4⟩ := hx1
   dsimp only at hx1 hx2 hx3 hx4
   have cw := fun wz h => Lib.hid (name_ok base g cnt xs nm (namsB (L.drop (k + 1))) hx1 hx2 hx3 hx4 (by omega) wz h)
   rw [← namW_right (xs, nm), ← hs1] at cw
   clear hl1 hlk hs1 hx1 hx2 hx3 hx4
   replace hn1 := Lib.hid hn1
   have hng : Hid (g1 + 1 ≠ g ∧ g1 ≠ g) := by have := hg1.out; show _ ∧ _; omega
   go_upto_region 4 with (fail)
   have l9 : ∀ y : LaterS [g] wr, y.now.cell? ⟨g1 + 1, 8, none⟩ = some (.slice so k co) := fun y => y.cell ((hp_cell Y.out 8).trans rfl) (by have := hng.out.1; simpa using this)
   refine wp_region_gg ([g]) [3] [5] (by kernel_rfl) ?_
   refine hoist ([g]) [] (a1 := ?_) 0 rfl (by kernel_rfl) (.inr rfl) rfl rfl rfl (fun x K hK => ?_) ?_
   rotate_left
   ·go_big_quiet_op
    exact hK
   refine hoist ([g]) [] (a1 := ?_) 1 rfl (by kernel_rfl) (.inr rfl) rfl rfl rfl (fun x K hK => ?_) ?_
   rotate_left
   ·go_big_quiet_op
    exact hK
   refine hoist [] [3] (a1 := ?_) 2 rfl (by kernel_rfl) (.inl ⟨rfl, rfl⟩) rfl rfl rfl (fun x K hK => ?_) ?_
   rotate_left
   ·go_big_quiet_op
    exact hK
   refine effect 3 rfl (by kernel_rfl) (by kernel_rfl) rfl (fun x3 K hK => ?_)
   go_simp
   refine Calls.mono (cw x3.now (D.out.bw x3.bw)).out ?_
   rintro e w7 ⟨rfl, D7, T7⟩
   refine hK _ _ T7 ?_
   clear hK K
   have Y7 := Lib.hid ((Y.out.bw x3.bw).st T7 (by have := hng.out.1; simpa using this))
   have X7 := Lib.hid ((X.out.bw x3.bw).st T7 (by have := hng.out.2; simpa using this))
   have hgd := D.out.row
   have Q7 := Lib.hid ((Q.out.bw x3.bw).still T7 (fun _ _ => trivial) (fun q hq hm => by obtain rfl : q = g := (by simpa using hm); obtain ⟨cs, hcs⟩ := hgd; exact Q.out.ne hcs (by decide) _ hq rfl))
   have R7 := Lib.hid ((R.out.trans (x3.bw.still [g])).trans T7)
   replace D7 := Lib.hid D7
   clear T7 Y X Q R D cw l9 hgd
   try simp only [Act.put, List.setIfInBounds_toArray, List.set_cons_succ, List.set_cons_zero]
   refine effect 4 rfl (by kernel_rfl) (by kernel_rfl) rfl (fun x4 K hK => ?_)
   go_simp
   refine hK _ _ (Still.of_below ((Below.refl _ _).alloc (Nat.le_refl _) _)) ?_
   clear hK K
   have hb := x4.bw.trans ((BW.refl x4.now).alloc (o := .cells #[.int .u32 (xs : Nat), .string (bstr nm)] 148))
   have L8 := Lib.hid (Sls.new1 (E := EM) x4.now 148 [.int .u32 (xs : Nat), .string (bstr nm)] rfl)
   have Y8 := Lib.hid (Y7.out.bw hb)
   have X8 := Lib.hid (X7.out.bw hb)
   have Q8 := Lib.hid (Q7.out.bw hb)
   have D8 := Lib.hid (D7.out.bw hb)
   have R8 := Lib.hid (R7.out.trans (hb.still [g]))
   clear hb Y7 X7 Q7 D7 R7
   generalize (x4.now.alloc _) = w8 at *
   generalize x4.now.heap.size = g8 at *
   try simp only [Act.put, List.setIfInBounds_toArray, List.set_cons_succ, List.set_cons_zero]
   refine tail 5 rfl (by kernel_rfl) rfl (fun xr => ?_)
   simp only [List.drop_succ_cons, List.drop_zero]
   have L9 := Lib.hid (L8.out.bw xr.bw)
   have Y9 := Lib.hid (Y8.out.bw xr.bw)
   have X9 := Lib.hid (X8.out.bw xr.bw)
   have Q9 := Lib.hid (Q8.out.bw xr.bw)
   have D9 := Lib.hid (D8.out.bw xr.bw)
   have R9 := Lib.hid (R8.out.trans (xr.bw.still [g]))
   clear L8 Y8 X8 Q8 D8 R8
   generalize xr.now = w9 at *
   have hz9 : g1 ≤ w9.heap.size := by have := R9.out.size; have := hw0.out; omega
   go_upto_region 5 with (at_builtin; go_must (refine wpList_apEQ slEM rfl _ _ rfl g1 (.slice so k co) k (L.take k) rfl Q9.out _ rfl 1 [(xs, nm)] [.int .u32 (xs : Nat), .string (bstr nm)] L9.out (EL.single rfl) rfl (by omega) hz9 (fun _ _ => trivial) ?_; intro s3 c3 w3 hc3 hm3 Q3 T3 hb3 G3; unfold maxLen at hm3; replace T3 : Still (Value.slice so k co).ownBlock.toList _ w3 := T3; have Y3 := Lib.hid (Y9.out.st T3 (fun hm => Q9.out.ne Y9.out (by decide) _ (by simpa using hm) rfl)); have X3 := Lib.hid (X9.out.st T3 (fun hm => Q9.out.ne X9.out (by decide) _ (by simpa using hm) rfl)); have D3 := Lib.hid (D9.out.st T3 (fun q hq => by obtain ⟨cs, hcs⟩ := Q9.out.row q (by simpa using hq); exact ⟨_, _, _, hcs, by decide, by decide⟩)); have R3 := Lib.hid (R9.out.fresh T3 (fun q hq => by have := Q9.out.ge' q (by simpa using hq); have := hw0.out; omega)); rw [← hn1.out] at Q3; replace Q3 := Lib.hid Q3; clear T3 hb3 G3 Y9 X9 D9 R9 Q9 L9; have z9 := (hp_cell Y3.out 8).trans (show _ = some (.slice so k co) from rfl); have f9 := hp_frz Y3.out 8))
   clear z9 f9
   have TS := still_sc w3 (g1 + 1) 8 (.slice s3 (k + 1) c3)
   have Y4 : Hid (HpB (w3.setCell ⟨g1 + 1, 8, none⟩ (.slice s3 (k + 1) c3)) (g1 + 1) (.cells (namsC s3 (k + 1) c3) 111)) := hp_set Y3.out 8 _
   have X4 := Lib.hid (X3.out.st TS (by simp))
   have D4 := Lib.hid (D3.out.st TS (fun q hq => by obtain rfl : q = g1 + 1 := (by simpa using hq); exact ⟨_, _, _, Y3.out, by decide, by decide⟩))
   have Q4 := Lib.hid (Q3.out.still TS (fun _ _ => trivial) (fun q hq hm => Q3.out.ne Y3.out (by decide) q hq (by simpa using hm)))
   have R4 := Lib.hid (R3.out.fresh TS (fun q hq => by obtain rfl : q = g1 + 1 := (by simpa using hq); have := hw0.out; omega))
   clear TS Y3 X3 D3 Q3 R3
   go_wp2_with fail
   go_roundg (cnt - (k + 1))
   case measure => omega
   case rel => exact ⟨k + 1, s3, c3, rfl, by omega, by push_cast; rfl, by omega, by omega, Y4, Q4, D4, X4, R4⟩
  ·obtain rfl : k = cnt := by omega
   have d : decide ((k : Int) < (k : Int)) = false := by simp
   have Q2 := Q.out
   have D2 := D.out
   rw [hfull.out] at Q2
   rw [hend.out] at D2
   replace Q2 := Lib.hid Q2
   replace D2 := Lib.hid D2
   have u0 := hp_cell (Y.out) 0
   have u1 := hp_cell (Y.out) 1
   have u2 := hp_cell (Y.out) 2
   have u3 := hp_cell (Y.out) 3
   have u4 := hp_cell (Y.out) 4
   have u5 := hp_cell (Y.out) 5
   have u6 := hp_cell (Y.out) 6
   have u7 := hp_cell (Y.out) 7
   have u8 := hp_cell (Y.out) 8
   have u9 := hp_cell (Y.out) 9
   have u10 := hp_cell (Y.out) 10
   have u11 := hp_cell (Y.out) 11
   have u12 := hp_cell (Y.out) 12
   simp only [List.getElem?_toArray, List.getElem?_cons_zero, List.getElem?_cons_succ] at u0 u1 u2 u3 u4 u5 u6 u7 u8 u9 u10 u11 u12
   have z0 := hp_cell (X.out) 0
   have y0 := hp_frz (X.out) 0
   have z1 := hp_cell (X.out) 1
   have y1 := hp_frz (X.out) 1
   have z2 := hp_cell (X.out) 2
   have y2 := hp_frz (X.out) 2
   have z3 := hp_cell (X.out) 3
   have y3 := hp_frz (X.out) 3
   have z4 := hp_cell (X.out) 4
   have y4 := hp_frz (X.out) 4
   have z5 := hp_cell (X.out) 5
   have y5 := hp_frz (X.out) 5
   have z6 := hp_cell (X.out) 6
   have y6 := hp_frz (X.out) 6
   have z7 := hp_cell (X.out) 7
   have y7 := hp_frz (X.out) 7
   have z8 := hp_cell (X.out) 8
   have y8 := hp_frz (X.out) 8
   have z9 := hp_cell (X.out) 9
   have y9 := hp_frz (X.out) 9
   have z10 := hp_cell (X.out) 10
   have y10 := hp_frz (X.out) 10
   have z11 := hp_cell (X.out) 11
   have y11 := hp_frz (X.out) 11
   have z12 := hp_cell (X.out) 12
   have y12 := hp_frz (X.out) 12
   simp only [List.getElem?_toArray, List.getElem?_cons_zero, List.getElem?_cons_succ] at z0 z1 z2 z3 z4 z5 z6 z7 z8 z9 z10 z11 z12
   have TS := still_st13 wr g1 (.int .i64 202) (.int .u32 0) (.int .u32 0) (.int .u64 0) (.int .u32 0) (.int .u32 0) (.int .u32 0) (.slice none 0 0) (.slice so k co) (.slice none 0 0) (.slice none 0 0) (.slice none 0 0) (.int .u64 0)
   have D6 := Lib.hid (D2.out.st TS (fun q hq => by obtain rfl : q = g1 := (by simpa using hq); exact ⟨_, _, _, X.out, by decide, by decide⟩))
   have Q6 := Lib.hid (Q2.out.still TS (fun _ _ => trivial) (fun q hq hm => Q2.out.ne X.out (by decide) q hq (by simpa using hm)))
   have R6 := Lib.hid (R.out.fresh TS (fun q hq => by obtain rfl : q = g1 := (by simpa using hq); have := hw0.out; omega))
   have X6 := Lib.hid (HpB.st13 X.out rfl (.int .i64 202) (.int .u32 0) (.int .u32 0) (.int .u64 0) (.int .u32 0) (.int .u32 0) (.int .u32 0) (.slice none 0 0) (.slice so k co) (.slice none 0 0) (.slice none 0 0) (.slice none 0 0) (.int .u64 0))
   clear D Q R TS Y X D2 Q2
   go_wp2_with fail
   refine bodyPost_ret (results_cell_row (p := 2) rfl _ _ g1 _ _ _ _ rfl X6.out Try.underlying111 rfl (by kernel_rfl)) rfl ?_
   refine ⟨.slice none 0 0, .slice so k co, .slice none 0 0, .slice none 0 0, .slice none 0 0, rfl, ⟨EQ.nil _ _ _ _, ?_, EQ.nil _ _ _ _, EQ.nil _ _ _ _, EQ.nil _ _ _ _⟩, D6.out, R6.out⟩
   dsimp only
   rw [hcc.out, hw0.out]
   exact Q6.out
end Go.Proofs.Ytcempndfbckcaaa
