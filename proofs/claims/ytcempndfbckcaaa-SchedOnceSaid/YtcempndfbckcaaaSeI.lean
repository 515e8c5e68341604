/- The table of tasks: no table; the document's example; the law SchedNone. No condition. -/
import Derived.Test.YtcempndfbckcaaaSeH
namespace Go.Proofs.Ytcempndfbckcaaa
open Go.RowKit

set_option maxRecDepth 100000 in
set_option maxHeartbeats 8000000 in
theorem nilAt_any (tick each : Int) (s : ByteArray) (w : World) :
    Calls Try.prog 50 #[.pointer none, .int .i64 tick, .int .i64 each, .string s] w fun e w' => e = .returned (.tuple #[.int .i64 0, .int .i64 1]) ∧ w' = w := by
  go_enter Try.func50, Try.ntmps50
  go_wp2_with fail
  go_ret2
  exact ⟨rfl, rfl⟩
set_option maxRecDepth 100000 in
set_option maxHeartbeats 8000000 in
theorem nilDue_any (tick : Int) (w : World) :
    Calls Try.prog 51 #[.pointer none, .int .i64 tick] w fun e w' => e = .returned (.slice none 0 0) ∧ w' = w := by
  go_enter Try.func51, Try.ntmps51
  go_wp2_with fail
  go_ret
  exact ⟨rfl, rfl⟩
set_option maxRecDepth 100000 in
set_option maxHeartbeats 8000000 in
theorem nilFind_any (n : Int) (w : World) :
    Calls Try.prog 93 #[.pointer none, .int .i64 n] w fun e w' => e = .returned (.int .i64 (-1)) ∧ BW w w' := by
  have B := Lib.hid (show BW w (w.alloc (.cells #[.int .i64 n] 3)) from (BW.refl w).alloc)
  go_enter Try.func93, Try.ntmps93
  go_wp2_with fail
  go_ret
  exact ⟨rfl, B.out⟩
set_option maxRecDepth 100000 in
set_option maxHeartbeats 8000000 in
theorem nilStop_any (n : Int) (w : World) :
    Calls Try.prog 58 #[.pointer none, .int .i64 n] w fun e w' => e = .returned (.int .i64 9) ∧ BW w w' := by
  have c := Lib.hid (nilFind_any n w)
  go_enter Try.func58, Try.ntmps58
  go_wp2_with fail
  refine c.out.mono ?_
  rintro e w1 ⟨rfl, hb⟩
  have B := Lib.hid hb
  clear c hb
  dsimp only
  go_wp2_with fail
  go_ret
  exact ⟨rfl, B.out⟩
set_option maxRecDepth 100000 in
set_option maxHeartbeats 8000000 in
theorem nilMove_any (n tick : Int) (w : World) :
    Calls Try.prog 59 #[.pointer none, .int .i64 n, .int .i64 tick] w fun e w' => e = .returned (.int .i64 9) ∧ BW w w' := by
  have c := Lib.hid (nilFind_any n w)
  go_enter Try.func59, Try.ntmps59
  go_wp2_with fail
  refine c.out.mono ?_
  rintro e w1 ⟨rfl, hb⟩
  have B := Lib.hid hb
  clear c hb
  dsimp only
  go_wp2_with fail
  go_ret
  exact ⟨rfl, B.out⟩
set_option maxRecDepth 100000 in
set_option maxHeartbeats 8000000 in
theorem nilTNext_any (w : World) :
    Calls Try.prog 57 #[.pointer none] w fun e w' => e = .returned (.tuple #[.int .i64 0, .bool false]) ∧ w' = w := by
  go_enter Try.func57, Try.ntmps57
  go_wp2_with fail
  go_ret2
  exact ⟨rfl, rfl⟩
set_option maxRecDepth 100000 in
set_option maxHeartbeats 8000000 in
theorem nilTLen_any (w : World) :
    Calls Try.prog 60 #[.pointer none] w fun e w' => e = .returned (.int .i64 0) ∧ w' = w := by
  go_enter Try.func60, Try.ntmps60
  go_wp2_with fail
  go_ret
  exact ⟨rfl, rfl⟩
/-- A table made behind world w0. -/
structure TabA (w0 w : World) (g0 : Nat) (sa : Option Addr) (cv : Nat) (last : Int) (S H : List Tk) : Prop where
  i : TabI w w0.heap.size g0 sa cv last S H
  b : BW w0 w
  g : w0.heap.size ≤ g0
theorem TabA.bw {w0 w w' : World} {g0 sa cv last S H} (h : TabA w0 w g0 sa cv last S H) (hb : BW w w') : TabA w0 w' g0 sa cv last S H := ⟨h.i.bw hb, h.b.trans hb, h.g⟩
/-- What was told stays. -/
theorem TabA.told {w0 w w' : World} {g0 sa cv last S H} (h : TabA w0 w g0 sa cv last S H) (T : Still (g0 :: (Value.slice sa S.length cv).ownBlock.toList) w w') {base : Nat} {v : Value} {n : Nat} {l : List ByteArray} (q : EQ StE 9 w base v n l) : EQ StE 9 w' base v n l :=
  q.still T (fun _ _ => trivial) fun k hk hm => by
    rcases List.mem_cons.1 hm with rfl | hm
    · exact q.ne h.i.hp (by decide) k hk rfl
    · obtain ⟨cs, hh⟩ := h.i.eq.row k (by simpa using hm)
      exact q.ne hh (by decide) k hk rfl
theorem atA (g0 cv : Nat) (sa : Option Addr) (last : Int) (S S1 H : List Tk) (tick each last1 : Int) (s : ByteArray) (hS : insT ⟨last1, tick, each, s⟩ S = S1) (hl1 : last + 1 = last1) (ht : 0 ≤ tick ∧ tick ≤ 1099511627776) (he : 0 ≤ each ∧ each ≤ 1099511627776) (hs : s.size ≤ 32) (hn : S.length < 64) (hl : last < 1000) (w0 w : World) (h : TabA w0 w g0 sa cv last S H) :
    Calls Try.prog 50 #[.pointer (some ⟨g0, 0, none⟩), .int .i64 tick, .int .i64 each, .string s] w fun e w' => e = .returned (.tuple #[.int .i64 last1, .int .i64 0]) ∧ ∃ sb cc H', TabA w0 w' g0 sb cc last1 S1 H' := by
  refine (tat_ok w0.heap.size g0 cv sa last S H tick each s ht he hs hn hl w h.b.size h.i).mono ?_
  rw [hl1, hS]
  rintro e w' ⟨rfl, sb, cc, H', I, T⟩
  exact ⟨rfl, sb, cc, H', I, BW.stP h.b T (h.i.ge h.g), h.g⟩
theorem dueA (g0 cv : Nat) (sa : Option Addr) (last : Int) (S S1 H : List Tk) (tick : Int) (l : List ByteArray) (k : Nat) (hR : dueS tick S = (S1, l)) (hk : l.length = k) (ht : tick ≤ 562949953421312) (hn : S.length ≤ 100) (w0 w : World) (h : TabA w0 w g0 sa cv last S H) :
    Calls Try.prog 51 #[.pointer (some ⟨g0, 0, none⟩), .int .i64 tick] w fun e w' => ∃ sb cc H' so co, e = .returned (.slice so k co) ∧ EQ StE 9 w' w0.heap.size (.slice so k co) k l ∧ TabA w0 w' g0 sb cc last S1 H' ∧ Still (g0 :: (Value.slice sa S.length cv).ownBlock.toList) w w' := by
  refine (tdue_any w0.heap.size g0 cv sa last S H tick ht hn w h.b.size h.i).mono ?_
  rw [hR]
  rintro e w' ⟨sb, cc, H', so, co, rfl, Q, I, T⟩
  dsimp only at Q I ⊢
  rw [hk] at Q ⊢
  exact ⟨sb, cc, H', so, co, rfl, Q, ⟨I, BW.stP h.b T (h.i.ge h.g), h.g⟩, T⟩
def tA (t : Int) : Tk := ⟨1, t, 3, ⟨#[97]⟩⟩
def tB : Tk := ⟨2, 5, 0, ⟨#[98]⟩⟩
theorem tP1 : insT ⟨1, 5, 3, ⟨#[97]⟩⟩ [] = [tA 5] := by kernel_rfl
theorem tP2 : insT ⟨2, 5, 0, ⟨#[98]⟩⟩ [tA 5] = [tA 5, tB] := by kernel_rfl
theorem tP3 : dueS 4 [tA 5, tB] = ([tA 5, tB], []) := by kernel_rfl
theorem tP4 : dueS 5 [tA 5, tB] = ([tA 8], [⟨#[97]⟩, ⟨#[98]⟩]) := by kernel_rfl
theorem tP5 : dueS 14 [tA 8] = ([tA 17], [⟨#[97]⟩]) := by kernel_rfl
set_option maxRecDepth 100000 in
set_option maxHeartbeats 8000000 in
theorem ts_alive (w : World) : Calls Try.prog 48 #[] w fun e w' => e = .returned (.bool true) ∧ BW w w' := by
  have cN := Lib.hid (tnew_any w w (BW.refl w))
  go_enter Try.func48, Try.ntmps48
  go_wp2_with fail
  refine Calls.mono cN.out ?_
  rintro e w1 ⟨g0, rfl, I1, hg, hb⟩
  have c1 := Lib.hid (atA g0 0 none 0 [] _ [] 5 3 1 _ tP1 rfl (by decide) (by decide) (by decide) (by decide) (by decide) w w1 ⟨I1, hb, hg⟩)
  clear cN I1 hg hb
  dsimp only
  go_wp2_with fail
  refine Calls.mono c1.out ?_
  rintro e w2 ⟨rfl, s2, cc2, H2, A2⟩
  have c2 := Lib.hid (atA g0 _ _ 1 _ _ _ 5 0 2 _ tP2 rfl (by decide) (by decide) (by decide) (by decide) (by decide) w w2 A2)
  clear c1 A2
  dsimp only
  go_wp2_with fail
  refine Calls.mono c2.out ?_
  rintro e w3 ⟨rfl, s3, cc3, H3, A3⟩
  have c3 := Lib.hid (dueA g0 _ _ 2 _ _ _ 4 _ 0 tP3 rfl (by decide) (by decide) w w3 A3)
  clear c2 A3
  dsimp only
  go_wp2_with fail
  refine Calls.mono c3.out ?_
  rintro e w4 ⟨s4, cc4, H4, so1, co1, rfl, -, A4, -⟩
  have c4 := Lib.hid (dueA g0 _ _ 2 _ _ _ 5 _ 2 tP4 rfl (by decide) (by decide) w w4 A4)
  clear c3 A4
  dsimp only
  go_wp2_with fail
  refine Calls.mono c4.out ?_
  rintro e w5 ⟨s5, cc5, H5, so2, co2, rfl, Q5, A5, -⟩
  have c5 := Lib.hid (dueA g0 _ _ 2 _ _ _ 14 _ 1 tP5 rfl (by decide) (by decide) w w5 A5)
  replace Q5 := Lib.hid Q5
  replace A5 := Lib.hid A5
  clear c4
  dsimp only
  go_wp2_with fail
  refine Calls.mono c5.out ?_
  rintro e w6 ⟨s6, cc6, H6, so3, co3, rfl, Q6, A6, T6⟩
  have Q7 := A5.out.told T6 Q5.out
  have c6 := Lib.hid (tnext_any w.heap.size g0 cc6 s6 2 (tA 17) [] H6 w6 A6.i)
  have B6 := Lib.hid A6.b
  obtain ⟨ga, oa, rfl, ha1, ha2, hac⟩ := st_form Q7 (by decide)
  have z0 := hac 0 (by decide)
  have z1 := hac 1 (by decide)
  obtain ⟨gd, od, rfl, hd1, hd2, hdc⟩ := st_form Q6 (by decide)
  have z2 := hdc 0 (by decide)
  clear A5 T6 Q5 Q6 Q7 hac hdc A6 c5
  unfold maxLen at ha2 hd2
  simp only [Nat.add_zero, List.getElem_cons_zero, List.getElem_cons_succ] at z0 z1 z2
  have e17 : (tA 17).t = 17 := rfl
  rw [e17] at c6
  clear e17
  dsimp only
  go_wp2_with fail
  refine Calls.mono c6.out ?_
  rintro e w7 ⟨rfl, rfl⟩
  clear c6
  dsimp only
  go_wp2_with fail
  go_ret
  exact ⟨rfl, B6.out⟩
set_option maxRecDepth 100000 in
set_option maxHeartbeats 8000000 in
theorem law_snone (n tick : Int) (w : World) (wn : (Lit.int .i64 n).wf = true) (wt : (Lit.int .i64 tick).wf = true) :
    Calls Try.prog 14 #[.int .i64 n, .int .i64 tick] w fun e w' => e = .returned (.bool true) ∧ Below w.heap.size w w' := by
  have ha := Lib.hid (ts_alive w)
  clear wn wt
  go_enter Try.func14, Try.ntmps14
  go_wp2_with fail
  refine Calls.mono ha.out ?_
  rintro e w1 ⟨rfl, B1⟩
  replace B1 := Lib.hid B1
  clear ha
  have c1 := Lib.hid (nilAt_any tick 0 ⟨#[97]⟩ w1)
  have c2 := Lib.hid (nilTNext_any w1)
  have c3 := Lib.hid (nilDue_any tick w1)
  dsimp only
  go_wp2_with fail
  refine c1.out.mono ?_
  rintro e w2 ⟨rfl, rfl⟩
  dsimp only
  go_wp2_with fail
  refine c2.out.mono ?_
  rintro e w3 ⟨rfl, rfl⟩
  dsimp only
  go_wp2_with fail
  refine c3.out.mono ?_
  rintro e w4 ⟨rfl, rfl⟩
  have c4 := Lib.hid (nilStop_any n w4)
  dsimp only
  go_wp2_with fail
  refine c4.out.mono ?_
  rintro e w5 ⟨rfl, hb⟩
  replace B1 := Lib.hid (B1.out.trans hb)
  have c5 := Lib.hid (nilMove_any n tick w5)
  clear hb
  dsimp only
  go_wp2_with fail
  refine c5.out.mono ?_
  rintro e w6 ⟨rfl, hb⟩
  replace B1 := Lib.hid (B1.out.trans hb)
  have c6 := Lib.hid (nilTLen_any w6)
  clear hb
  dsimp only
  go_wp2_with fail
  refine c6.out.mono ?_
  rintro e w7 ⟨rfl, rfl⟩
  dsimp only
  go_wp2_with fail
  go_ret
  exact ⟨rfl, B1.out⟩
end Go.Proofs.Ytcempndfbckcaaa
