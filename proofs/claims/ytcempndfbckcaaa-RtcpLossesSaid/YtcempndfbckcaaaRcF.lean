/- rtcp's body: a receiver's report. No condition but the sizes'. -/
import Derived.Test.YtcempndfbckcaaaRcE
namespace Go.Proofs.Ytcempndfbckcaaa
open Go.RowKit

def zCtl : Ctl := ⟨0, 0, 0, 0, 0, 0, 0, [], [], [], [], [], 0⟩
abbrev ctlO (l : List Value) : Obj := .cells l.toArray 111
/-- What a reader of a body tells. -/
def ReadsTo (F : FuncId) (cnt : Nat) (l : List Nat) (c : Ctl) : Prop := ∀ (base g : Nat) (w : World), BdV w base g cnt l →
  Calls Try.prog F #[.pointer (some ⟨g, 0, none⟩)] w fun e w' => ∃ vr vn vs vl vf, e = .returned (.agg (ctlC c vr vn vs vl vf).toArray) ∧ CtlV w' w.heap.size c vr vn vs vl vf ∧ BdV w' base g cnt [] ∧ Still [g] w w'

theorem CtlV.nils (w : World) (base : Nat) (c : Ctl) (h1 : c.reps = []) (h2 : c.nams = []) (h3 : c.srcs = []) (h4 : c.loss = []) (h5 : c.firs = []) : CtlV w base c (.slice none 0 0) (.slice none 0 0) (.slice none 0 0) (.slice none 0 0) (.slice none 0 0) :=
  ⟨by rw [h1]; exact EQ.nil _ _ _ _, by rw [h2]; exact EQ.nil _ _ _ _, by rw [h3]; exact EQ.nil _ _ _ _, by rw [h4]; exact EQ.nil _ _ _ _, by rw [h5]; exact EQ.nil _ _ _ _⟩
theorem Still.new {S : List Nat} {a b c : World} (h : Still S a b) (k : BW b c) : Still S a c := h.trans (k.still S)
theorem still_st13 (w : World) (z : Nat) (v0 v1 v2 v3 v4 v5 v6 v7 v8 v9 v10 v11 v12 : Value) : Still [z] w (((((((((((((w.setCell ⟨z, 0, none⟩ v0).setCell ⟨z, 1, none⟩ v1).setCell ⟨z, 2, none⟩ v2).setCell ⟨z, 3, none⟩ v3).setCell ⟨z, 4, none⟩ v4).setCell ⟨z, 5, none⟩ v5).setCell ⟨z, 6, none⟩ v6).setCell ⟨z, 7, none⟩ v7).setCell ⟨z, 8, none⟩ v8).setCell ⟨z, 9, none⟩ v9).setCell ⟨z, 10, none⟩ v10).setCell ⟨z, 11, none⟩ v11).setCell ⟨z, 12, none⟩ v12) := (((((((((((((still_sc w z 0 v0).trans (still_sc _ z 1 v1)).trans (still_sc _ z 2 v2)).trans (still_sc _ z 3 v3)).trans (still_sc _ z 4 v4)).trans (still_sc _ z 5 v5)).trans (still_sc _ z 6 v6)).trans (still_sc _ z 7 v7)).trans (still_sc _ z 8 v8)).trans (still_sc _ z 9 v9)).trans (still_sc _ z 10 v10)).trans (still_sc _ z 11 v11)).trans (still_sc _ z 12 v12))
theorem st13_arr (c : Array Value) (hc : c.size = 13) (v0 v1 v2 v3 v4 v5 v6 v7 v8 v9 v10 v11 v12 : Value) : (((((((((((((c.setIfInBounds 0 v0).setIfInBounds 1 v1).setIfInBounds 2 v2).setIfInBounds 3 v3).setIfInBounds 4 v4).setIfInBounds 5 v5).setIfInBounds 6 v6).setIfInBounds 7 v7).setIfInBounds 8 v8).setIfInBounds 9 v9).setIfInBounds 10 v10).setIfInBounds 11 v11).setIfInBounds 12 v12) = #[v0, v1, v2, v3, v4, v5, v6, v7, v8, v9, v10, v11, v12] := by
  obtain ⟨l⟩ := c
  match l, hc with
  | [_, _, _, _, _, _, _, _, _, _, _, _, _], _ => simp only [List.setIfInBounds_toArray, List.set_cons_zero, List.set_cons_succ]
theorem HpB.st13 {w : World} {z : Nat} {c : Array Value} {T : TypeId} (h : HpB w z (.cells c T)) (hc : c.size = 13) (v0 v1 v2 v3 v4 v5 v6 v7 v8 v9 v10 v11 v12 : Value) : HpB (((((((((((((w.setCell ⟨z, 0, none⟩ v0).setCell ⟨z, 1, none⟩ v1).setCell ⟨z, 2, none⟩ v2).setCell ⟨z, 3, none⟩ v3).setCell ⟨z, 4, none⟩ v4).setCell ⟨z, 5, none⟩ v5).setCell ⟨z, 6, none⟩ v6).setCell ⟨z, 7, none⟩ v7).setCell ⟨z, 8, none⟩ v8).setCell ⟨z, 9, none⟩ v9).setCell ⟨z, 10, none⟩ v10).setCell ⟨z, 11, none⟩ v11).setCell ⟨z, 12, none⟩ v12) z (.cells #[v0, v1, v2, v3, v4, v5, v6, v7, v8, v9, v10, v11, v12] T) := by
  have k := (hp_set (hp_set (hp_set (hp_set (hp_set (hp_set (hp_set (hp_set (hp_set (hp_set (hp_set (hp_set (hp_set h 0 v0) 1 v1) 2 v2) 3 v3) 4 v4) 5 v5) 6 v6) 7 v7) 8 v8) 9 v9) 10 v10) 11 v11) 12 v12)
  rw [st13_arr c hc] at k
  exact k
set_option maxRecDepth 100000 in
set_option maxHeartbeats 8000000 in
theorem receiver_ok (cnt : Nat) (l : List Nat) (hc : cnt ≤ 16) (hl : l.length = 4 + 24 * cnt) :
    ReadsTo 133 cnt l ⟨201, numB (l.take 4), 0, 0, 0, 0, 0, (repsN (l.drop 4) cnt).map repOf, [], [], [], [], 0⟩ := by
  intro base g w hr
  have cw := fun w h => Lib.hid (bword_ok base g cnt l (by omega) (by omega) w h)
  have hd : (l.drop 4).length = 24 * cnt := by rw [List.length_drop]; omega
  have cr := fun w h => Lib.hid (reports_ok base g cnt (l.drop 4) hc (by omega) (by omega) w h)
  have hdd : (l.drop 4).drop (24 * cnt) = [] := List.drop_of_length_le (by omega)
  rw [hdd] at cr
  have hlr : ((repsN (l.drop 4) cnt).map repOf).length = cnt := by simp [repsN]
  have hq := fun w b v h => Lib.hid (EQ.reps (w := w) (base := b) (v := v) (n := cnt) (l := repsN (l.drop 4) cnt) h)
  generalize hs : numB (l.take 4) = s at *
  generalize hz : repsN (l.drop 4) cnt = ds at *
  generalize l.drop 4 = l1 at *
  clear hs hz hd hdd
  have hlt := hr.lt
  have BA : BW w (w.alloc (ctlO (ctlC zCtl (.slice none 0 0) (.slice none 0 0) (.slice none 0 0) (.slice none 0 0) (.slice none 0 0)))) := (BW.refl _).alloc
  have X1 := Lib.hid (HpB.new w (ctlO (ctlC zCtl (.slice none 0 0) (.slice none 0 0) (.slice none 0 0) (.slice none 0 0) (.slice none 0 0))))
  have D1 := Lib.hid (hr.bw BA)
  have R1 := Lib.hid (BA.still [g])
  simp only [ctlO, ctlC, zCtl] at X1 BA D1 R1
  go_enter Try.func133, Try.ntmps133
  go_upto_region 1 with (fail)
  generalize (w.alloc _) = w1 at *
  generalize hw0 : w.heap.size = g1 at *
  replace hw0 := Lib.hid hw0
  have hg1 : g1 ∉ [g] := by simp; omega
  clear BA
  go_wp2_with fail
  refine Calls.mono (cw _ D1.out).out ?_
  rintro e w2 ⟨rfl, D2, T2⟩
  have X2 := Lib.hid (X1.out.st T2 hg1)
  have R2 := Lib.hid (R1.out.trans T2)
  have hlt1 := X1.out.lt
  have hlt2 := T2.size
  replace D2 := Lib.hid D2
  clear D1 X1 R1 cw T2
  dsimp only
  have BC : BW w2 (w2.alloc (.cells #[.int .i64 201, .int .u32 (s : Nat), .int .u32 0, .int .u64 0, .int .u32 0, .int .u32 0, .int .u32 0, .slice none 0 0, .slice none 0 0, .slice none 0 0, .slice none 0 0, .slice none 0 0, .int .u64 0] 111)) := (BW.refl _).alloc
  have Y3 := Lib.hid (HpB.new w2 (.cells #[.int .i64 201, .int .u32 (s : Nat), .int .u32 0, .int .u64 0, .int .u32 0, .int .u32 0, .int .u32 0, .slice none 0 0, .slice none 0 0, .slice none 0 0, .slice none 0 0, .slice none 0 0, .int .u64 0] 111))
  have X3 := Lib.hid (X2.out.bw BC)
  have D3 := Lib.hid (D2.out.bw BC)
  have R3 := Lib.hid (R2.out.new BC)
  clear X2 D2 R2
  replace BC := Lib.hid BC
  go_upto_region 2 with (fail)
  generalize (w2.alloc _) = w3 at *
  have hlt3 : g1 < w2.heap.size := by omega
  generalize w2.heap.size = g3 at *
  have hg3 : g3 ∉ [g] := by simp; omega
  have h31 : g3 ≠ g1 := by omega
  have hlt4 := Y3.out.lt
  clear BC hlt1 hlt2
  go_wp2_with fail
  refine Calls.mono (cr _ D3.out).out ?_
  rintro e w4 ⟨so, co, rfl, Q4, D4, T4⟩
  have X4 := Lib.hid (X3.out.st T4 hg1)
  have Y4 := Lib.hid (Y3.out.st T4 hg3)
  have R4 := Lib.hid (R3.out.trans T4)
  replace Q4 := Lib.hid Q4
  replace D4 := Lib.hid D4
  clear X3 Y3 R3 D3 T4 cr
  dsimp only
  have z0 := hp_cell (Y4.out) 0
  have y0 := hp_frz (Y4.out) 0
  have z1 := hp_cell (Y4.out) 1
  have y1 := hp_frz (Y4.out) 1
  have z2 := hp_cell (Y4.out) 2
  have y2 := hp_frz (Y4.out) 2
  have z3 := hp_cell (Y4.out) 3
  have y3 := hp_frz (Y4.out) 3
  have z4 := hp_cell (Y4.out) 4
  have y4 := hp_frz (Y4.out) 4
  have z5 := hp_cell (Y4.out) 5
  have y5 := hp_frz (Y4.out) 5
  have z6 := hp_cell (Y4.out) 6
  have y6 := hp_frz (Y4.out) 6
  have z7 := hp_cell (Y4.out) 7
  have y7 := hp_frz (Y4.out) 7
  have z8 := hp_cell (Y4.out) 8
  have y8 := hp_frz (Y4.out) 8
  have z9 := hp_cell (Y4.out) 9
  have y9 := hp_frz (Y4.out) 9
  have z10 := hp_cell (Y4.out) 10
  have y10 := hp_frz (Y4.out) 10
  have z11 := hp_cell (Y4.out) 11
  have y11 := hp_frz (Y4.out) 11
  have z12 := hp_cell (Y4.out) 12
  have y12 := hp_frz (Y4.out) 12
  simp only [List.getElem?_toArray, List.getElem?_cons_zero, List.getElem?_cons_succ] at z0 z1 z2 z3 z4 z5 z6 z7 z8 z9 z10 z11 z12
  have TS := still_sc w4 g3 7 (.slice so cnt co)
  have Y5 : Hid (HpB (w4.setCell ⟨g3, 7, none⟩ (.slice so cnt co)) g3 (.cells #[.int .i64 201, .int .u32 (s : Nat), .int .u32 0, .int .u64 0, .int .u32 0, .int .u32 0, .int .u32 0, .slice so cnt co, .slice none 0 0, .slice none 0 0, .slice none 0 0, .slice none 0 0, .int .u64 0] 111)) := hp_set Y4.out 7 _
  have X5 := Lib.hid (X4.out.st TS (by simpa using h31.symm))
  have D5 := Lib.hid (D4.out.st TS (fun k hk => by obtain rfl : k = g3 := (by simpa using hk); exact ⟨_, _, _, Y4.out, by decide, by decide⟩))
  have Q5 := Lib.hid (Q4.out.old TS (fun k hk => by obtain rfl : k = g3 := (by simpa using hk); exact hlt4))
  have R5 := Lib.hid (R4.out.fresh TS (fun k hk => by obtain rfl : k = g3 := (by simpa using hk); have := hw0.out; omega))
  clear X4 D4 Q4 R4 TS Y4
  replace y0 := Lib.hid y0
  replace y1 := Lib.hid y1
  replace y2 := Lib.hid y2
  replace y3 := Lib.hid y3
  replace y4 := Lib.hid y4
  replace y5 := Lib.hid y5
  replace y6 := Lib.hid y6
  replace y8 := Lib.hid y8
  replace y9 := Lib.hid y9
  replace y10 := Lib.hid y10
  replace y11 := Lib.hid y11
  replace y12 := Lib.hid y12
  replace z0 := Lib.hid z0
  replace z1 := Lib.hid z1
  replace z2 := Lib.hid z2
  replace z3 := Lib.hid z3
  replace z4 := Lib.hid z4
  replace z5 := Lib.hid z5
  replace z6 := Lib.hid z6
  replace z8 := Lib.hid z8
  replace z9 := Lib.hid z9
  replace z10 := Lib.hid z10
  replace z11 := Lib.hid z11
  replace z12 := Lib.hid z12
  go_upto_region 3 with (fail)
  generalize w4.setCell ⟨g3, 7, none⟩ (.slice so cnt co) = w5 at *
  clear y0 y1 y2 y3 y4 y5 y6 y7 y8 y9 y10 y11 y12 z0 z1 z2 z3 z4 z5 z6 z7 z8 z9 z10 z11 z12
  have u0 := hp_cell (Y5.out) 0
  have u1 := hp_cell (Y5.out) 1
  have u2 := hp_cell (Y5.out) 2
  have u3 := hp_cell (Y5.out) 3
  have u4 := hp_cell (Y5.out) 4
  have u5 := hp_cell (Y5.out) 5
  have u6 := hp_cell (Y5.out) 6
  have u7 := hp_cell (Y5.out) 7
  have u8 := hp_cell (Y5.out) 8
  have u9 := hp_cell (Y5.out) 9
  have u10 := hp_cell (Y5.out) 10
  have u11 := hp_cell (Y5.out) 11
  have u12 := hp_cell (Y5.out) 12
  simp only [List.getElem?_toArray, List.getElem?_cons_zero, List.getElem?_cons_succ] at u0 u1 u2 u3 u4 u5 u6 u7 u8 u9 u10 u11 u12
  have z0 := hp_cell (X5.out) 0
  have y0 := hp_frz (X5.out) 0
  have z1 := hp_cell (X5.out) 1
  have y1 := hp_frz (X5.out) 1
  have z2 := hp_cell (X5.out) 2
  have y2 := hp_frz (X5.out) 2
  have z3 := hp_cell (X5.out) 3
  have y3 := hp_frz (X5.out) 3
  have z4 := hp_cell (X5.out) 4
  have y4 := hp_frz (X5.out) 4
  have z5 := hp_cell (X5.out) 5
  have y5 := hp_frz (X5.out) 5
  have z6 := hp_cell (X5.out) 6
  have y6 := hp_frz (X5.out) 6
  have z7 := hp_cell (X5.out) 7
  have y7 := hp_frz (X5.out) 7
  have z8 := hp_cell (X5.out) 8
  have y8 := hp_frz (X5.out) 8
  have z9 := hp_cell (X5.out) 9
  have y9 := hp_frz (X5.out) 9
  have z10 := hp_cell (X5.out) 10
  have y10 := hp_frz (X5.out) 10
  have z11 := hp_cell (X5.out) 11
  have y11 := hp_frz (X5.out) 11
  have z12 := hp_cell (X5.out) 12
  have y12 := hp_frz (X5.out) 12
  simp only [List.getElem?_toArray, List.getElem?_cons_zero, List.getElem?_cons_succ] at z0 z1 z2 z3 z4 z5 z6 z7 z8 z9 z10 z11 z12
  have TS := still_st13 w5 g1 (.int .i64 201) (.int .u32 (s : Nat)) (.int .u32 0) (.int .u64 0) (.int .u32 0) (.int .u32 0) (.int .u32 0) (.slice so cnt co) (.slice none 0 0) (.slice none 0 0) (.slice none 0 0) (.slice none 0 0) (.int .u64 0)
  have D6 := Lib.hid (D5.out.st TS (fun k hk => by obtain rfl : k = g1 := (by simpa using hk); exact ⟨_, _, _, X5.out, by decide, by decide⟩))
  have Q6 := Lib.hid (Q5.out.old TS (fun k hk => by obtain rfl : k = g1 := (by simpa using hk); omega))
  have R6 := Lib.hid (R5.out.fresh TS (fun k hk => by obtain rfl : k = g1 := (by simpa using hk); have := hw0.out; omega))
  have X6 := Lib.hid (HpB.st13 X5.out rfl (.int .i64 201) (.int .u32 (s : Nat)) (.int .u32 0) (.int .u64 0) (.int .u32 0) (.int .u32 0) (.int .u32 0) (.slice so cnt co) (.slice none 0 0) (.slice none 0 0) (.slice none 0 0) (.slice none 0 0) (.int .u64 0))
  clear D5 Q5 R5 TS Y5 X5
  go_wp2_with fail
  refine bodyPost_ret (results_cell_row (p := 2) rfl _ _ g1 _ _ _ _ rfl X6.out Try.underlying111 rfl (by kernel_rfl)) rfl ?_
  refine ⟨.slice so cnt co, .slice none 0 0, .slice none 0 0, .slice none 0 0, .slice none 0 0, rfl, ⟨?_, EQ.nil _ _ _ _, EQ.nil _ _ _ _, EQ.nil _ _ _ _, EQ.nil _ _ _ _⟩, D6.out, R6.out⟩
  dsimp only
  rw [hlr]
  exact (hq _ _ _ (Q6.out.up (by have := hw0.out; omega))).out
end Go.Proofs.Ytcempndfbckcaaa
