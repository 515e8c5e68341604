/- The writer of an egress: Start, next, Follow, Map, High. No condition but the numbers' bounds. -/
import Derived.Test.YtojedpahaifjgaaEgA
import Derived.Test.YtojedpahaifjgaaRg2
import Derived.Test.YtojedpahaifjgaaIB
import Derived.Lib.Hide
namespace Go.Proofs.Ytojedpahaifjgaa
open Go.RowKit
theorem still_st3 (w : World) (z : Nat) (v0 v1 v2 : Value) : Still [z] w (((w.setCell ⟨z, 0, none⟩ v0).setCell ⟨z, 1, none⟩ v1).setCell ⟨z, 2, none⟩ v2) := (((still_sc w z 0 v0).trans (still_sc _ z 1 v1)).trans (still_sc _ z 2 v2))
theorem st3_arr (c : Array Value) (hc : c.size = 3) (v0 v1 v2 : Value) : (((c.setIfInBounds 0 v0).setIfInBounds 1 v1).setIfInBounds 2 v2) = #[v0, v1, v2] := by
 obtain ⟨l⟩ := c
 match l, hc with
 | [_, _, _], _ => simp only [List.setIfInBounds_toArray, List.set_cons_zero, List.set_cons_succ]
theorem HpB.st3 {w : World} {z : Nat} {c : Array Value} {T : TypeId} (h : HpB w z (.cells c T)) (hc : c.size = 3) (v0 v1 v2 : Value) : HpB (((w.setCell ⟨z, 0, none⟩ v0).setCell ⟨z, 1, none⟩ v1).setCell ⟨z, 2, none⟩ v2) z (.cells #[v0, v1, v2] T) := by
 have k := (hp_set (hp_set (hp_set h 0 v0) 1 v1) 2 v2)
 rw [st3_arr c hc] at k
 exact k
def egC (gc : Nat) (kf pf : Value) (src first : Int) (fol : Bool) (a0 a1 a2 b0 b1 b2 : Int) (out : Bool) (l0 l1 l2 : Int) (gr gb : Nat) : Array Value :=
 #[.pointer (some ⟨gc, 0, none⟩), kf, pf, .int .u32 src, .int .i64 first, .bool fol, .int .i64 a0, .int .u32 a1, .int .u16 a2, .int .i64 b0, .int .u32 b1, .int .u16 b2, .bool out, .int .i64 l0, .int .u32 l1, .int .u16 l2, .pointer (some ⟨gr, 0, none⟩), .pointer (some ⟨gb, 0, none⟩)]
def nxS (out : Bool) (l1 : Int) : Int := if out = true then (l1 + 3000) % 4294967296 else 0
def nxP (out : Bool) (l2 : Int) : Int := if out = true then bits BinOp.and IntKind.u16 (IntKind.u16.wrap (l2 + 1)) 32767 else 0
set_option maxRecDepth 100000 in
set_option maxHeartbeats 8000000 in
theorem wnext_x (g gc gr gb : Nat) (kf pf : Value) (src first : Int) (fol : Bool) (a0 a1 a2 b0 b1 b2 : Int) (out : Bool) (l0 l1 l2 : Int) (hl : -1152921504606846976 ≤ l0 ∧ l0 ≤ 1152921504606846976) (w : World) (h : HpB w g (.cells (egC gc kf pf src first fol a0 a1 a2 b0 b1 b2 out l0 l1 l2 gr gb) 57)) :
  Calls Try.prog 75 #[.pointer (some ⟨g, 4, none⟩)] w fun e w' => e = .returned (.agg #[.int .i64 (if out = true then l0 + 1 else first), .int .u32 (nxS out l1), .int .u16 (nxP out l2)]) ∧ BW w w' := by
 have B1 : BW w (w.alloc (.cells #[.int .i64 0, .int .u32 0, .int .u16 0] 51)) := (BW.refl w).alloc
 have X1 := HpB.new w (.cells #[.int .i64 0, .int .u32 0, .int .u16 0] 51)
 have hh := h.bw B1
 have zo := (hp_cell hh 12).trans (show _ = some (.bool out) from rfl)
 have zf := (hp_cell hh 4).trans (show _ = some (.int .i64 first) from rfl)
 have z0 := (hp_cell hh 13).trans (show _ = some (.int .i64 l0) from rfl)
 have z1 := (hp_cell hh 14).trans (show _ = some (.int .u32 l1) from rfl)
 have z2 := (hp_cell hh 15).trans (show _ = some (.int .u16 l2) from rfl)
 clear h hh
 replace B1 := Lib.hid B1
 replace X1 := Lib.hid X1
 cases out with
 | false =>
  go_enter Try.func75, Try.ntmps75
  go_upto_region 1 with (fail)
  generalize w.alloc (.cells #[.int .i64 0, .int .u32 0, .int .u16 0] 51) = w1 at *
  generalize hgx : w.heap.size = gx at *
  replace hgx := Lib.hid hgx
  have q0 := (hp_cell X1.out 0).trans (show _ = some (.int .i64 0) from rfl)
  have q1 := (hp_cell X1.out 1).trans (show _ = some (.int .u32 0) from rfl)
  have q2 := (hp_cell X1.out 2).trans (show _ = some (.int .u16 0) from rfl)
  have f0 := hp_frz X1.out 0
  have f1 := hp_frz X1.out 1
  have f2 := hp_frz X1.out 2
  have X2 := Lib.hid (X1.out.st3 rfl (.int .i64 first) (.int .u32 0) (.int .u16 0))
  have B2 := Lib.hid (((B1.out.set (Nat.le_of_eq hgx.out) (o := 0) (v := .int .i64 first)).set (Nat.le_of_eq hgx.out) (o := 1) (v := .int .u32 0)).set (Nat.le_of_eq hgx.out) (o := 2) (v := .int .u16 0))
  go_wp2_with fail
  generalize ((w1.setCell ⟨gx, 0, none⟩ (.int .i64 first)).setCell ⟨gx, 1, none⟩ (.int .u32 0)).setCell ⟨gx, 2, none⟩ (.int .u16 0) = w2 at *
  clear q0 q1 q2 f0 f1 f2
  have q0 := (hp_cell X2.out 0).trans (show _ = some (.int .i64 first) from rfl)
  have q1 := (hp_cell X2.out 1).trans (show _ = some (.int .u32 0) from rfl)
  have q2 := (hp_cell X2.out 2).trans (show _ = some (.int .u16 0) from rfl)
  exact bodyPost_ret (v := .agg #[.int .i64 first, .int .u32 0, .int .u16 0]) (by simp [results, Try.results75, go_sem, q0, q1, q2]) rfl ⟨rfl, B2.out⟩
 | true =>
  go_enter Try.func75, Try.ntmps75
  go_upto_region 1 with (fail)
  generalize w.alloc (.cells #[.int .i64 0, .int .u32 0, .int .u16 0] 51) = w1 at *
  generalize hgx : w.heap.size = gx at *
  replace hgx := Lib.hid hgx
  go_upto_region 3 with (fail)
  have m0 : ∀ y : LaterS [] w1, _ := fun y => y.bw.cell z0
  have m1 : ∀ y : LaterS [] w1, _ := fun y => y.bw.cell z1
  have m2 : ∀ y : LaterS [] w1, _ := fun y => y.bw.cell z2
  refine wp_region_gg [] [] [20] (by kernel_rfl) ?_
  refine hoist [] [] (a1 := ?_) 0 rfl (by kernel_rfl) (.inl ⟨rfl, rfl⟩) rfl rfl rfl (fun x K hK => ?_) ?_
  rotate_left
  ·go_big_quiet_op
   exact hK
  refine hoist [] [] (a1 := ?_) 1 rfl (by kernel_rfl) (.inl ⟨rfl, rfl⟩) rfl rfl rfl (fun x K hK => ?_) ?_
  rotate_left
  ·go_big_quiet_op
   exact hK
  refine hoist [] [] (a1 := ?_) 2 rfl (by kernel_rfl) (.inl ⟨rfl, rfl⟩) rfl rfl rfl (fun x K hK => ?_) ?_
  rotate_left
  ·go_big_quiet_op
   exact hK
  refine hoist [] [] (a1 := ?_) 3 rfl (by kernel_rfl) (.inl ⟨rfl, rfl⟩) rfl rfl rfl (fun x K hK => ?_) ?_
  rotate_left
  ·go_big_quiet_op
   exact hK
  refine hoist [] [] (a1 := ?_) 4 rfl (by kernel_rfl) (.inl ⟨rfl, rfl⟩) rfl rfl rfl (fun x K hK => ?_) ?_
  rotate_left
  ·go_big_quiet_op
   exact hK
  refine hoist [] [] (a1 := ?_) 5 rfl (by kernel_rfl) (.inl ⟨rfl, rfl⟩) rfl rfl rfl (fun x K hK => ?_) ?_
  rotate_left
  ·go_big_quiet_op
   exact hK
  refine hoist [] [] (a1 := ?_) 6 rfl (by kernel_rfl) (.inl ⟨rfl, rfl⟩) rfl rfl rfl (fun x K hK => ?_) ?_
  rotate_left
  ·go_big_quiet_op
   exact hK
  refine hoist [] [] (a1 := ?_) 7 rfl (by kernel_rfl) (.inl ⟨rfl, rfl⟩) rfl rfl rfl (fun x K hK => ?_) ?_
  rotate_left
  ·go_big_quiet_op
   exact hK
  refine hoist [] [] (a1 := ?_) 8 rfl (by kernel_rfl) (.inl ⟨rfl, rfl⟩) rfl rfl rfl (fun x K hK => ?_) ?_
  rotate_left
  ·go_big_quiet_op
   exact hK
  refine hoist [] [] (a1 := ?_) 9 rfl (by kernel_rfl) (.inl ⟨rfl, rfl⟩) rfl rfl rfl (fun x K hK => ?_) ?_
  rotate_left
  ·go_big_quiet_op
   exact hK
  refine hoist [] [] (a1 := ?_) 10 rfl (by kernel_rfl) (.inl ⟨rfl, rfl⟩) rfl rfl rfl (fun x K hK => ?_) ?_
  rotate_left
  ·go_big_quiet_op
   exact hK
  refine hoist [] [] (a1 := ?_) 11 rfl (by kernel_rfl) (.inl ⟨rfl, rfl⟩) rfl rfl rfl (fun x K hK => ?_) ?_
  rotate_left
  ·go_big_quiet_op
   exact hK
  refine hoist [] [] (a1 := ?_) 12 rfl (by kernel_rfl) (.inl ⟨rfl, rfl⟩) rfl rfl rfl (fun x K hK => ?_) ?_
  rotate_left
  ·go_big_quiet_op
   exact hK
  refine hoist [] [] (a1 := ?_) 13 rfl (by kernel_rfl) (.inl ⟨rfl, rfl⟩) rfl rfl rfl (fun x K hK => ?_) ?_
  rotate_left
  ·go_big_quiet_op
   exact hK
  refine hoist [] [] (a1 := ?_) 14 rfl (by kernel_rfl) (.inl ⟨rfl, rfl⟩) rfl rfl rfl (fun x K hK => ?_) ?_
  rotate_left
  ·go_big_quiet_op
   exact hK
  refine hoist [] [] (a1 := ?_) 15 rfl (by kernel_rfl) (.inl ⟨rfl, rfl⟩) rfl rfl rfl (fun x K hK => ?_) ?_
  rotate_left
  ·go_big_quiet_op
   exact hK
  refine hoist [] [] (a1 := ?_) 16 rfl (by kernel_rfl) (.inl ⟨rfl, rfl⟩) rfl rfl rfl (fun x K hK => ?_) ?_
  rotate_left
  ·go_big_quiet_op
   exact hK
  refine hoist [] [] (a1 := ?_) 17 rfl (by kernel_rfl) (.inl ⟨rfl, rfl⟩) rfl rfl rfl (fun x K hK => ?_) ?_
  rotate_left
  ·go_big_quiet_op
   exact hK
  refine hoist [] [] (a1 := ?_) 18 rfl (by kernel_rfl) (.inl ⟨rfl, rfl⟩) rfl rfl rfl (fun x K hK => ?_) ?_
  rotate_left
  ·go_big_quiet_op
   exact hK
  refine hoist [] [] (a1 := ?_) 19 rfl (by kernel_rfl) (.inl ⟨rfl, rfl⟩) rfl rfl rfl (fun x K hK => ?_) ?_
  rotate_left
  ·go_big_quiet_op
   exact hK
  refine tail 20 rfl (by kernel_rfl) rfl (fun xr => ?_)
  simp only [List.drop_succ_cons, List.drop_zero]
  have B2 := Lib.hid (B1.out.trans xr.bw)
  have X2 := Lib.hid (X1.out.bw xr.bw)
  clear m0 m1 m2 z0 z1 z2 zo zf
  generalize xr.now = w2 at *
  generalize hn1 : (l1 + 3000) % 4294967296 = n1 at *
  generalize hn2 : bits BinOp.and IntKind.u16 (IntKind.u16.wrap (l2 + 1)) 32767 = n2 at *
  replace hn1 := Lib.hid hn1
  replace hn2 := Lib.hid hn2
  have q0 := (hp_cell X2.out 0).trans (show _ = some (.int .i64 0) from rfl)
  have q1 := (hp_cell X2.out 1).trans (show _ = some (.int .u32 0) from rfl)
  have q2 := (hp_cell X2.out 2).trans (show _ = some (.int .u16 0) from rfl)
  have f0 := hp_frz X2.out 0
  have f1 := hp_frz X2.out 1
  have f2 := hp_frz X2.out 2
  have X3 := Lib.hid (X2.out.st3 rfl (.int .i64 (l0 + 1)) (.int .u32 n1) (.int .u16 n2))
  have B3 := Lib.hid (((B2.out.set (Nat.le_of_eq hgx.out) (o := 0) (v := .int .i64 (l0 + 1))).set (Nat.le_of_eq hgx.out) (o := 1) (v := .int .u32 n1)).set (Nat.le_of_eq hgx.out) (o := 2) (v := .int .u16 n2))
  go_wp2_with fail
  generalize ((w2.setCell ⟨gx, 0, none⟩ (.int .i64 (l0 + 1))).setCell ⟨gx, 1, none⟩ (.int .u32 n1)).setCell ⟨gx, 2, none⟩ (.int .u16 n2) = w3 at *
  clear q0 q1 q2 f0 f1 f2
  have q0 := (hp_cell X3.out 0).trans (show _ = some (.int .i64 (l0 + 1)) from rfl)
  have q1 := (hp_cell X3.out 1).trans (show _ = some (.int .u32 n1) from rfl)
  have q2 := (hp_cell X3.out 2).trans (show _ = some (.int .u16 n2) from rfl)
  exact bodyPost_ret (v := .agg #[.int .i64 (l0 + 1), .int .u32 n1, .int .u16 n2]) (by simp [results, Try.results75, go_sem, q0, q1, q2]) rfl ⟨by rw [← hn1.out, ← hn2.out]; rfl, B3.out⟩
set_option maxRecDepth 100000 in
set_option maxHeartbeats 8000000 in
theorem wstart_any (g gc gr gb : Nat) (kf pf : Value) (src first : Int) (hf : 0 ≤ first) (w : World) (h : HpB w g (.cells (egC gc kf pf src 0 false 0 0 0 0 0 0 false 0 0 0 gr gb) 57)) :
  Calls Try.prog 36 #[.pointer (some ⟨g, 4, none⟩), .int .i64 first] w fun e w' => e = .returned (.tuple #[]) ∧ HpB w' g (.cells (egC gc kf pf src first false 0 0 0 0 0 0 false 0 0 0 gr gb) 57) ∧ Still [g] w w' := by
 have z0 := (hp_cell h 4).trans (show _ = some (.int .i64 0) from rfl)
 have z1 := (hp_cell h 5).trans (show _ = some (.bool false) from rfl)
 have z2 := (hp_cell h 6).trans (show _ = some (.int .i64 0) from rfl)
 have z3 := (hp_cell h 7).trans (show _ = some (.int .u32 0) from rfl)
 have z4 := (hp_cell h 8).trans (show _ = some (.int .u16 0) from rfl)
 have z5 := (hp_cell h 9).trans (show _ = some (.int .i64 0) from rfl)
 have z6 := (hp_cell h 10).trans (show _ = some (.int .u32 0) from rfl)
 have z7 := (hp_cell h 11).trans (show _ = some (.int .u16 0) from rfl)
 have z8 := (hp_cell h 12).trans (show _ = some (.bool false) from rfl)
 have z9 := (hp_cell h 13).trans (show _ = some (.int .i64 0) from rfl)
 have z10 := (hp_cell h 14).trans (show _ = some (.int .u32 0) from rfl)
 have z11 := (hp_cell h 15).trans (show _ = some (.int .u16 0) from rfl)
 have d : decide (0 ≤ first) = true := by simpa using hf
 have m0 : ∀ y : LaterS [] w, _ := fun y => y.bw.cell z0
 have m1 : ∀ y : LaterS [] w, _ := fun y => y.bw.cell z1
 have m2 : ∀ y : LaterS [] w, _ := fun y => y.bw.cell z2
 have m3 : ∀ y : LaterS [] w, _ := fun y => y.bw.cell z3
 have m4 : ∀ y : LaterS [] w, _ := fun y => y.bw.cell z4
 have m5 : ∀ y : LaterS [] w, _ := fun y => y.bw.cell z5
 have m6 : ∀ y : LaterS [] w, _ := fun y => y.bw.cell z6
 have m7 : ∀ y : LaterS [] w, _ := fun y => y.bw.cell z7
 have m8 : ∀ y : LaterS [] w, _ := fun y => y.bw.cell z8
 have m9 : ∀ y : LaterS [] w, _ := fun y => y.bw.cell z9
 have m10 : ∀ y : LaterS [] w, _ := fun y => y.bw.cell z10
 have m11 : ∀ y : LaterS [] w, _ := fun y => y.bw.cell z11
 have hH := Lib.hid h
 clear h
 go_enter Try.func36, Try.ntmps36
 go_upto_region 0 with (fail)
 refine wp_region_gg [] [] [] (by kernel_rfl) ?_
 refine hoist [] [] (a1 := ?_) 0 rfl (by kernel_rfl) (.inl ⟨rfl, rfl⟩) rfl rfl rfl (fun x K hK => ?_) ?_
 rotate_left
 ·go_big_quiet_op
  exact hK
 refine hoist [] [] (a1 := ?_) 1 rfl (by kernel_rfl) (.inl ⟨rfl, rfl⟩) rfl rfl rfl (fun x K hK => ?_) ?_
 rotate_left
 ·go_big_quiet_op
  exact hK
 refine hoist [] [] (a1 := ?_) 2 rfl (by kernel_rfl) (.inl ⟨rfl, rfl⟩) rfl rfl rfl (fun x K hK => ?_) ?_
 rotate_left
 ·go_big_quiet_op
  exact hK
 refine hoist [] [] (a1 := ?_) 3 rfl (by kernel_rfl) (.inl ⟨rfl, rfl⟩) rfl rfl rfl (fun x K hK => ?_) ?_
 rotate_left
 ·go_big_quiet_op
  exact hK
 refine hoist [] [] (a1 := ?_) 4 rfl (by kernel_rfl) (.inl ⟨rfl, rfl⟩) rfl rfl rfl (fun x K hK => ?_) ?_
 rotate_left
 ·go_big_quiet_op
  exact hK
 refine hoist [] [] (a1 := ?_) 5 rfl (by kernel_rfl) (.inl ⟨rfl, rfl⟩) rfl rfl rfl (fun x K hK => ?_) ?_
 rotate_left
 ·go_big_quiet_op
  exact hK
 refine hoist [] [] (a1 := ?_) 6 rfl (by kernel_rfl) (.inl ⟨rfl, rfl⟩) rfl rfl rfl (fun x K hK => ?_) ?_
 rotate_left
 ·go_big_quiet_op
  exact hK
 refine hoist [] [] (a1 := ?_) 7 rfl (by kernel_rfl) (.inl ⟨rfl, rfl⟩) rfl rfl rfl (fun x K hK => ?_) ?_
 rotate_left
 ·go_big_quiet_op
  exact hK
 refine hoist [] [] (a1 := ?_) 8 rfl (by kernel_rfl) (.inl ⟨rfl, rfl⟩) rfl rfl rfl (fun x K hK => ?_) ?_
 rotate_left
 ·go_big_quiet_op
  exact hK
 refine hoist [] [] (a1 := ?_) 9 rfl (by kernel_rfl) (.inl ⟨rfl, rfl⟩) rfl rfl rfl (fun x K hK => ?_) ?_
 rotate_left
 ·go_big_quiet_op
  exact hK
 refine hoist [] [] (a1 := ?_) 10 rfl (by kernel_rfl) (.inl ⟨rfl, rfl⟩) rfl rfl rfl (fun x K hK => ?_) ?_
 rotate_left
 ·go_big_quiet_op
  exact hK
 refine hoist [] [] (a1 := ?_) 11 rfl (by kernel_rfl) (.inl ⟨rfl, rfl⟩) rfl rfl rfl (fun x K hK => ?_) ?_
 rotate_left
 ·go_big_quiet_op
  exact hK
 refine hoist [] [] (a1 := ?_) 12 rfl (by kernel_rfl) (.inl ⟨rfl, rfl⟩) rfl rfl rfl (fun x K hK => ?_) ?_
 rotate_left
 ·go_big_quiet_op
  exact hK
 refine hoist [] [] (a1 := ?_) 13 rfl (by kernel_rfl) (.inl ⟨rfl, rfl⟩) rfl rfl rfl (fun x K hK => ?_) ?_
 rotate_left
 ·go_big_quiet_op
  exact hK
 refine hoist [] [] (a1 := ?_) 14 rfl (by kernel_rfl) (.inl ⟨rfl, rfl⟩) rfl rfl rfl (fun x K hK => ?_) ?_
 rotate_left
 ·go_big_quiet_op
  exact hK
 refine hoist [] [] (a1 := ?_) 15 rfl (by kernel_rfl) (.inl ⟨rfl, rfl⟩) rfl rfl rfl (fun x K hK => ?_) ?_
 rotate_left
 ·go_big_quiet_op
  exact hK
 refine hoist [] [] (a1 := ?_) 16 rfl (by kernel_rfl) (.inl ⟨rfl, rfl⟩) rfl rfl rfl (fun x K hK => ?_) ?_
 rotate_left
 ·go_big_quiet_op
  exact hK
 refine done (by kernel_rfl) (fun xr => ?_)
 have B1 := Lib.hid xr.bw
 clear m0 m1 m2 m3 m4 m5 m6 m7 m8 m9 m10 m11 z0 z1 z2 z3 z4 z5 z6 z7 z8 z9 z10 z11
 generalize xr.now = w1 at *
 have H1 := hH.out.bw B1.out
 have z0 := (hp_cell H1 4).trans (show _ = some (.int .i64 0) from rfl)
 have y0 := hp_frz H1 4
 have H2 : Hid (HpB (w1.setCell ⟨g, 4, none⟩ (.int .i64 first)) g (.cells (egC gc kf pf src first false 0 0 0 0 0 0 false 0 0 0 gr gb) 57)) := Lib.hid (hp_set H1 4 _)
 have T2 := Lib.hid ((B1.out.still [g]).trans (still_sc w1 g 4 (.int .i64 first)))
 replace H1 := Lib.hid H1
 go_wp2_with fail
 go_end0
 exact ⟨rfl, H2.out, T2.out⟩
end Go.Proofs.Ytojedpahaifjgaa
