/- The writer of an egress: Start, next, Follow, Map, High. No condition but the numbers' bounds. The writer of an egress: Follow, Map. No condition but the numbers' bounds. -/
import Derived.Test.YtojedpahaifjgaaGEl2
import Derived.Test.YtojedpahaifjgaaGEa
import Derived.Test.YtojedpahaifjgaaIB
import Derived.Lib.Hide
namespace Go.Proofs.Ytojedpahaifjgaa
open Go.RowKit
theorem still_st3 (w : World) (z : Nat) (v0 v1 v2 : Value) : Still [z] w (((w.setCell ⟨z, 0, none⟩ v0).setCell ⟨z, 1, none⟩ v1).setCell ⟨z, 2, none⟩ v2) := (((still_sc w z 0 v0).trans (still_sc _ z 1 v1)).trans (still_sc _ z 2 v2))
theorem st3_arr (c : Array Value) (hc : c.size = 3) (v0 v1 v2 : Value) : (((c.setIfInBounds 0 v0).setIfInBounds 1 v1).setIfInBounds 2 v2) = #[v0, v1, v2] := by
 obtain ⟨l⟩ := c
 match l, hc with
 | [_, _, _], _ => simp only [List.setIfInBounds_toArray, List.set_cons_zero, List.set_cons_succ]
theorem HpB.st3 {w : World} {z : Nat} {c : Array Value} {T : TypeId} (h : HpB w z (.cells c T)) (hc : c.size = 3) (v0 v1 v2 : Value) : HpB (((w.setCell ⟨z, 0, none⟩ v0).setCell ⟨z, 1, none⟩ v1).setCell ⟨z, 2, none⟩ v2) z (.cells #[v0, v1, v2] T) := by
 have k := (hp_set (hp_set (hp_set h 0 v0) 1 v1) 2 v2)
 rw [st3_arr c hc] at k
 exact k
def egC (gc : Nat) (kf pf : Value) (src first : Int) (fol : Bool) (a0 a1 a2 b0 b1 b2 : Int) (out : Bool) (l0 l1 l2 : Int) (gr gb : Nat) : Array Value :=
 #[.pointer (some ⟨gc, 0, none⟩), kf, pf, .int .u32 src, .int .i64 first, .bool fol, .int .i64 a0, .int .u32 a1, .int .u16 a2, .int .i64 b0, .int .u32 b1, .int .u16 b2, .bool out, .int .i64 l0, .int .u32 l1, .int .u16 l2, .pointer (some ⟨gr, 0, none⟩), .pointer (some ⟨gb, 0, none⟩)]
set_option maxRecDepth 100000 in
set_option maxHeartbeats 8000000 in
theorem high_any (g gc gr gb : Nat) (kf pf : Value) (src first : Int) (fol : Bool) (a0 a1 a2 b0 b1 b2 : Int) (out : Bool) (l0 l1 l2 : Int) (w : World) (h : HpB w g (.cells (egC gc kf pf src first fol a0 a1 a2 b0 b1 b2 out l0 l1 l2 gr gb) 57)) :
  Calls Try.prog 48 #[.pointer (some ⟨g, 4, none⟩)] w fun e w' => e = .returned (.int .i64 (if out = true then l0 else -1)) ∧ w' = w := by
 have z1 := (hp_cell h 12).trans (show _ = some (.bool out) from rfl)
 have z2 := (hp_cell h 13).trans (show _ = some (.int .i64 l0) from rfl)
 clear h
 cases out with
 | true =>
  go_enter Try.func48, Try.ntmps48
  go_wp2_with fail
  go_ret
  exact ⟨rfl, rfl⟩
 | false =>
  go_enter Try.func48, Try.ntmps48
  go_wp2_with fail
  go_ret
  exact ⟨rfl, rfl⟩
def nxS (out : Bool) (l1 : Int) : Int := if out = true then (l1 + 3000) % 4294967296 else 0
def nxP (out : Bool) (l2 : Int) : Int := if out = true then bits BinOp.and IntKind.u16 (IntKind.u16.wrap (l2 + 1)) 32767 else 0
set_option maxRecDepth 100000 in
set_option maxHeartbeats 8000000 in
theorem wnext_x (g gc gr gb : Nat) (kf pf : Value) (src first : Int) (fol : Bool) (a0 a1 a2 b0 b1 b2 : Int) (out : Bool) (l0 l1 l2 : Int) (hl : -1152921504606846976 ≤ l0 ∧ l0 ≤ 1152921504606846976) (w : World) (h : HpB w g (.cells (egC gc kf pf src first fol a0 a1 a2 b0 b1 b2 out l0 l1 l2 gr gb) 57)) :
  Calls Try.prog 75 #[.pointer (some ⟨g, 4, none⟩)] w fun e w' => e = .returned (.agg #[.int .i64 (if out = true then l0 + 1 else first), .int .u32 (nxS out l1), .int .u16 (nxP out l2)]) ∧ BW w w' := by
 have B1 : BW w (w.alloc (.cells #[.int .i64 0, .int .u32 0, .int .u16 0] 51)) := (BW.refl w).alloc
 have X1 := HpB.new w (.cells #[.int .i64 0, .int .u32 0, .int .u16 0] 51)
 have hh := h.bw B1
 have zo := (hp_cell hh 12).trans (show _ = some (.bool out) from rfl)
 have zf := (hp_cell hh 4).trans (show _ = some (.int .i64 first) from rfl)
 have z0 := (hp_cell hh 13).trans (show _ = some (.int .i64 l0) from rfl)
 have z1 := (hp_cell hh 14).trans (show _ = some (.int .u32 l1) from rfl)
 have z2 := (hp_cell hh 15).trans (show _ = some (.int .u16 l2) from rfl)
 clear h hh
 replace B1 := Lib.hid B1
 replace X1 := Lib.hid X1
 cases out with
 | false =>
  go_enter Try.func75, Try.ntmps75
  go_upto_region 1 with (fail)
  generalize w.alloc (.cells #[.int .i64 0, .int .u32 0, .int .u16 0] 51) = w1 at *
  generalize hgx : w.heap.size = gx at *
  replace hgx := Lib.hid hgx
  have q0 := (hp_cell X1.out 0).trans (show _ = some (.int .i64 0) from rfl)
  have q1 := (hp_cell X1.out 1).trans (show _ = some (.int .u32 0) from rfl)
  have q2 := (hp_cell X1.out 2).trans (show _ = some (.int .u16 0) from rfl)
  have f0 := hp_frz X1.out 0
  have f1 := hp_frz X1.out 1
  have f2 := hp_frz X1.out 2
  have X2 := Lib.hid (X1.out.st3 rfl (.int .i64 first) (.int .u32 0) (.int .u16 0))
  have B2 := Lib.hid (((B1.out.set (Nat.le_of_eq hgx.out) (o := 0) (v := .int .i64 first)).set (Nat.le_of_eq hgx.out) (o := 1) (v := .int .u32 0)).set (Nat.le_of_eq hgx.out) (o := 2) (v := .int .u16 0))
  go_wp2_with fail
  generalize ((w1.setCell ⟨gx, 0, none⟩ (.int .i64 first)).setCell ⟨gx, 1, none⟩ (.int .u32 0)).setCell ⟨gx, 2, none⟩ (.int .u16 0) = w2 at *
  clear q0 q1 q2 f0 f1 f2
  have q0 := (hp_cell X2.out 0).trans (show _ = some (.int .i64 first) from rfl)
  have q1 := (hp_cell X2.out 1).trans (show _ = some (.int .u32 0) from rfl)
  have q2 := (hp_cell X2.out 2).trans (show _ = some (.int .u16 0) from rfl)
  exact bodyPost_ret (v := .agg #[.int .i64 first, .int .u32 0, .int .u16 0]) (by simp [results, Try.results75, go_sem, q0, q1, q2]) rfl ⟨rfl, B2.out⟩
 | true =>
  go_enter Try.func75, Try.ntmps75
  go_upto_region 1 with (fail)
  generalize w.alloc (.cells #[.int .i64 0, .int .u32 0, .int .u16 0] 51) = w1 at *
  generalize hgx : w.heap.size = gx at *
  replace hgx := Lib.hid hgx
  go_upto_region 3 with (fail)
  have m0 : ∀ y : LaterS [] w1, _ := fun y => y.bw.cell z0
  have m1 : ∀ y : LaterS [] w1, _ := fun y => y.bw.cell z1
  have m2 : ∀ y : LaterS [] w1, _ := fun y => y.bw.cell z2
  refine wp_region_gg [] [] [20] (by kernel_rfl) ?_
  refine hoist [] [] (a1 := ?_) 0 rfl (by kernel_rfl) (.inl ⟨rfl, rfl⟩) rfl rfl rfl (fun x K hK => ?_) ?_
  rotate_left
  ·go_big_quiet_op
   exact hK
  refine hoist [] [] (a1 := ?_) 1 rfl (by kernel_rfl) (.inl ⟨rfl, rfl⟩) rfl rfl rfl (fun x K hK => ?_) ?_
  rotate_left
  ·go_big_quiet_op
   exact hK
  refine hoist [] [] (a1 := ?_) 2 rfl (by kernel_rfl) (.inl ⟨rfl, rfl⟩) rfl rfl rfl (fun x K hK => ?_) ?_
  rotate_left
  ·go_big_quiet_op
   exact hK
  refine hoist [] [] (a1 := ?_) 3 rfl (by kernel_rfl) (.inl ⟨rfl, rfl⟩) rfl rfl rfl (fun x K hK => ?_) ?_
  rotate_left
  ·go_big_quiet_op
   exact hK
  refine hoist [] [] (a1 := ?_) 4 rfl (by kernel_rfl) (.inl ⟨rfl, rfl⟩) rfl rfl rfl (fun x K hK => ?_) ?_
  rotate_left
  ·go_big_quiet_op
   exact hK
  refine hoist [] [] (a1 := ?_) 5 rfl (by kernel_rfl) (.inl ⟨rfl, rfl⟩) rfl rfl rfl (fun x K hK => ?_) ?_
  rotate_left
  ·go_big_quiet_op
   exact hK
  refine hoist [] [] (a1 := ?_) 6 rfl (by kernel_rfl) (.inl ⟨rfl, rfl⟩) rfl rfl rfl (fun x K hK => ?_) ?_
  rotate_left
  ·go_big_quiet_op
   exact hK
  refine hoist [] [] (a1 := ?_) 7 rfl (by kernel_rfl) (.inl ⟨rfl, rfl⟩) rfl rfl rfl (fun x K hK => ?_) ?_
  rotate_left
  ·go_big_quiet_op
   exact hK
  refine hoist [] [] (a1 := ?_) 8 rfl (by kernel_rfl) (.inl ⟨rfl, rfl⟩) rfl rfl rfl (fun x K hK => ?_) ?_
  rotate_left
  ·go_big_quiet_op
   exact hK
  refine hoist [] [] (a1 := ?_) 9 rfl (by kernel_rfl) (.inl ⟨rfl, rfl⟩) rfl rfl rfl (fun x K hK => ?_) ?_
  rotate_left
  ·go_big_quiet_op
   exact hK
  refine hoist [] [] (a1 := ?_) 10 rfl (by kernel_rfl) (.inl ⟨rfl, rfl⟩) rfl rfl rfl (fun x K hK => ?_) ?_
  rotate_left
  ·go_big_quiet_op
   exact hK
  refine hoist [] [] (a1 := ?_) 11 rfl (by kernel_rfl) (.inl ⟨rfl, rfl⟩) rfl rfl rfl (fun x K hK => ?_) ?_
  rotate_left
  ·go_big_quiet_op
   exact hK
  refine hoist [] [] (a1 := ?_) 12 rfl (by kernel_rfl) (.inl ⟨rfl, rfl⟩) rfl rfl rfl (fun x K hK => ?_) ?_
  rotate_left
  ·go_big_quiet_op
   exact hK
  refine hoist [] [] (a1 := ?_) 13 rfl (by kernel_rfl) (.inl ⟨rfl, rfl⟩) rfl rfl rfl (fun x K hK => ?_) ?_
  rotate_left
  ·go_big_quiet_op
   exact hK
  refine hoist [] [] (a1 := ?_) 14 rfl (by kernel_rfl) (.inl ⟨rfl, rfl⟩) rfl rfl rfl (fun x K hK => ?_) ?_
  rotate_left
  ·go_big_quiet_op
   exact hK
  refine hoist [] [] (a1 := ?_) 15 rfl (by kernel_rfl) (.inl ⟨rfl, rfl⟩) rfl rfl rfl (fun x K hK => ?_) ?_
  rotate_left
  ·go_big_quiet_op
   exact hK
  refine hoist [] [] (a1 := ?_) 16 rfl (by kernel_rfl) (.inl ⟨rfl, rfl⟩) rfl rfl rfl (fun x K hK => ?_) ?_
  rotate_left
  ·go_big_quiet_op
   exact hK
  refine hoist [] [] (a1 := ?_) 17 rfl (by kernel_rfl) (.inl ⟨rfl, rfl⟩) rfl rfl rfl (fun x K hK => ?_) ?_
  rotate_left
  ·go_big_quiet_op
   exact hK
  refine hoist [] [] (a1 := ?_) 18 rfl (by kernel_rfl) (.inl ⟨rfl, rfl⟩) rfl rfl rfl (fun x K hK => ?_) ?_
  rotate_left
  ·go_big_quiet_op
   exact hK
  refine hoist [] [] (a1 := ?_) 19 rfl (by kernel_rfl) (.inl ⟨rfl, rfl⟩) rfl rfl rfl (fun x K hK => ?_) ?_
  rotate_left
  ·go_big_quiet_op
   exact hK
  refine tail 20 rfl (by kernel_rfl) rfl (fun xr => ?_)
  simp only [List.drop_succ_cons, List.drop_zero]
  have B2 := Lib.hid (B1.out.trans xr.bw)
  have X2 := Lib.hid (X1.out.bw xr.bw)
  clear m0 m1 m2 z0 z1 z2 zo zf
  generalize xr.now = w2 at *
  generalize hn1 : (l1 + 3000) % 4294967296 = n1 at *
  generalize hn2 : bits BinOp.and IntKind.u16 (IntKind.u16.wrap (l2 + 1)) 32767 = n2 at *
  replace hn1 := Lib.hid hn1
  replace hn2 := Lib.hid hn2
  have q0 := (hp_cell X2.out 0).trans (show _ = some (.int .i64 0) from rfl)
  have q1 := (hp_cell X2.out 1).trans (show _ = some (.int .u32 0) from rfl)
  have q2 := (hp_cell X2.out 2).trans (show _ = some (.int .u16 0) from rfl)
  have f0 := hp_frz X2.out 0
  have f1 := hp_frz X2.out 1
  have f2 := hp_frz X2.out 2
  have X3 := Lib.hid (X2.out.st3 rfl (.int .i64 (l0 + 1)) (.int .u32 n1) (.int .u16 n2))
  have B3 := Lib.hid (((B2.out.set (Nat.le_of_eq hgx.out) (o := 0) (v := .int .i64 (l0 + 1))).set (Nat.le_of_eq hgx.out) (o := 1) (v := .int .u32 n1)).set (Nat.le_of_eq hgx.out) (o := 2) (v := .int .u16 n2))
  go_wp2_with fail
  generalize ((w2.setCell ⟨gx, 0, none⟩ (.int .i64 (l0 + 1))).setCell ⟨gx, 1, none⟩ (.int .u32 n1)).setCell ⟨gx, 2, none⟩ (.int .u16 n2) = w3 at *
  clear q0 q1 q2 f0 f1 f2
  have q0 := (hp_cell X3.out 0).trans (show _ = some (.int .i64 (l0 + 1)) from rfl)
  have q1 := (hp_cell X3.out 1).trans (show _ = some (.int .u32 n1) from rfl)
  have q2 := (hp_cell X3.out 2).trans (show _ = some (.int .u16 n2) from rfl)
  exact bodyPost_ret (v := .agg #[.int .i64 (l0 + 1), .int .u32 n1, .int .u16 n2]) (by simp [results, Try.results75, go_sem, q0, q1, q2]) rfl ⟨by rw [← hn1.out, ← hn2.out]; rfl, B3.out⟩
set_option maxRecDepth 100000 in
set_option maxHeartbeats 8000000 in
theorem wstart_any (g gc gr gb : Nat) (kf pf : Value) (src first : Int) (hf : 0 ≤ first) (w : World) (h : HpB w g (.cells (egC gc kf pf src 0 false 0 0 0 0 0 0 false 0 0 0 gr gb) 57)) :
  Calls Try.prog 36 #[.pointer (some ⟨g, 4, none⟩), .int .i64 first] w fun e w' => e = .returned (.tuple #[]) ∧ HpB w' g (.cells (egC gc kf pf src first false 0 0 0 0 0 0 false 0 0 0 gr gb) 57) ∧ Still [g] w w' := by
 have z0 := (hp_cell h 4).trans (show _ = some (.int .i64 0) from rfl)
 have z1 := (hp_cell h 5).trans (show _ = some (.bool false) from rfl)
 have z2 := (hp_cell h 6).trans (show _ = some (.int .i64 0) from rfl)
 have z3 := (hp_cell h 7).trans (show _ = some (.int .u32 0) from rfl)
 have z4 := (hp_cell h 8).trans (show _ = some (.int .u16 0) from rfl)
 have z5 := (hp_cell h 9).trans (show _ = some (.int .i64 0) from rfl)
 have z6 := (hp_cell h 10).trans (show _ = some (.int .u32 0) from rfl)
 have z7 := (hp_cell h 11).trans (show _ = some (.int .u16 0) from rfl)
 have z8 := (hp_cell h 12).trans (show _ = some (.bool false) from rfl)
 have z9 := (hp_cell h 13).trans (show _ = some (.int .i64 0) from rfl)
 have z10 := (hp_cell h 14).trans (show _ = some (.int .u32 0) from rfl)
 have z11 := (hp_cell h 15).trans (show _ = some (.int .u16 0) from rfl)
 have d : decide (0 ≤ first) = true := by simpa using hf
 have m0 : ∀ y : LaterS [] w, _ := fun y => y.bw.cell z0
 have m1 : ∀ y : LaterS [] w, _ := fun y => y.bw.cell z1
 have m2 : ∀ y : LaterS [] w, _ := fun y => y.bw.cell z2
 have m3 : ∀ y : LaterS [] w, _ := fun y => y.bw.cell z3
 have m4 : ∀ y : LaterS [] w, _ := fun y => y.bw.cell z4
 have m5 : ∀ y : LaterS [] w, _ := fun y => y.bw.cell z5
 have m6 : ∀ y : LaterS [] w, _ := fun y => y.bw.cell z6
 have m7 : ∀ y : LaterS [] w, _ := fun y => y.bw.cell z7
 have m8 : ∀ y : LaterS [] w, _ := fun y => y.bw.cell z8
 have m9 : ∀ y : LaterS [] w, _ := fun y => y.bw.cell z9
 have m10 : ∀ y : LaterS [] w, _ := fun y => y.bw.cell z10
 have m11 : ∀ y : LaterS [] w, _ := fun y => y.bw.cell z11
 have hH := Lib.hid h
 clear h
 go_enter Try.func36, Try.ntmps36
 go_upto_region 0 with (fail)
 refine wp_region_gg [] [] [] (by kernel_rfl) ?_
 refine hoist [] [] (a1 := ?_) 0 rfl (by kernel_rfl) (.inl ⟨rfl, rfl⟩) rfl rfl rfl (fun x K hK => ?_) ?_
 rotate_left
 ·go_big_quiet_op
  exact hK
 refine hoist [] [] (a1 := ?_) 1 rfl (by kernel_rfl) (.inl ⟨rfl, rfl⟩) rfl rfl rfl (fun x K hK => ?_) ?_
 rotate_left
 ·go_big_quiet_op
  exact hK
 refine hoist [] [] (a1 := ?_) 2 rfl (by kernel_rfl) (.inl ⟨rfl, rfl⟩) rfl rfl rfl (fun x K hK => ?_) ?_
 rotate_left
 ·go_big_quiet_op
  exact hK
 refine hoist [] [] (a1 := ?_) 3 rfl (by kernel_rfl) (.inl ⟨rfl, rfl⟩) rfl rfl rfl (fun x K hK => ?_) ?_
 rotate_left
 ·go_big_quiet_op
  exact hK
 refine hoist [] [] (a1 := ?_) 4 rfl (by kernel_rfl) (.inl ⟨rfl, rfl⟩) rfl rfl rfl (fun x K hK => ?_) ?_
 rotate_left
 ·go_big_quiet_op
  exact hK
 refine hoist [] [] (a1 := ?_) 5 rfl (by kernel_rfl) (.inl ⟨rfl, rfl⟩) rfl rfl rfl (fun x K hK => ?_) ?_
 rotate_left
 ·go_big_quiet_op
  exact hK
 refine hoist [] [] (a1 := ?_) 6 rfl (by kernel_rfl) (.inl ⟨rfl, rfl⟩) rfl rfl rfl (fun x K hK => ?_) ?_
 rotate_left
 ·go_big_quiet_op
  exact hK
 refine hoist [] [] (a1 := ?_) 7 rfl (by kernel_rfl) (.inl ⟨rfl, rfl⟩) rfl rfl rfl (fun x K hK => ?_) ?_
 rotate_left
 ·go_big_quiet_op
  exact hK
 refine hoist [] [] (a1 := ?_) 8 rfl (by kernel_rfl) (.inl ⟨rfl, rfl⟩) rfl rfl rfl (fun x K hK => ?_) ?_
 rotate_left
 ·go_big_quiet_op
  exact hK
 refine hoist [] [] (a1 := ?_) 9 rfl (by kernel_rfl) (.inl ⟨rfl, rfl⟩) rfl rfl rfl (fun x K hK => ?_) ?_
 rotate_left
 ·go_big_quiet_op
  exact hK
 refine hoist [] [] (a1 := ?_) 10 rfl (by kernel_rfl) (.inl ⟨rfl, rfl⟩) rfl rfl rfl (fun x K hK => ?_) ?_
 rotate_left
 ·go_big_quiet_op
  exact hK
 refine hoist [] [] (a1 := ?_) 11 rfl (by kernel_rfl) (.inl ⟨rfl, rfl⟩) rfl rfl rfl (fun x K hK => ?_) ?_
 rotate_left
 ·go_big_quiet_op
  exact hK
 refine hoist [] [] (a1 := ?_) 12 rfl (by kernel_rfl) (.inl ⟨rfl, rfl⟩) rfl rfl rfl (fun x K hK => ?_) ?_
 rotate_left
 ·go_big_quiet_op
  exact hK
 refine hoist [] [] (a1 := ?_) 13 rfl (by kernel_rfl) (.inl ⟨rfl, rfl⟩) rfl rfl rfl (fun x K hK => ?_) ?_
 rotate_left
 ·go_big_quiet_op
  exact hK
 refine hoist [] [] (a1 := ?_) 14 rfl (by kernel_rfl) (.inl ⟨rfl, rfl⟩) rfl rfl rfl (fun x K hK => ?_) ?_
 rotate_left
 ·go_big_quiet_op
  exact hK
 refine hoist [] [] (a1 := ?_) 15 rfl (by kernel_rfl) (.inl ⟨rfl, rfl⟩) rfl rfl rfl (fun x K hK => ?_) ?_
 rotate_left
 ·go_big_quiet_op
  exact hK
 refine hoist [] [] (a1 := ?_) 16 rfl (by kernel_rfl) (.inl ⟨rfl, rfl⟩) rfl rfl rfl (fun x K hK => ?_) ?_
 rotate_left
 ·go_big_quiet_op
  exact hK
 refine done (by kernel_rfl) (fun xr => ?_)
 have B1 := Lib.hid xr.bw
 clear m0 m1 m2 m3 m4 m5 m6 m7 m8 m9 m10 m11 z0 z1 z2 z3 z4 z5 z6 z7 z8 z9 z10 z11
 generalize xr.now = w1 at *
 have H1 := hH.out.bw B1.out
 have z0 := (hp_cell H1 4).trans (show _ = some (.int .i64 0) from rfl)
 have y0 := hp_frz H1 4
 have H2 : Hid (HpB (w1.setCell ⟨g, 4, none⟩ (.int .i64 first)) g (.cells (egC gc kf pf src first false 0 0 0 0 0 0 false 0 0 0 gr gb) 57)) := Lib.hid (hp_set H1 4 _)
 have T2 := Lib.hid ((B1.out.still [g]).trans (still_sc w1 g 4 (.int .i64 first)))
 replace H1 := Lib.hid H1
 go_wp2_with fail
 go_end0
 exact ⟨rfl, H2.out, T2.out⟩
end Go.Proofs.Ytojedpahaifjgaa

namespace Go.Proofs.Ytojedpahaifjgaa
open Go.RowKit
theorem Still.stNew {S S2 : List Nat} {w w1 w2 : World} (h1 : Still S w w1) (h2 : Still S2 w1 w2) (h : ∀ k ∈ S2, w.heap.size ≤ k) : Still S w w2 :=
 ⟨h2.os.trans h1.os, h2.tape.trans h1.tape, h2.output.trans h1.output, Nat.le_trans h1.size h2.size, fun k hk hs => (h2.block k (Nat.lt_of_lt_of_le hk h1.size) (fun hm => by have := h k hm; omega)).trans (h1.block k hk hs)⟩
set_option maxRecDepth 100000 in
set_option maxHeartbeats 8000000 in
theorem wfollow_x (g gc gr gb : Nat) (kf pf : Value) (src first : Int) (fol : Bool) (a0 a1 a2 b0 b1 b2 : Int) (out : Bool) (l0 l1 l2 i s p : Int) (hi : 0 ≤ i) (hl : -1152921504606846976 ≤ l0 ∧ l0 ≤ 1152921504606846976) (w : World) (h : HpB w g (.cells (egC gc kf pf src first fol a0 a1 a2 b0 b1 b2 out l0 l1 l2 gr gb) 57)) :
  Calls Try.prog 39 #[.pointer (some ⟨g, 4, none⟩), .agg #[.int .i64 i, .int .u32 s, .int .u16 p]] w fun e w' => e = .returned (.int .i64 0) ∧ HpB w' g (.cells (egC gc kf pf src first true i s p (if out = true then l0 + 1 else first) (nxS out l1) (nxP out l2) out l0 l1 l2 gr gb) 57) ∧ Still [g] w w' := by
 obtain ⟨nx, hnx⟩ : ∃ nx, (if out = true then l0 + 1 else first) = nx := ⟨_, rfl⟩
 have cN := fun (y : World) (Y : BW w y) => wnext_x g gc gr gb kf pf src first fol a0 a1 a2 b0 b1 b2 out l0 l1 l2 hl y (h.bw Y)
 rw [hnx] at cN ⊢
 obtain ⟨n1, hn1⟩ : ∃ n1, nxS out l1 = n1 := ⟨_, rfl⟩
 obtain ⟨n2, hn2⟩ : ∃ n2, nxP out l2 = n2 := ⟨_, rfl⟩
 rw [hn1, hn2] at cN ⊢
 have d : decide (i < 0) = false := by simp; omega
 have B1 := Lib.hid (show BW w (w.alloc (.cells #[.int .i64 i, .int .u32 s, .int .u16 p] 51)) from (BW.refl w).alloc)
 have X1 := HpB.new w (.cells #[.int .i64 i, .int .u32 s, .int .u16 p] 51)
 have hH := Lib.hid h
 clear h
 replace hnx := Lib.hid hnx
 replace cN := Lib.hid cN
 replace hn1 := Lib.hid hn1
 replace hn2 := Lib.hid hn2
 go_enter Try.func39, Try.ntmps39
 go_upto_region 1 with (fail)
 generalize w.alloc (.cells #[.int .i64 i, .int .u32 s, .int .u16 p] 51) = w1 at *
 generalize w.heap.size = gx at *
 have z0 := (hp_cell X1 0).trans (show _ = some (.int .i64 i) from rfl)
 have z1 := (hp_cell X1 1).trans (show _ = some (.int .u32 s) from rfl)
 have z2 := (hp_cell X1 2).trans (show _ = some (.int .u16 p) from rfl)
 replace X1 := Lib.hid X1
 go_upto_region 3 with (fail)
 have m0 : ∀ y : LaterS [] w1, _ := fun y => y.bw.cell z0
 have m1 : ∀ y : LaterS [] w1, _ := fun y => y.bw.cell z1
 have m2 : ∀ y : LaterS [] w1, _ := fun y => y.bw.cell z2
 refine wp_region_gg ([g]) [8, 11, 14] [] (by kernel_rfl) ?_
 refine hoist [] [8, 11, 14] (a1 := ?_) 0 rfl (by kernel_rfl) (.inl ⟨rfl, rfl⟩) rfl rfl rfl (fun x K hK => ?_) ?_
 rotate_left
 ·go_big_quiet_op
  exact hK
 refine hoist ([g]) [] (a1 := ?_) 1 rfl (by kernel_rfl) (.inr rfl) rfl rfl rfl (fun x K hK => ?_) ?_
 rotate_left
 ·go_big_quiet_op
  exact hK
 refine hoist ([g]) [] (a1 := ?_) 2 rfl (by kernel_rfl) (.inr rfl) rfl rfl rfl (fun x K hK => ?_) ?_
 rotate_left
 ·go_big_quiet_op
  exact hK
 refine hoist [] [8, 11, 14] (a1 := ?_) 3 rfl (by kernel_rfl) (.inl ⟨rfl, rfl⟩) rfl rfl rfl (fun x K hK => ?_) ?_
 rotate_left
 ·go_big_quiet_op
  exact hK
 refine hoist [] [8, 11, 14] (a1 := ?_) 4 rfl (by kernel_rfl) (.inl ⟨rfl, rfl⟩) rfl rfl rfl (fun x K hK => ?_) ?_
 rotate_left
 ·go_big_quiet_op
  exact hK
 refine effect 5 rfl (by kernel_rfl) (by kernel_rfl) rfl (fun x5 K hK => ?_)
 go_simp
 refine Calls.mono (cN.out x5.now (B1.out.trans x5.bw)) ?_
 rintro e w6 ⟨rfl, hb⟩
 refine hK _ _ (hb.still _) ?_
 clear hK K
 have B5 := Lib.hid (B1.out.trans (x5.bw.trans hb))
 clear hb cN
 try simp only [Act.put, List.setIfInBounds_toArray, List.set_cons_succ, List.set_cons_zero]
 refine hoist [] [8, 11, 14] (a1 := ?_) 6 rfl (by kernel_rfl) (.inl ⟨rfl, rfl⟩) rfl rfl rfl (fun x K hK => ?_) ?_
 rotate_left
 ·go_big_quiet_op
  exact hK
 refine hoist [] [8, 11, 14] (a1 := ?_) 7 rfl (by kernel_rfl) (.inl ⟨rfl, rfl⟩) rfl rfl rfl (fun x K hK => ?_) ?_
 rotate_left
 ·go_big_quiet_op
  exact hK
 refine effect 8 rfl (by kernel_rfl) (by kernel_rfl) rfl (fun x8 K hK => ?_)
 have B6 := Lib.hid (B5.out.trans x8.bw)
 have H6 := hH.out.bw B6.out
 have y6 := hp_frz H6 6
 have y7 := hp_frz H6 7
 have y8 := hp_frz H6 8
 have z6 := (hp_cell H6 6).trans (show _ = some (.int .i64 a0) from rfl)
 have z7 := (hp_cell H6 7).trans (show _ = some (.int .u32 a1) from rfl)
 have z8 := (hp_cell H6 8).trans (show _ = some (.int .u16 a2) from rfl)
 have H8 : Hid (HpB (((x8.now.setCell ⟨g, 6, none⟩ (.int .i64 i)).setCell ⟨g, 7, none⟩ (.int .u32 s)).setCell ⟨g, 8, none⟩ (.int .u16 p)) g (.cells (egC gc kf pf src first fol i s p b0 b1 b2 out l0 l1 l2 gr gb) 57)) := Lib.hid (hp_set (hp_set (hp_set H6 6 _) 7 _) 8 _)
 have T8 := Lib.hid (((still_sc x8.now g 6 (.int .i64 i)).trans (still_sc _ g 7 (.int .u32 s))).trans (still_sc _ g 8 (.int .u16 p)))
 have TT8 := Lib.hid ((B6.out.still [g]).trans T8.out)
 clear m0 m1 m2
 replace H6 := Lib.hid H6
 go_simp
 refine hK _ _ T8.out ?_
 clear hK K y6 y7 y8 z6 z7 z8 H6 T8 B6
 generalize ((x8.now.setCell ⟨g, 6, none⟩ (.int .i64 i)).setCell ⟨g, 7, none⟩ (.int .u32 s)).setCell ⟨g, 8, none⟩ (.int .u16 p) = w8 at *
 try simp only [Act.put, List.setIfInBounds_toArray, List.set_cons_succ, List.set_cons_zero]
 refine hoist [] [8, 11, 14] (a1 := ?_) 9 rfl (by kernel_rfl) (.inl ⟨rfl, rfl⟩) rfl rfl rfl (fun x K hK => ?_) ?_
 rotate_left
 ·go_big_quiet_op
  exact hK
 refine hoist [] [8, 11, 14] (a1 := ?_) 10 rfl (by kernel_rfl) (.inl ⟨rfl, rfl⟩) rfl rfl rfl (fun x K hK => ?_) ?_
 rotate_left
 ·go_big_quiet_op
  exact hK
 refine effect 11 rfl (by kernel_rfl) (by kernel_rfl) rfl (fun x11 K hK => ?_)
 have H6 := H8.out.bw x11.bw
 have y6 := hp_frz H6 9
 have y7 := hp_frz H6 10
 have y8 := hp_frz H6 11
 have z6 := (hp_cell H6 9).trans (show _ = some (.int .i64 b0) from rfl)
 have z7 := (hp_cell H6 10).trans (show _ = some (.int .u32 b1) from rfl)
 have z8 := (hp_cell H6 11).trans (show _ = some (.int .u16 b2) from rfl)
 have H11 : Hid (HpB (((x11.now.setCell ⟨g, 9, none⟩ (.int .i64 nx)).setCell ⟨g, 10, none⟩ (.int .u32 n1)).setCell ⟨g, 11, none⟩ (.int .u16 n2)) g (.cells (egC gc kf pf src first fol i s p nx n1 n2 out l0 l1 l2 gr gb) 57)) := Lib.hid (hp_set (hp_set (hp_set H6 9 _) 10 _) 11 _)
 have T11 := Lib.hid (((still_sc x11.now g 9 (.int .i64 nx)).trans (still_sc _ g 10 (.int .u32 n1))).trans (still_sc _ g 11 (.int .u16 n2)))
 have TT11 := Lib.hid ((TT8.out.trans (x11.bw.still [g])).trans T11.out)
 replace H6 := Lib.hid H6
 go_simp
 refine hK _ _ T11.out ?_
 clear hK K y6 y7 y8 z6 z7 z8 H6 T11 H8 TT8
 generalize ((x11.now.setCell ⟨g, 9, none⟩ (.int .i64 nx)).setCell ⟨g, 10, none⟩ (.int .u32 n1)).setCell ⟨g, 11, none⟩ (.int .u16 n2) = w11 at *
 try simp only [Act.put, List.setIfInBounds_toArray, List.set_cons_succ, List.set_cons_zero]
 refine hoist [] [8, 11, 14] (a1 := ?_) 12 rfl (by kernel_rfl) (.inl ⟨rfl, rfl⟩) rfl rfl rfl (fun x K hK => ?_) ?_
 rotate_left
 ·go_big_quiet_op
  exact hK
 refine hoist [] [8, 11, 14] (a1 := ?_) 13 rfl (by kernel_rfl) (.inl ⟨rfl, rfl⟩) rfl rfl rfl (fun x K hK => ?_) ?_
 rotate_left
 ·go_big_quiet_op
  exact hK
 refine effect 14 rfl (by kernel_rfl) (by kernel_rfl) rfl (fun x14 K hK => ?_)
 have H6 := H11.out.bw x14.bw
 have y6 := hp_frz H6 5
 have z6 := (hp_cell H6 5).trans (show _ = some (.bool fol) from rfl)
 have H14 : Hid (HpB (x14.now.setCell ⟨g, 5, none⟩ (.bool true)) g (.cells (egC gc kf pf src first true i s p nx n1 n2 out l0 l1 l2 gr gb) 57)) := Lib.hid (hp_set H6 5 _)
 have T14 := Lib.hid (still_sc x14.now g 5 (.bool true))
 have TT14 := Lib.hid ((TT11.out.trans (x14.bw.still [g])).trans T14.out)
 replace H6 := Lib.hid H6
 go_simp
 refine hK _ _ T14.out ?_
 clear hK K y6 z6 H6 T14 H11 TT11
 generalize x14.now.setCell ⟨g, 5, none⟩ (.bool true) = w14 at *
 try simp only [Act.put, List.setIfInBounds_toArray, List.set_cons_succ, List.set_cons_zero]
 refine done (by kernel_rfl) (fun xr => ?_)
 have H7 := Lib.hid (H14.out.bw xr.bw)
 have T7 := Lib.hid (TT14.out.trans (xr.bw.still [g]))
 go_wp2_with fail
 go_ret
 exact ⟨rfl, H7.out, T7.out⟩
def mpS (b1 s a1 : Int) : Int := (b1 + s - a1) % 4294967296
def mpP (b2 p a2 : Int) : Int := bits BinOp.and IntKind.u16 (IntKind.u16.wrap (IntKind.u16.wrap (b2 + p) - a2)) 32767
set_option maxRecDepth 100000 in
set_option maxHeartbeats 8000000 in
theorem wmap_okx (g gc gr gb : Nat) (kf pf : Value) (src first : Int) (a0 a1 a2 b0 b1 b2 : Int) (out : Bool) (l0 l1 l2 i s p y0 : Int) (hi : 0 ≤ i ∧ i ≤ 1152921504606846976) (ha : 0 ≤ a0 ∧ a0 ≤ i) (hb : 0 ≤ b0 ∧ b0 ≤ 1152921504606846976) (hy : b0 + i - a0 = y0) (hl : l0 ≤ y0) (w : World) (h : HpB w g (.cells (egC gc kf pf src first true a0 a1 a2 b0 b1 b2 out l0 l1 l2 gr gb) 57)) :
  Calls Try.prog 40 #[.pointer (some ⟨g, 4, none⟩), .agg #[.int .i64 i, .int .u32 s, .int .u16 p]] w fun e w' => e = .returned (.tuple #[.agg #[.int .i64 y0, .int .u32 (mpS b1 s a1), .int .u16 (mpP b2 p a2)], .int .i64 0]) ∧ HpB w' g (.cells (egC gc kf pf src first true a0 a1 a2 b0 b1 b2 true y0 (mpS b1 s a1) (mpP b2 p a2) gr gb) 57) ∧ Still [g] w w' := by
 have d : decide (i < 0) = false := by simp; omega
 have d2 : decide (i < a0) = false := by simp; omega
 have d3 : decide (l0 ≤ y0) = true := by simpa using hl
 have BA : BW w (w.alloc (.cells #[.int .i64 i, .int .u32 s, .int .u16 p] 51)) := (BW.refl w).alloc
 have X1 := HpB.new w (.cells #[.int .i64 i, .int .u32 s, .int .u16 p] 51)
 generalize hw1 : w.alloc (.cells #[.int .i64 i, .int .u32 s, .int .u16 p] 51) = w1 at *
 have BB : BW w1 (w1.alloc (.cells #[.int .i64 0, .int .u32 0, .int .u16 0] 51)) := (BW.refl w1).alloc
 have X2 := HpB.new w1 (.cells #[.int .i64 0, .int .u32 0, .int .u16 0] 51)
 have X1' := X1.bw BB
 have B2 := BA.trans BB
 have H2 := h.bw B2
 have hlt := h.lt
 have hz : w.heap.size ≤ w1.heap.size := BA.size
 have hx12 : w.heap.size < w1.heap.size := X1.lt
 clear h X1 BA BB
 replace hz := Lib.hid hz
 go_enter Try.func40, Try.ntmps40
 go_upto_region 1 with (fail)
 generalize w1.alloc (.cells #[.int .i64 0, .int .u32 0, .int .u16 0] 51) = w2 at *
 generalize hgx : w.heap.size = gx at *
 generalize hgy : w1.heap.size = gy at *
 have x0 := (hp_cell X1' 0).trans (show _ = some (.int .i64 i) from rfl)
 have x1 := (hp_cell X1' 1).trans (show _ = some (.int .u32 s) from rfl)
 have x2 := (hp_cell X1' 2).trans (show _ = some (.int .u16 p) from rfl)
 have z5 := (hp_cell H2 5).trans (show _ = some (.bool true) from rfl)
 have z6 := (hp_cell H2 6).trans (show _ = some (.int .i64 a0) from rfl)
 have hH2 := Lib.hid H2
 have hX2 := Lib.hid X2
 have hX1 := Lib.hid X1'
 have hB2 := Lib.hid B2
 clear H2 X2 X1' B2
 replace hw1 := Lib.hid hw1
 replace hgx := Lib.hid hgx
 replace hgy := Lib.hid hgy
 go_upto_region 3 with (fail)
 have m0 : ∀ y : LaterS [] w2, _ := fun y => y.bw.cell x0
 have m6 : ∀ y : LaterS [] w2, _ := fun y => y.bw.cell z6
 refine wp_region_gg [] [] [] (by kernel_rfl) ?_
 refine hoist [] [] (a1 := ?_) 0 rfl (by kernel_rfl) (.inl ⟨rfl, rfl⟩) rfl rfl rfl (fun x K hK => ?_) ?_
 rotate_left
 ·go_big_quiet_op
  exact hK
 refine hoist [] [] (a1 := ?_) 1 rfl (by kernel_rfl) (.inl ⟨rfl, rfl⟩) rfl rfl rfl (fun x K hK => ?_) ?_
 rotate_left
 ·go_big_quiet_op
  exact hK
 refine hoist [] [] (a1 := ?_) 2 rfl (by kernel_rfl) (.inl ⟨rfl, rfl⟩) rfl rfl rfl (fun x K hK => ?_) ?_
 rotate_left
 ·go_big_quiet_op
  exact hK
 refine hoist [] [] (a1 := ?_) 3 rfl (by kernel_rfl) (.inl ⟨rfl, rfl⟩) rfl rfl rfl (fun x K hK => ?_) ?_
 rotate_left
 ·go_big_quiet_op
  exact hK
 refine hoist [] [] (a1 := ?_) 4 rfl (by kernel_rfl) (.inl ⟨rfl, rfl⟩) rfl rfl rfl (fun x K hK => ?_) ?_
 rotate_left
 ·go_big_quiet_op
  exact hK
 refine hoist [] [] (a1 := ?_) 5 rfl (by kernel_rfl) (.inl ⟨rfl, rfl⟩) rfl rfl rfl (fun x K hK => ?_) ?_
 rotate_left
 ·go_big_quiet_op
  exact hK
 refine hoist [] [] (a1 := ?_) 6 rfl (by kernel_rfl) (.inl ⟨rfl, rfl⟩) rfl rfl rfl (fun x K hK => ?_) ?_
 rotate_left
 ·go_big_quiet_op
  exact hK
 refine hoist [] [] (a1 := ?_) 7 rfl (by kernel_rfl) (.inl ⟨rfl, rfl⟩) rfl rfl rfl (fun x K hK => ?_) ?_
 rotate_left
 ·go_big_quiet_op
  exact hK
 refine hoist [] [] (a1 := ?_) 8 rfl (by kernel_rfl) (.inl ⟨rfl, rfl⟩) rfl rfl rfl (fun x K hK => ?_) ?_
 rotate_left
 ·go_big_quiet_op
  exact hK
 refine done (by kernel_rfl) (fun xr => ?_)
 have b3 := Lib.hid xr.bw
 clear m0 m6 x0 x1 x2 z5 z6
 generalize xr.now = w3 at *
 have H3 := Lib.hid (hH2.out.bw b3.out)
 have Y3 := Lib.hid (hX2.out.bw b3.out)
 have B3 := Lib.hid (hB2.out.trans b3.out)
 have X3 := hX1.out.bw b3.out
 have x0 := (hp_cell X3 0).trans (show _ = some (.int .i64 i) from rfl)
 have x1 := (hp_cell X3 1).trans (show _ = some (.int .u32 s) from rfl)
 have x2 := (hp_cell X3 2).trans (show _ = some (.int .u16 p) from rfl)
 have z6 := (hp_cell H3.out 6).trans (show _ = some (.int .i64 a0) from rfl)
 have z7 := (hp_cell H3.out 7).trans (show _ = some (.int .u32 a1) from rfl)
 have z8 := (hp_cell H3.out 8).trans (show _ = some (.int .u16 a2) from rfl)
 have z9 := (hp_cell H3.out 9).trans (show _ = some (.int .i64 b0) from rfl)
 have z10 := (hp_cell H3.out 10).trans (show _ = some (.int .u32 b1) from rfl)
 have z11 := (hp_cell H3.out 11).trans (show _ = some (.int .u16 b2) from rfl)
 clear X3 hH2 hX2 hX1 hB2 b3
 have q1 : IntKind.i64.wrap (b0 + i) = b0 + i := IntWalk.i64_in _ (by omega)
 have q2 : IntKind.i64.wrap (b0 + i - a0) = b0 + i - a0 := IntWalk.i64_in _ (by omega)
 go_upto_region 5 with (fail)
 have m0 : ∀ y : LaterS [] w3, _ := fun y => y.bw.cell x0
 have m1 : ∀ y : LaterS [] w3, _ := fun y => y.bw.cell x1
 have m2 : ∀ y : LaterS [] w3, _ := fun y => y.bw.cell x2
 have m6 : ∀ y : LaterS [] w3, _ := fun y => y.bw.cell z6
 have m7 : ∀ y : LaterS [] w3, _ := fun y => y.bw.cell z7
 have m8 : ∀ y : LaterS [] w3, _ := fun y => y.bw.cell z8
 have m9 : ∀ y : LaterS [] w3, _ := fun y => y.bw.cell z9
 have m10 : ∀ y : LaterS [] w3, _ := fun y => y.bw.cell z10
 have m11 : ∀ y : LaterS [] w3, _ := fun y => y.bw.cell z11
 refine wp_region_gg [] [] [45] (by kernel_rfl) ?_
 refine hoist [] [] (a1 := ?_) 0 rfl (by kernel_rfl) (.inl ⟨rfl, rfl⟩) rfl rfl rfl (fun x K hK => ?_) ?_
 rotate_left
 ·go_big_quiet_op
  exact hK
 refine hoist [] [] (a1 := ?_) 1 rfl (by kernel_rfl) (.inl ⟨rfl, rfl⟩) rfl rfl rfl (fun x K hK => ?_) ?_
 rotate_left
 ·go_big_quiet_op
  exact hK
 refine hoist [] [] (a1 := ?_) 2 rfl (by kernel_rfl) (.inl ⟨rfl, rfl⟩) rfl rfl rfl (fun x K hK => ?_) ?_
 rotate_left
 ·go_big_quiet_op
  exact hK
 refine hoist [] [] (a1 := ?_) 3 rfl (by kernel_rfl) (.inl ⟨rfl, rfl⟩) rfl rfl rfl (fun x K hK => ?_) ?_
 rotate_left
 ·go_big_quiet_op
  exact hK
 refine hoist [] [] (a1 := ?_) 4 rfl (by kernel_rfl) (.inl ⟨rfl, rfl⟩) rfl rfl rfl (fun x K hK => ?_) ?_
 rotate_left
 ·go_big_quiet_op
  exact hK
 refine hoist [] [] (a1 := ?_) 5 rfl (by kernel_rfl) (.inl ⟨rfl, rfl⟩) rfl rfl rfl (fun x K hK => ?_) ?_
 rotate_left
 ·go_big_quiet_op
  exact hK
 refine hoist [] [] (a1 := ?_) 6 rfl (by kernel_rfl) (.inl ⟨rfl, rfl⟩) rfl rfl rfl (fun x K hK => ?_) ?_
 rotate_left
 ·go_big_quiet_op
  exact hK
 refine hoist [] [] (a1 := ?_) 7 rfl (by kernel_rfl) (.inl ⟨rfl, rfl⟩) rfl rfl rfl (fun x K hK => ?_) ?_
 rotate_left
 ·go_big_quiet_op
  exact hK
 refine hoist [] [] (a1 := ?_) 8 rfl (by kernel_rfl) (.inl ⟨rfl, rfl⟩) rfl rfl rfl (fun x K hK => ?_) ?_
 rotate_left
 ·go_big_quiet_op
  exact hK
 refine hoist [] [] (a1 := ?_) 9 rfl (by kernel_rfl) (.inl ⟨rfl, rfl⟩) rfl rfl rfl (fun x K hK => ?_) ?_
 rotate_left
 ·go_big_quiet_op
  exact hK
 refine hoist [] [] (a1 := ?_) 10 rfl (by kernel_rfl) (.inl ⟨rfl, rfl⟩) rfl rfl rfl (fun x K hK => ?_) ?_
 rotate_left
 ·go_big_quiet_op
  exact hK
 refine hoist [] [] (a1 := ?_) 11 rfl (by kernel_rfl) (.inl ⟨rfl, rfl⟩) rfl rfl rfl (fun x K hK => ?_) ?_
 rotate_left
 ·go_big_quiet_op
  exact hK
 refine hoist [] [] (a1 := ?_) 12 rfl (by kernel_rfl) (.inl ⟨rfl, rfl⟩) rfl rfl rfl (fun x K hK => ?_) ?_
 rotate_left
 ·go_big_quiet_op
  exact hK
 refine hoist [] [] (a1 := ?_) 13 rfl (by kernel_rfl) (.inl ⟨rfl, rfl⟩) rfl rfl rfl (fun x K hK => ?_) ?_
 rotate_left
 ·go_big_quiet_op
  exact hK
 refine hoist [] [] (a1 := ?_) 14 rfl (by kernel_rfl) (.inl ⟨rfl, rfl⟩) rfl rfl rfl (fun x K hK => ?_) ?_
 rotate_left
 ·go_big_quiet_op
  exact hK
 refine hoist [] [] (a1 := ?_) 15 rfl (by kernel_rfl) (.inl ⟨rfl, rfl⟩) rfl rfl rfl (fun x K hK => ?_) ?_
 rotate_left
 ·go_big_quiet_op
  exact hK
 refine hoist [] [] (a1 := ?_) 16 rfl (by kernel_rfl) (.inl ⟨rfl, rfl⟩) rfl rfl rfl (fun x K hK => ?_) ?_
 rotate_left
 ·go_big_quiet_op
  exact hK
 refine hoist [] [] (a1 := ?_) 17 rfl (by kernel_rfl) (.inl ⟨rfl, rfl⟩) rfl rfl rfl (fun x K hK => ?_) ?_
 rotate_left
 ·go_big_quiet_op
  exact hK
 refine hoist [] [] (a1 := ?_) 18 rfl (by kernel_rfl) (.inl ⟨rfl, rfl⟩) rfl rfl rfl (fun x K hK => ?_) ?_
 rotate_left
 ·go_big_quiet_op
  exact hK
 refine hoist [] [] (a1 := ?_) 19 rfl (by kernel_rfl) (.inl ⟨rfl, rfl⟩) rfl rfl rfl (fun x K hK => ?_) ?_
 rotate_left
 ·go_big_quiet_op
  exact hK
 refine hoist [] [] (a1 := ?_) 20 rfl (by kernel_rfl) (.inl ⟨rfl, rfl⟩) rfl rfl rfl (fun x K hK => ?_) ?_
 rotate_left
 ·go_big_quiet_op
  exact hK
 refine hoist [] [] (a1 := ?_) 21 rfl (by kernel_rfl) (.inl ⟨rfl, rfl⟩) rfl rfl rfl (fun x K hK => ?_) ?_
 rotate_left
 ·go_big_quiet_op
  exact hK
 refine hoist [] [] (a1 := ?_) 22 rfl (by kernel_rfl) (.inl ⟨rfl, rfl⟩) rfl rfl rfl (fun x K hK => ?_) ?_
 rotate_left
 ·go_big_quiet_op
  exact hK
 refine hoist [] [] (a1 := ?_) 23 rfl (by kernel_rfl) (.inl ⟨rfl, rfl⟩) rfl rfl rfl (fun x K hK => ?_) ?_
 rotate_left
 ·go_big_quiet_op
  exact hK
 refine hoist [] [] (a1 := ?_) 24 rfl (by kernel_rfl) (.inl ⟨rfl, rfl⟩) rfl rfl rfl (fun x K hK => ?_) ?_
 rotate_left
 ·go_big_quiet_op
  exact hK
 refine hoist [] [] (a1 := ?_) 25 rfl (by kernel_rfl) (.inl ⟨rfl, rfl⟩) rfl rfl rfl (fun x K hK => ?_) ?_
 rotate_left
 ·go_big_quiet_op
  exact hK
 refine hoist [] [] (a1 := ?_) 26 rfl (by kernel_rfl) (.inl ⟨rfl, rfl⟩) rfl rfl rfl (fun x K hK => ?_) ?_
 rotate_left
 ·go_big_quiet_op
  exact hK
 refine hoist [] [] (a1 := ?_) 27 rfl (by kernel_rfl) (.inl ⟨rfl, rfl⟩) rfl rfl rfl (fun x K hK => ?_) ?_
 rotate_left
 ·go_big_quiet_op
  exact hK
 refine hoist [] [] (a1 := ?_) 28 rfl (by kernel_rfl) (.inl ⟨rfl, rfl⟩) rfl rfl rfl (fun x K hK => ?_) ?_
 rotate_left
 ·go_big_quiet_op
  exact hK
 refine hoist [] [] (a1 := ?_) 29 rfl (by kernel_rfl) (.inl ⟨rfl, rfl⟩) rfl rfl rfl (fun x K hK => ?_) ?_
 rotate_left
 ·go_big_quiet_op
  exact hK
 refine hoist [] [] (a1 := ?_) 30 rfl (by kernel_rfl) (.inl ⟨rfl, rfl⟩) rfl rfl rfl (fun x K hK => ?_) ?_
 rotate_left
 ·go_big_quiet_op
  exact hK
 refine hoist [] [] (a1 := ?_) 31 rfl (by kernel_rfl) (.inl ⟨rfl, rfl⟩) rfl rfl rfl (fun x K hK => ?_) ?_
 rotate_left
 ·go_big_quiet_op
  exact hK
 refine hoist [] [] (a1 := ?_) 32 rfl (by kernel_rfl) (.inl ⟨rfl, rfl⟩) rfl rfl rfl (fun x K hK => ?_) ?_
 rotate_left
 ·go_big_quiet_op
  exact hK
 refine hoist [] [] (a1 := ?_) 33 rfl (by kernel_rfl) (.inl ⟨rfl, rfl⟩) rfl rfl rfl (fun x K hK => ?_) ?_
 rotate_left
 ·go_big_quiet_op
  exact hK
 refine hoist [] [] (a1 := ?_) 34 rfl (by kernel_rfl) (.inl ⟨rfl, rfl⟩) rfl rfl rfl (fun x K hK => ?_) ?_
 rotate_left
 ·go_big_quiet_op
  exact hK
 refine hoist [] [] (a1 := ?_) 35 rfl (by kernel_rfl) (.inl ⟨rfl, rfl⟩) rfl rfl rfl (fun x K hK => ?_) ?_
 rotate_left
 ·go_big_quiet_op
  exact hK
 refine hoist [] [] (a1 := ?_) 36 rfl (by kernel_rfl) (.inl ⟨rfl, rfl⟩) rfl rfl rfl (fun x K hK => ?_) ?_
 rotate_left
 ·go_big_quiet_op
  exact hK
 refine hoist [] [] (a1 := ?_) 37 rfl (by kernel_rfl) (.inl ⟨rfl, rfl⟩) rfl rfl rfl (fun x K hK => ?_) ?_
 rotate_left
 ·go_big_quiet_op
  exact hK
 refine hoist [] [] (a1 := ?_) 38 rfl (by kernel_rfl) (.inl ⟨rfl, rfl⟩) rfl rfl rfl (fun x K hK => ?_) ?_
 rotate_left
 ·go_big_quiet_op
  exact hK
 refine hoist [] [] (a1 := ?_) 39 rfl (by kernel_rfl) (.inl ⟨rfl, rfl⟩) rfl rfl rfl (fun x K hK => ?_) ?_
 rotate_left
 ·go_big_quiet_op
  exact hK
 refine hoist [] [] (a1 := ?_) 40 rfl (by kernel_rfl) (.inl ⟨rfl, rfl⟩) rfl rfl rfl (fun x K hK => ?_) ?_
 rotate_left
 ·go_big_quiet_op
  exact hK
 refine hoist [] [] (a1 := ?_) 41 rfl (by kernel_rfl) (.inl ⟨rfl, rfl⟩) rfl rfl rfl (fun x K hK => ?_) ?_
 rotate_left
 ·go_big_quiet_op
  exact hK
 refine hoist [] [] (a1 := ?_) 42 rfl (by kernel_rfl) (.inl ⟨rfl, rfl⟩) rfl rfl rfl (fun x K hK => ?_) ?_
 rotate_left
 ·go_big_quiet_op
  exact hK
 refine hoist [] [] (a1 := ?_) 43 rfl (by kernel_rfl) (.inl ⟨rfl, rfl⟩) rfl rfl rfl (fun x K hK => ?_) ?_
 rotate_left
 ·go_big_quiet_op
  exact hK
 refine effect 44 rfl (by kernel_rfl) (by kernel_rfl) rfl (fun x44 K hK => ?_)
 go_simp
 refine hK _ _ (Still.of_below ((Below.refl _ _).alloc (Nat.le_refl _) _)) ?_
 clear hK K
 have hb := x44.bw.trans ((BW.refl x44.now).alloc (o := .cells #[.int .i64 0, .int .u32 0, .int .u16 0] 51))
 have H4 := Lib.hid (H3.out.bw hb)
 have Y4 := Lib.hid (Y3.out.bw hb)
 have B4 := Lib.hid (B3.out.trans hb)
 have Z4 := Lib.hid (HpB.new x44.now (.cells #[.int .i64 0, .int .u32 0, .int .u16 0] 51))
 have hyz := Lib.hid (Nat.ne_of_lt (Y3.out.bw x44.bw).lt)
 have hgz := Lib.hid (Nat.ne_of_lt (H3.out.bw x44.bw).lt)
 have hwz := Lib.hid (Nat.le_trans B3.out.size x44.bw.size)
 clear hb m0 m1 m2 m6 m7 m8 m9 m10 m11 H3 Y3 B3
 generalize x44.now.alloc (.cells #[.int .i64 0, .int .u32 0, .int .u16 0] 51) = w4 at *
 generalize x44.now.heap.size = gz at *
 try simp only [Act.put, List.setIfInBounds_toArray, List.set_cons_succ, List.set_cons_zero]
 refine tail 45 rfl (by kernel_rfl) rfl (fun xr => ?_)
 simp only [List.drop_succ_cons, List.drop_zero]
 have H5 := Lib.hid (H4.out.bw xr.bw)
 have Y5 := Lib.hid (Y4.out.bw xr.bw)
 have B5 := Lib.hid (B4.out.trans xr.bw)
 have Z5 := Lib.hid (Z4.out.bw xr.bw)
 clear x0 x1 x2 z6 z7 z8 z9 z10 z11 H4 Y4 B4 Z4 q1 q2
 generalize xr.now = w5 at *
 generalize hn1 : (b1 + s - a1) % 4294967296 = n1 at *
 generalize hn2 : bits BinOp.and IntKind.u16 (IntKind.u16.wrap (IntKind.u16.wrap (b2 + p) - a2)) 32767 = n2 at *
 replace hn1 := Lib.hid hn1
 replace hn2 := Lib.hid hn2
 have q0 := (hp_cell Z5.out 0).trans (show _ = some (.int .i64 0) from rfl)
 have q1 := (hp_cell Z5.out 1).trans (show _ = some (.int .u32 0) from rfl)
 have q2 := (hp_cell Z5.out 2).trans (show _ = some (.int .u16 0) from rfl)
 have f0 := hp_frz Z5.out 0
 have f1 := hp_frz Z5.out 1
 have f2 := hp_frz Z5.out 2
 have st6 := still_st3 w5 gz (.int .i64 y0) (.int .u32 n1) (.int .u16 n2)
 have Z6 := Lib.hid (Z5.out.st3 rfl (.int .i64 y0) (.int .u32 n1) (.int .u16 n2))
 have H6 := Lib.hid (H5.out.st st6 (by simpa using hgz.out))
 have Y6 := Lib.hid (Y5.out.st st6 (by simpa using hyz.out))
 have B6 := Lib.hid (BW.stP B5.out st6 (fun k hk => by obtain rfl : k = gz := (by simpa using hk); exact hwz.out))
 clear st6 Z5 H5 Y5 B5
 go_upto_region 6 with (fail)
 generalize ((w5.setCell ⟨gz, 0, none⟩ (.int .i64 y0)).setCell ⟨gz, 1, none⟩ (.int .u32 n1)).setCell ⟨gz, 2, none⟩ (.int .u16 n2) = w6 at *
 clear q0 q1 q2 f0 f1 f2
 have z13 := (hp_cell H6.out 13).trans (show _ = some (.int .i64 l0) from rfl)
 have q0 := (hp_cell Z6.out 0).trans (show _ = some (.int .i64 y0) from rfl)
 have m0 : ∀ y : LaterS [] w6, _ := fun y => y.bw.cell q0
 have m13 : ∀ y : LaterS [] w6, _ := fun y => y.bw.cell z13
 refine wp_region_gg [] [] [] (by kernel_rfl) ?_
 refine hoist [] [] (a1 := ?_) 0 rfl (by kernel_rfl) (.inl ⟨rfl, rfl⟩) rfl rfl rfl (fun x K hK => ?_) ?_
 rotate_left
 ·go_big_quiet_op
  exact hK
 refine hoist [] [] (a1 := ?_) 1 rfl (by kernel_rfl) (.inl ⟨rfl, rfl⟩) rfl rfl rfl (fun x K hK => ?_) ?_
 rotate_left
 ·go_big_quiet_op
  exact hK
 refine hoist [] [] (a1 := ?_) 2 rfl (by kernel_rfl) (.inl ⟨rfl, rfl⟩) rfl rfl rfl (fun x K hK => ?_) ?_
 rotate_left
 ·go_big_quiet_op
  exact hK
 refine hoist [] [] (a1 := ?_) 3 rfl (by kernel_rfl) (.inl ⟨rfl, rfl⟩) rfl rfl rfl (fun x K hK => ?_) ?_
 rotate_left
 ·go_big_quiet_op
  exact hK
 refine hoist [] [] (a1 := ?_) 4 rfl (by kernel_rfl) (.inl ⟨rfl, rfl⟩) rfl rfl rfl (fun x K hK => ?_) ?_
 rotate_left
 ·go_big_quiet_op
  exact hK
 refine hoist [] [] (a1 := ?_) 5 rfl (by kernel_rfl) (.inl ⟨rfl, rfl⟩) rfl rfl rfl (fun x K hK => ?_) ?_
 rotate_left
 ·go_big_quiet_op
  exact hK
 refine hoist [] [] (a1 := ?_) 6 rfl (by kernel_rfl) (.inl ⟨rfl, rfl⟩) rfl rfl rfl (fun x K hK => ?_) ?_
 rotate_left
 ·go_big_quiet_op
  exact hK
 refine hoist [] [] (a1 := ?_) 7 rfl (by kernel_rfl) (.inl ⟨rfl, rfl⟩) rfl rfl rfl (fun x K hK => ?_) ?_
 rotate_left
 ·go_big_quiet_op
  exact hK
 refine hoist [] [] (a1 := ?_) 8 rfl (by kernel_rfl) (.inl ⟨rfl, rfl⟩) rfl rfl rfl (fun x K hK => ?_) ?_
 rotate_left
 ·go_big_quiet_op
  exact hK
 refine hoist_skip [] [] 9 rfl (by kernel_rfl) (.inl ⟨rfl, rfl⟩) rfl (a1 := ?_) ?_ ?_
 rotate_left
 ·simp only [Act.put, List.setIfInBounds_toArray, List.set_cons_succ, List.set_cons_zero]; rfl
 refine hoist_skip [] [] 10 rfl (by kernel_rfl) (.inl ⟨rfl, rfl⟩) rfl (a1 := ?_) ?_ ?_
 rotate_left
 ·simp only [Act.put, List.setIfInBounds_toArray, List.set_cons_succ, List.set_cons_zero]; rfl
 refine hoist_skip [] [] 11 rfl (by kernel_rfl) (.inl ⟨rfl, rfl⟩) rfl (a1 := ?_) ?_ ?_
 rotate_left
 ·simp only [Act.put, List.setIfInBounds_toArray, List.set_cons_succ, List.set_cons_zero]; rfl
 refine hoist_skip [] [] 12 rfl (by kernel_rfl) (.inl ⟨rfl, rfl⟩) rfl (a1 := ?_) ?_ ?_
 rotate_left
 ·simp only [Act.put, List.setIfInBounds_toArray, List.set_cons_succ, List.set_cons_zero]; rfl
 refine hoist_skip [] [] 13 rfl (by kernel_rfl) (.inl ⟨rfl, rfl⟩) rfl (a1 := ?_) ?_ ?_
 rotate_left
 ·simp only [Act.put, List.setIfInBounds_toArray, List.set_cons_succ, List.set_cons_zero]; rfl
 refine hoist [] [] (a1 := ?_) 14 rfl (by kernel_rfl) (.inl ⟨rfl, rfl⟩) rfl rfl rfl (fun x K hK => ?_) ?_
 rotate_left
 ·go_big_quiet_op
  exact hK
 refine done (by kernel_rfl) (fun xr => ?_)
 have H7 := Lib.hid (H6.out.bw xr.bw)
 have Y7 := Lib.hid (Y6.out.bw xr.bw)
 have B7 := Lib.hid (B6.out.trans xr.bw)
 have Z7 := Lib.hid (Z6.out.bw xr.bw)
 clear m0 m13 z13 q0 H6 Y6 B6 Z6
 generalize xr.now = w7 at *
 have q0 := (hp_cell Z7.out 0).trans (show _ = some (.int .i64 y0) from rfl)
 have q1 := (hp_cell Z7.out 1).trans (show _ = some (.int .u32 n1) from rfl)
 have q2 := (hp_cell Z7.out 2).trans (show _ = some (.int .u16 n2) from rfl)
 have z12 := (hp_cell H7.out 12).trans (show _ = some (.bool out) from rfl)
 have z13 := (hp_cell H7.out 13).trans (show _ = some (.int .i64 l0) from rfl)
 have z14 := (hp_cell H7.out 14).trans (show _ = some (.int .u32 l1) from rfl)
 have z15 := (hp_cell H7.out 15).trans (show _ = some (.int .u16 l2) from rfl)
 have y12 := hp_frz H7.out 12
 have y13 := hp_frz H7.out 13
 have y14 := hp_frz H7.out 14
 have y15 := hp_frz H7.out 15
 have TS := (((still_sc w7 g 13 (.int .i64 y0)).trans (still_sc _ g 14 (.int .u32 n1))).trans (still_sc _ g 15 (.int .u16 n2))).trans (still_sc _ g 12 (.bool true))
 have H8 : Hid (HpB ((((w7.setCell ⟨g, 13, none⟩ (.int .i64 y0)).setCell ⟨g, 14, none⟩ (.int .u32 n1)).setCell ⟨g, 15, none⟩ (.int .u16 n2)).setCell ⟨g, 12, none⟩ (.bool true)) g (.cells (egC gc kf pf src first true a0 a1 a2 b0 b1 b2 true y0 n1 n2 gr gb) 57)) := Lib.hid (hp_set (hp_set (hp_set (hp_set H7.out 13 _) 14 _) 15 _) 12 _)
 have Z8 := Lib.hid (Z7.out.st TS (by simpa using fun e => hgz.out e.symm))
 have hgy' : g ≠ gy := by have := hgy.out; have := hz.out; omega
 have Y8 := Lib.hid (Y7.out.st TS (by simpa using fun e => hgy' e.symm))
 have T8 := Lib.hid ((B7.out.still [g]).trans TS)
 replace hgy' := Lib.hid hgy'
 clear TS
 go_upto_region 8 with (fail)
 generalize (((w7.setCell ⟨g, 13, none⟩ (.int .i64 y0)).setCell ⟨g, 14, none⟩ (.int .u32 n1)).setCell ⟨g, 15, none⟩ (.int .u16 n2)).setCell ⟨g, 12, none⟩ (.bool true) = w8 at *
 clear q0 q1 q2 z12 z13 z14 z15 y12 y13 y14 y15 H7 Y7 B7 Z7
 have q0 := (hp_cell Z8.out 0).trans (show _ = some (.int .i64 y0) from rfl)
 have q1 := (hp_cell Z8.out 1).trans (show _ = some (.int .u32 n1) from rfl)
 have q2 := (hp_cell Z8.out 2).trans (show _ = some (.int .u16 n2) from rfl)
 have r0 := (hp_cell Y8.out 0).trans (show _ = some (.int .i64 0) from rfl)
 have r1 := (hp_cell Y8.out 1).trans (show _ = some (.int .u32 0) from rfl)
 have r2 := (hp_cell Y8.out 2).trans (show _ = some (.int .u16 0) from rfl)
 have f0 := hp_frz Y8.out 0
 have f1 := hp_frz Y8.out 1
 have f2 := hp_frz Y8.out 2
 have st9 := still_st3 w8 gy (.int .i64 y0) (.int .u32 n1) (.int .u16 n2)
 have Y9 := Lib.hid (Y8.out.st3 rfl (.int .i64 y0) (.int .u32 n1) (.int .u16 n2))
 have H9 := Lib.hid (H8.out.st st9 (by simpa using hgy'.out))
 have T9 := Lib.hid (Still.stNew T8.out st9 (fun k hk => by obtain rfl : k = gy := (by simpa using hk); have := hgy.out; have := hz.out; have := hgx.out; omega))
 clear st9
 go_wp2_with fail
 generalize ((w8.setCell ⟨gy, 0, none⟩ (.int .i64 y0)).setCell ⟨gy, 1, none⟩ (.int .u32 n1)).setCell ⟨gy, 2, none⟩ (.int .u16 n2) = w9 at *
 clear q0 q1 q2 r0 r1 r2 f0 f1 f2
 have q0 := (hp_cell Y9.out 0).trans (show _ = some (.int .i64 y0) from rfl)
 have q1 := (hp_cell Y9.out 1).trans (show _ = some (.int .u32 n1) from rfl)
 have q2 := (hp_cell Y9.out 2).trans (show _ = some (.int .u16 n2) from rfl)
 exact bodyPost_ret (v := .tuple #[.agg #[.int .i64 y0, .int .u32 n1, .int .u16 n2], .int .i64 0]) (by simp [results, Try.results40, go_sem, q0, q1, q2]) rfl ⟨by rw [← hn1.out, ← hn2.out]; rfl, by rw [show mpS b1 s a1 = n1 from hn1.out, show mpP b2 p a2 = n2 from hn2.out]; exact H9.out, T9.out⟩
end Go.Proofs.Ytojedpahaifjgaa
