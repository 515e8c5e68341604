/- An egress of any codec: New (printed by wip/gen/genEsN.py). No condition but the numbers' bounds. -/
import Derived.Test.YtojedpahaifjgaaEsW
namespace Go.Proofs.Ytojedpahaifjgaa
open Go.RowKit
def fkC (c : Nat) : FuncId := if c = 0 then 69 else if c = 1 then 70 else 72
def fpC (c : Nat) : FuncId := if c = 1 then 71 else 68
structure EsI (w : World) (base g gc gr gb : Nat) (fk fp : FuncId) (src many wanted goes first : Int) (W : Wr) (pk by_ : Int) (v : Value) (L : PL) (rate burst hav : Int) : Prop where
 hp : HpB w g (.cells (egW gc (fnV fk) (fnV fp) src first W gr gb) 57)
 ch : HpB w gc (.cells (chC many wanted goes) 112)
 rg : RingV w base gr pk by_ v L
 bk : Bk w gb rate burst hav
theorem EsI.bw {w w' : World} {base g gc gr gb : Nat} {fk fp : FuncId} {src many wanted goes first : Int} {W : Wr} {pk by_ : Int} {v : Value} {L : PL} {rate burst hav : Int} (h : EsI w base g gc gr gb fk fp src many wanted goes first W pk by_ v L rate burst hav) (b : BW w w') : EsI w' base g gc gr gb fk fp src many wanted goes first W pk by_ v L rate burst hav :=
 ⟨h.hp.bw b, h.ch.bw b, h.rg.bw b, b.heap h.bk⟩
set_option maxRecDepth 100000 in
set_option maxHeartbeats 8000000 in
theorem egnew_0 (src many first pk by_ again : Int) (hm : 1 ≤ many ∧ many ≤ 4) (hpk : 1 ≤ pk) (hby : 0 ≤ by_) (hf : 0 ≤ first) (ha : 0 ≤ again ∧ again ≤ 1000000000) (w : World) :
  Calls Try.prog 7 #[.int .u32 src, .int .i64 0, .int .i64 many, .int .i64 first, .agg (limC pk by_ again)] w fun e w' => ∃ g gc gr gb, e = .returned (.pointer (some ⟨g, 0, none⟩)) ∧ (w.heap.size ≤ g ∧ w.heap.size ≤ gc ∧ w.heap.size ≤ gr ∧ w.heap.size ≤ gb) ∧ EsI w' w.heap.size g gc gr gb 69 68 src many (-1) (-1) first Wr.zero pk by_ (.slice none 0 0) [] again (again * 4) (again * 4) ∧ BW w w' := by
 have B0 := Lib.hid (show BW w (w.alloc (.cells (limC pk by_ again) 31)) from (BW.refl w).alloc)
 have X0 := HpB.new w (.cells (limC pk by_ again) 31)
 have q1 : IntKind.u64.wrap (again * 4) = again * 4 := IntWalk.u64_in _ (by omega)
 have d1 : decide (4611686018427387903 < again) = false := by simp; omega
 go_enter Try.func7, Try.ntmps7
 unfold limC at *
 go_upto_region 1 with (fail)
 generalize w.alloc (.cells #[.int .i64 0, .int .i64 0, .int .i64 0, .int .i64 0, .int .i64 0, .int .i64 0, .int .i64 pk, .int .i64 by_, .int .u64 again] 31) = w1 at *
 generalize hbe : w.heap.size = bx at *
 have z6 := (hp_cell X0 6).trans (show _ = some (.int .i64 pk) from rfl)
 have z7 := (hp_cell X0 7).trans (show _ = some (.int .i64 by_) from rfl)
 have hX := Lib.hid X0
 clear X0
 replace hbe := Lib.hid hbe
 have m6 : ∀ y : LaterS [] w1, _ := fun y => y.bw.cell z6
 have m7 : ∀ y : LaterS [] w1, _ := fun y => y.bw.cell z7
 clear z6 z7
 refine wp_region_gg [] [] [11] (by kernel_rfl) ?_
 refine float 8 (fun g => .pointer (some ⟨g, 0, none⟩)) (.cells #[.nilFunc, .nilFunc, .nilFunc, .nilFunc, .nilFunc, .nilFunc] 106) rfl (by kernel_rfl) (by first | assumption | (intro k hk; cases hk) | omega) rfl (fun x => (by go_simp)) ?_
 refine hoist [] [] (a1 := ?_) 0 rfl (by kernel_rfl) (.inl ⟨rfl, rfl⟩) rfl rfl rfl (fun x K hK => ?_) ?_
 rotate_left
 ·go_big_quiet_op
  exact hK
 refine hoist [] [] (a1 := ?_) 2 rfl (by kernel_rfl) (.inl ⟨rfl, rfl⟩) rfl rfl rfl (fun x K hK => ?_) ?_
 rotate_left
 ·go_big_quiet_op
  exact hK
 refine hoist [] [] (a1 := ?_) 3 rfl (by kernel_rfl) (.inl ⟨rfl, rfl⟩) rfl rfl rfl (fun x K hK => ?_) ?_
 rotate_left
 ·go_big_quiet_op
  exact hK
 refine hoist [] [] (a1 := ?_) 4 rfl (by kernel_rfl) (.inl ⟨rfl, rfl⟩) rfl rfl rfl (fun x K hK => ?_) ?_
 rotate_left
 ·go_big_quiet_op
  exact hK
 refine hoist [] [] (a1 := ?_) 5 rfl (by kernel_rfl) (.inl ⟨rfl, rfl⟩) rfl rfl rfl (fun x K hK => ?_) ?_
 rotate_left
 ·go_big_quiet_op
  exact hK
 refine effect 1 rfl (by kernel_rfl) (by kernel_rfl) rfl (fun x1 K hK => ?_)
 go_simp
 refine Calls.mono (lnew_any many hm x1.now) ?_
 rintro e w2 ⟨rfl, C2, hb⟩
 refine hK _ _ (hb.still []) ?_
 clear hK K
 have B2 := Lib.hid ((B0.out.trans x1.bw).trans hb)
 have X2 := Lib.hid ((hX.out.bw x1.bw).bw hb)
 have hgc := Lib.hid (Nat.le_trans B0.out.size x1.bw.size)
 generalize x1.now.heap.size = gc at *
 replace C2 := Lib.hid C2
 clear hb
 try simp only [Act.put, List.setIfInBounds_toArray, List.set_cons_succ, List.set_cons_zero]
 refine effect 6 rfl (by kernel_rfl) (by kernel_rfl) rfl (fun x6 K hK => ?_)
 go_simp
 refine Calls.mono (ring_new pk by_ x6.now hpk hby) ?_
 rintro e w3 ⟨rfl, R3, hb⟩
 refine hK _ _ (hb.still []) ?_
 clear hK K
 have hgr := Lib.hid (Nat.le_trans B2.out.size x6.bw.size)
 have B3 := Lib.hid ((B2.out.trans x6.bw).trans hb)
 have X3 := Lib.hid ((X2.out.bw x6.bw).bw hb)
 have C3 := Lib.hid ((C2.out.bw x6.bw).bw hb)
 replace R3 := Lib.hid (R3 bx)
 generalize x6.now.heap.size = gr at *
 clear hb m6 m7 B2 X2 C2
 try simp only [Act.put, List.setIfInBounds_toArray, List.set_cons_succ, List.set_cons_zero]
 refine effect 7 rfl (by kernel_rfl) (by kernel_rfl) rfl (fun x7 K hK => ?_)
 go_simp
 refine Calls.mono (codecs_any x7.now) ?_
 rintro e w4 ⟨rfl, hb⟩
 refine hK _ _ (hb.still []) ?_
 clear hK K
 have B4 := Lib.hid ((B3.out.trans x7.bw).trans hb)
 have X4 := Lib.hid ((X3.out.bw x7.bw).bw hb)
 have C4 := Lib.hid ((C3.out.bw x7.bw).bw hb)
 have R4 := Lib.hid ((R3.out.bw x7.bw).bw hb)
 clear hb B3 X3 C3 R3
 try simp only [Act.put, List.setIfInBounds_toArray, List.set_cons_succ, List.set_cons_zero]
 refine hoist [] [] (a1 := ?_) 9 rfl (by kernel_rfl) (.inl ⟨rfl, rfl⟩) rfl rfl rfl (fun x K hK => ?_) ?_
 rotate_left
 ·go_big_quiet_op
  exact hK
 refine hoist [] [] (a1 := ?_) 10 rfl (by kernel_rfl) (.inl ⟨rfl, rfl⟩) rfl rfl rfl (fun x K hK => ?_) ?_
 rotate_left
 ·go_big_quiet_op
  exact hK
 refine tailF 11 rfl (by kernel_rfl) rfl (fun xr => ?_)
 intro g8 hg8 hG8
 refine fin_nil ?_
 dsimp only at hg8 hG8
 try simp only [Act.put, List.setIfInBounds_toArray, List.set_cons_succ, List.set_cons_zero]
 simp only [List.drop_succ_cons, List.drop_zero]
 have B5 := Lib.hid (B4.out.trans xr.bw)
 have X5 := Lib.hid (X4.out.bw xr.bw)
 have C5 := Lib.hid (C4.out.bw xr.bw)
 have R5 := Lib.hid (R4.out.bw xr.bw)
 clear B4 X4 C4 R4
 have X8 : HpB xr.now g8 (.cells #[.nilFunc, .nilFunc, .nilFunc, .nilFunc, .nilFunc, .nilFunc] 106) := hG8
 clear hG8
 generalize xr.now = w5 at *
 have q0 := (hp_cell X8 0).trans (show _ = some Value.nilFunc from rfl)
 have f0 := hp_frz X8 0
 have q1 := (hp_cell X8 1).trans (show _ = some Value.nilFunc from rfl)
 have f1 := hp_frz X8 1
 have q2 := (hp_cell X8 2).trans (show _ = some Value.nilFunc from rfl)
 have f2 := hp_frz X8 2
 have q3 := (hp_cell X8 3).trans (show _ = some Value.nilFunc from rfl)
 have f3 := hp_frz X8 3
 have q4 := (hp_cell X8 4).trans (show _ = some Value.nilFunc from rfl)
 have f4 := hp_frz X8 4
 have q5 := (hp_cell X8 5).trans (show _ = some Value.nilFunc from rfl)
 have f5 := hp_frz X8 5
 have st6 := still_st6 w5 g8 (fnV 69) (fnV 68) (fnV 70) (fnV 71) (fnV 72) (fnV 68)
 have X9 := X8.st6 rfl (fnV 69) (fnV 68) (fnV 70) (fnV 71) (fnV 72) (fnV 68)
 have hcg := hp_ne C5.out X8 (by decide)
 have hrg := hp_ne R5.out.cells X8 (by decide)
 have hxg := hp_ne X5.out X8 (by decide)
 have C6 := Lib.hid (C5.out.st st6 (by simpa using hcg))
 have R6 := Lib.hid (R5.out.still st6 (fun k hk => by obtain rfl : k = g8 := (by simpa using hk); exact .inr ⟨_, _, _, X8, by decide⟩) (by simpa using hrg) (fun k hk => by cases hk))
 have X6 := Lib.hid (X5.out.st st6 (by simpa using hxg))
 have B6 := Lib.hid (BW.stP B5.out st6 (fun k hk => by obtain rfl : k = g8 := (by simpa using hk); have := B0.out.size; omega))
 obtain ⟨w6, hw6⟩ : ∃ w6, w6 = ((((((w5.setCell ⟨g8, 0, none⟩ (fnV 69)).setCell ⟨g8, 1, none⟩ (fnV 68)).setCell ⟨g8, 2, none⟩ (fnV 70)).setCell ⟨g8, 3, none⟩ (fnV 71)).setCell ⟨g8, 4, none⟩ (fnV 72)).setCell ⟨g8, 5, none⟩ (fnV 68)) := ⟨_, rfl⟩
 rw [← hw6] at C6 R6 X6 B6 X9
 unfold fnV at hw6
 unfold fnV
 have hX9 := Lib.hid X9
 replace hcg := Lib.hid hcg
 replace hrg := Lib.hid hrg
 replace hxg := Lib.hid hxg
 replace X8 := Lib.hid X8
 clear st6 C5 R5 X5 B5 X9
 go_upto_region 4 with (fail)
 rw [← hw6]
 clear q0 q1 q2 q3 q4 q5 f0 f1 f2 f3 f4 f5
 replace hw6 := Lib.hid hw6
 have z8 := (hp_cell X6.out 8).trans (show _ = some (.int .u64 again) from rfl)
 have c0 := (hp_cell hX9.out 0).trans (show _ = some (Value.func (.func 69) #[] #[]) from rfl)
 have c1 := (hp_cell hX9.out 1).trans (show _ = some (Value.func (.func 68) #[] #[]) from rfl)
 go_upto_region 7 with (fail)
 have m8 : ∀ y : LaterS [] w6, _ := fun y => y.bw.cell z8
 have n0 : ∀ y : LaterS [] w6, _ := fun y => y.bw.cell c0
 have n1 : ∀ y : LaterS [] w6, _ := fun y => y.bw.cell c1
 clear z8 c0 c1
 refine wp_region_gg [] [] [12] (by kernel_rfl) ?_
 refine hoist [] [] (a1 := ?_) 0 rfl (by kernel_rfl) (.inl ⟨rfl, rfl⟩) rfl rfl rfl (fun x K hK => ?_) ?_
 rotate_left
 ·go_big_quiet_op
  exact hK
 refine hoist [] [] (a1 := ?_) 1 rfl (by kernel_rfl) (.inl ⟨rfl, rfl⟩) rfl rfl rfl (fun x K hK => ?_) ?_
 rotate_left
 ·go_big_quiet_op
  exact hK
 refine hoist [] [] (a1 := ?_) 2 rfl (by kernel_rfl) (.inl ⟨rfl, rfl⟩) rfl rfl rfl (fun x K hK => ?_) ?_
 rotate_left
 ·go_big_quiet_op
  exact hK
 refine hoist [] [] (a1 := ?_) 3 rfl (by kernel_rfl) (.inl ⟨rfl, rfl⟩) rfl rfl rfl (fun x K hK => ?_) ?_
 rotate_left
 ·go_big_quiet_op
  exact hK
 refine hoist [] [] (a1 := ?_) 4 rfl (by kernel_rfl) (.inl ⟨rfl, rfl⟩) rfl rfl rfl (fun x K hK => ?_) ?_
 rotate_left
 ·go_big_quiet_op
  exact hK
 refine hoist [] [] (a1 := ?_) 5 rfl (by kernel_rfl) (.inl ⟨rfl, rfl⟩) rfl rfl rfl (fun x K hK => ?_) ?_
 rotate_left
 ·go_big_quiet_op
  exact hK
 refine hoist [] [] (a1 := ?_) 6 rfl (by kernel_rfl) (.inl ⟨rfl, rfl⟩) rfl rfl rfl (fun x K hK => ?_) ?_
 rotate_left
 ·go_big_quiet_op
  exact hK
 refine hoist [] [] (a1 := ?_) 7 rfl (by kernel_rfl) (.inl ⟨rfl, rfl⟩) rfl rfl rfl (fun x K hK => ?_) ?_
 rotate_left
 ·go_big_quiet_op
  exact hK
 refine hoist [] [] (a1 := ?_) 8 rfl (by kernel_rfl) (.inl ⟨rfl, rfl⟩) rfl rfl rfl (fun x K hK => ?_) ?_
 rotate_left
 ·go_big_quiet_op
  exact hK
 refine effect 9 rfl (by kernel_rfl) (by kernel_rfl) rfl (fun x9 K hK => ?_)
 go_simp
 refine Calls.mono (new_any again (again * 4) x9.now) ?_
 rintro e w7 ⟨rfl, rfl⟩
 refine hK _ _ (Still.of_below ((Below.refl _ _).alloc (Nat.le_refl _) _)) ?_
 clear hK K
 have hb := x9.bw.trans ((BW.refl x9.now).alloc (o := .cells #[.int .u64 again, .int .u64 (again * 4), .int .u64 (again * 4)] 142))
 have C7 := Lib.hid (C6.out.bw hb)
 have R7 := Lib.hid (R6.out.bw hb)
 have B7 := Lib.hid (B6.out.trans hb)
 have K7 := Lib.hid (HpB.new x9.now (.cells #[.int .u64 again, .int .u64 (again * 4), .int .u64 (again * 4)] 142))
 have hgb := Lib.hid (Nat.le_trans B6.out.size x9.bw.size)
 clear hb m8 n0 n1
 generalize x9.now.alloc (.cells #[.int .u64 again, .int .u64 (again * 4), .int .u64 (again * 4)] 142) = w7 at *
 generalize x9.now.heap.size = gb at *
 try simp only [Act.put, List.setIfInBounds_toArray, List.set_cons_succ, List.set_cons_zero]
 refine hoist [] [] (a1 := ?_) 10 rfl (by kernel_rfl) (.inl ⟨rfl, rfl⟩) rfl rfl rfl (fun x K hK => ?_) ?_
 rotate_left
 ·go_big_quiet_op
  exact hK
 refine effect 11 rfl (by kernel_rfl) (by kernel_rfl) rfl (fun x11 K hK => ?_)
 go_simp
 refine hK _ _ (Still.of_below ((Below.refl _ _).alloc (Nat.le_refl _) _)) ?_
 clear hK K
 have hb := x11.bw.trans ((BW.refl x11.now).alloc (o := .cells (egC gc (fnV 69) (fnV 68) src 0 false 0 0 0 0 0 0 false 0 0 0 gr gb) 57))
 have C8 := Lib.hid (C7.out.bw hb)
 have R8 := Lib.hid (R7.out.bw hb)
 have B8 := Lib.hid (B7.out.trans hb)
 have K8 := Lib.hid (K7.out.bw hb)
 have H8 := Lib.hid (HpB.new x11.now (.cells (egC gc (fnV 69) (fnV 68) src 0 false 0 0 0 0 0 0 false 0 0 0 gr gb) 57))
 have hg := Lib.hid (Nat.le_trans B7.out.size x11.bw.size)
 clear hb C7 R7 B7 K7
 obtain ⟨w8, hw8⟩ : ∃ w8, w8 = x11.now.alloc (.cells (egC gc (fnV 69) (fnV 68) src 0 false 0 0 0 0 0 0 false 0 0 0 gr gb) 57) := ⟨_, rfl⟩
 rw [← hw8] at C8 R8 B8 K8 H8
 unfold egC fnV at hw8
 rw [← hw8]
 clear hw8
 generalize x11.now.heap.size = g at *
 try simp only [Act.put, List.setIfInBounds_toArray, List.set_cons_succ, List.set_cons_zero]
 refine tail 12 rfl (by kernel_rfl) rfl (fun xr => ?_)
 simp only [List.drop_succ_cons, List.drop_zero]
 have C9 := Lib.hid (C8.out.bw xr.bw)
 have R9 := Lib.hid (R8.out.bw xr.bw)
 have B9 := Lib.hid (B8.out.trans xr.bw)
 have K9 := Lib.hid (K8.out.bw xr.bw)
 have H9 := Lib.hid (H8.out.bw xr.bw)
 clear C8 R8 B8 K8 H8
 generalize xr.now = w9 at *
 have cS := Lib.hid (wstart_any g gc gr gb (fnV 69) (fnV 68) src first hf w9 H9.out)
 have hcg2 := hp_ne C9.out H9.out (by decide)
 have hrg2 := hp_ne R9.out.cells H9.out (by decide)
 have hkg2 := hp_ne K9.out H9.out (by decide)
 replace hcg2 := Lib.hid hcg2
 replace hrg2 := Lib.hid hrg2
 replace hkg2 := Lib.hid hkg2
 go_wp2_with fail
 refine Calls.mono cS.out ?_
 rintro e w10 ⟨rfl, H10, T10⟩
 have C10 := Lib.hid (C9.out.st T10 (by simpa using hcg2.out))
 have R10 := Lib.hid (R9.out.still T10 (fun k hk => by obtain rfl : k = g := (by simpa using hk); exact .inr ⟨_, _, _, H9.out, by decide⟩) (by simpa using hrg2.out) (fun k hk => by cases hk))
 have K10 := Lib.hid (K9.out.st T10 (by simpa using hkg2.out))
 have B10 := Lib.hid (BW.stP B9.out T10 (fun k hk => by obtain rfl : k = g := (by simpa using hk); have := hg.out; have := hbe.out; omega))
 replace H10 := Lib.hid H10
 clear T10 cS
 try dsimp only
 go_wp2_with fail
 go_ret
 have h1 := hg.out
 have h2 := hgc.out
 have h3 := hgr.out
 have h4 := hgb.out
 refine ⟨g, gc, gr, gb, rfl, ⟨by have := hbe.out; omega, by have := hbe.out; omega, by have := hbe.out; omega, by have := hbe.out; omega⟩, ⟨H10.out, C10.out, ?_, K10.out⟩, B10.out⟩
 rw [hbe.out]
 exact R10.out
end Go.Proofs.Ytojedpahaifjgaa
