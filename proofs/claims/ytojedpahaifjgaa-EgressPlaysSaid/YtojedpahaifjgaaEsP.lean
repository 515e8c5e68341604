/- An egress: Push, whatever comes, of any codec (printed by wip/gen/genEsP.py). No condition but the numbers' bounds. -/
import Derived.Test.YtojedpahaifjgaaEsC
import Derived.Test.YtojedpahaifjgaaEsW
namespace Go.Proofs.Ytojedpahaifjgaa
open Go.RowKit
theorem still_st13 (w : World) (z : Nat) (v0 v1 v2 v3 v4 v5 v6 v7 v8 v9 v10 v11 v12 : Value) : Still [z] w (((((((((((((w.setCell ⟨z, 0, none⟩ v0).setCell ⟨z, 1, none⟩ v1).setCell ⟨z, 2, none⟩ v2).setCell ⟨z, 3, none⟩ v3).setCell ⟨z, 4, none⟩ v4).setCell ⟨z, 5, none⟩ v5).setCell ⟨z, 6, none⟩ v6).setCell ⟨z, 7, none⟩ v7).setCell ⟨z, 8, none⟩ v8).setCell ⟨z, 9, none⟩ v9).setCell ⟨z, 10, none⟩ v10).setCell ⟨z, 11, none⟩ v11).setCell ⟨z, 12, none⟩ v12) := (((((((((((((still_sc w z 0 v0).trans (still_sc _ z 1 v1)).trans (still_sc _ z 2 v2)).trans (still_sc _ z 3 v3)).trans (still_sc _ z 4 v4)).trans (still_sc _ z 5 v5)).trans (still_sc _ z 6 v6)).trans (still_sc _ z 7 v7)).trans (still_sc _ z 8 v8)).trans (still_sc _ z 9 v9)).trans (still_sc _ z 10 v10)).trans (still_sc _ z 11 v11)).trans (still_sc _ z 12 v12))
theorem st13_arr (c : Array Value) (hc : c.size = 13) (v0 v1 v2 v3 v4 v5 v6 v7 v8 v9 v10 v11 v12 : Value) : (((((((((((((c.setIfInBounds 0 v0).setIfInBounds 1 v1).setIfInBounds 2 v2).setIfInBounds 3 v3).setIfInBounds 4 v4).setIfInBounds 5 v5).setIfInBounds 6 v6).setIfInBounds 7 v7).setIfInBounds 8 v8).setIfInBounds 9 v9).setIfInBounds 10 v10).setIfInBounds 11 v11).setIfInBounds 12 v12) = #[v0, v1, v2, v3, v4, v5, v6, v7, v8, v9, v10, v11, v12] := by
 obtain ⟨l⟩ := c
 match l, hc with
 | [_, _, _, _, _, _, _, _, _, _, _, _, _], _ => simp only [List.setIfInBounds_toArray, List.set_cons_zero, List.set_cons_succ]
theorem HpB.st13 {w : World} {z : Nat} {c : Array Value} {T : TypeId} (h : HpB w z (.cells c T)) (hc : c.size = 13) (v0 v1 v2 v3 v4 v5 v6 v7 v8 v9 v10 v11 v12 : Value) : HpB (((((((((((((w.setCell ⟨z, 0, none⟩ v0).setCell ⟨z, 1, none⟩ v1).setCell ⟨z, 2, none⟩ v2).setCell ⟨z, 3, none⟩ v3).setCell ⟨z, 4, none⟩ v4).setCell ⟨z, 5, none⟩ v5).setCell ⟨z, 6, none⟩ v6).setCell ⟨z, 7, none⟩ v7).setCell ⟨z, 8, none⟩ v8).setCell ⟨z, 9, none⟩ v9).setCell ⟨z, 10, none⟩ v10).setCell ⟨z, 11, none⟩ v11).setCell ⟨z, 12, none⟩ v12) z (.cells #[v0, v1, v2, v3, v4, v5, v6, v7, v8, v9, v10, v11, v12] T) := by
 have k := (hp_set (hp_set (hp_set (hp_set (hp_set (hp_set (hp_set (hp_set (hp_set (hp_set (hp_set (hp_set (hp_set h 0 v0) 1 v1) 2 v2) 3 v3) 4 v4) 5 v5) 6 v6) 7 v7) 8 v8) 9 v9) 10 v10) 11 v11) 12 v12)
 rw [st13_arr c hc] at k
 exact k
def PushE (TV : Int → World → Value → Prop) (r : Option (Int × Int × Int)) (tu has : Bool) (mk : Bool) (ty src : Int) (xb : Bool) (pf : Int) (ex pay : Value) (pd : Int) (e : Ending) (w' : World) : Prop :=
 (r = none ∧ e = .returned (.tuple #[.agg (snC 0 false 0 0 0 0 (.slice none 0 0) false 0 (.slice none 0 0) (.slice none 0 0) 0 false), .bool false])) ∨
 ∃ (y n1 n2 : Int) (v : Value), r = some (y, n1, n2) ∧ e = .returned (.tuple #[.agg (snC y mk ty (IntKind.u16.wrap y) n1 src (.slice none 0 0) xb pf ex v pd tu), .bool true]) ∧ (has = false → v = pay) ∧ (has = true → TV n2 w' v)
set_option maxRecDepth 100000 in
set_option maxHeartbeats 8000000 in
theorem push_any (g gc gr gb : Nat) (fk fp : FuncId) (src first many wanted goes layer : Int) (key has : Bool) (pic : Int) (TV : Int → World → Value → Prop) (W : Wr) (pl i : Int) (mk : Bool) (ty sq st so : Int) (so_ : Option Addr) (no co : Nat) (xb : Bool) (pf : Int) (se : Option Addr) (ne ce : Nat) (sp : Option Addr) (np cp : Nat) (pd : Int) (hi : i ≤ 1152921504606846976) (hW : W.Ok first) (w : World) (hgc : gc ≠ g) (h : HpB w g (.cells (egW gc (fnV fk) (fnV fp) src first W gr gb) 57)) (hC : HpB w gc (.cells (chC many wanted goes) 112))
  (nk : ∀ (args : Array Value) (w : World), (callFunc fk args).run Try.prog w = .ok (.enter fk args) w) (np_ : ∀ (args : Array Value) (w : World), (callFunc fp args).run Try.prog w = .ok (.enter fp args) w)
  (cK : ∀ y, BW w y → Calls Try.prog fk #[.slice sp np cp] y fun e w' => e = .returned (.bool key) ∧ BW y w')
  (cP : ∀ y, Still [gc] w y → Calls Try.prog fp #[.slice sp np cp] y fun e w' => e = .returned (.tuple #[.int .u16 pic, .bool has]) ∧ BW y w')
  (cT : has = true → ∀ y p, Still [gc, g] w y → 0 ≤ p → p ≤ 65535 → Calls Try.prog 42 #[.slice sp np cp, .int .u16 p] y fun e w' => ∃ sa n c, e = .returned (.tuple #[.slice sa n c, .bool true]) ∧ TV p w' (.slice sa n c) ∧ BW y w')
  (hTV : ∀ p y y' v S, TV p y v → Still S y y' → (∀ k ∈ S, k < w.heap.size ∨ ∃ cs t f, y.heap[k]? = some (.cells cs t f) ∧ t ≠ 5) → TV p y' v) :
  Calls Try.prog 11 #[.pointer (some ⟨g, 0, none⟩), .int .i64 layer, .agg (arC pl i mk ty sq st so (.slice so_ no co) xb pf (.slice se ne ce) (.slice sp np cp) pd)] w fun e w' => PushE TV (pushN many wanted goes layer key first W i st pic).1 (pushN many wanted goes layer key first W i st pic).2.1 has mk ty src xb pf (.slice se ne ce) (.slice sp np cp) pd e w' ∧ HpB w' g (.cells (egW gc (fnV fk) (fnV fp) src first (pushN many wanted goes layer key first W i st pic).2.2.2 gr gb) 57) ∧ HpB w' gc (.cells (chC many wanted (pushN many wanted goes layer key first W i st pic).2.2.1) 112) ∧ Still [gc, g] w w' := by
 obtain ⟨N, hN⟩ : ∃ N, pushN many wanted goes layer key first W i st pic = N := ⟨_, rfl⟩
 rw [hN]
 obtain ⟨t, hT⟩ : ∃ t, takeN many wanted goes layer key = t := ⟨_, rfl⟩
 obtain ⟨taken, tu, gl⟩ := t
 have B1 : BW w (w.alloc (.cells (arC pl i mk ty sq st so (.slice so_ no co) xb pf (.slice se ne ce) (.slice sp np cp) pd) 38)) := (BW.refl w).alloc
 have X1 := HpB.new w (.cells (arC pl i mk ty sq st so (.slice so_ no co) xb pf (.slice se ne ce) (.slice sp np cp) pd) 38)
 obtain ⟨w1, hw1⟩ : ∃ w1, w1 = w.alloc (.cells (arC pl i mk ty sq st so (.slice so_ no co) xb pf (.slice se ne ce) (.slice sp np cp) pd) 38) := ⟨_, rfl⟩
 rw [← hw1] at B1 X1
 have B2 : BW w1 (w1.alloc (.cells (snC 0 false 0 0 0 0 (.slice none 0 0) false 0 (.slice none 0 0) (.slice none 0 0) 0 false) 60)) := (BW.refl w1).alloc
 have Y2 := HpB.new w1 (.cells (snC 0 false 0 0 0 0 (.slice none 0 0) false 0 (.slice none 0 0) (.slice none 0 0) 0 false) 60)
 obtain ⟨w2, hw2⟩ : ∃ w2, w2 = w1.alloc (.cells (snC 0 false 0 0 0 0 (.slice none 0 0) false 0 (.slice none 0 0) (.slice none 0 0) 0 false) 60) := ⟨_, rfl⟩
 rw [← hw2] at B2 Y2
 have hsz : w1.heap.size = w.heap.size + 1 := by rw [hw1]; simp
 rw [hsz] at Y2
 have X2 := X1.bw B2
 have H2 := h.bw (B1.trans B2)
 have C2 := hC.bw (B1.trans B2)
 have BB := Lib.hid (B1.trans B2)
 have z0 := (hp_cell H2 0).trans (show _ = some (.pointer (some ⟨gc, 0, none⟩)) from rfl)
 have z1 := (hp_cell H2 1).trans (show _ = some (Value.func (.func fk) #[] #[]) from rfl)
 have x11 := (hp_cell X2 11).trans (show _ = some (.slice sp np cp) from rfl)
 have hH := Lib.hid H2
 have hC2 := Lib.hid C2
 have hX := Lib.hid X2
 have hY := Lib.hid Y2
 clear B1 B2 X1 Y2 X2 H2 C2 h hC
 unfold arC at hw1
 unfold snC at hw2
 unfold arC
 replace hsz := Lib.hid hsz
 replace hN := Lib.hid hN
 replace hT := Lib.hid hT
 replace cK := Lib.hid cK
 replace cP := Lib.hid cP
 replace cT := Lib.hid cT
 replace hTV := Lib.hid hTV
 replace hW := Lib.hid hW
 go_enter Try.func11, Try.ntmps11
 go_upto_region 1 with (fail)
 rw [← hw1, ← hw2]
 generalize hgx : w.heap.size = gx at *
 replace hw1 := Lib.hid hw1
 replace hw2 := Lib.hid hw2
 replace hgx := Lib.hid hgx
 have m0 : ∀ y : LaterS [] w2, _ := fun y => y.bw.cell z0
 have m1 : ∀ y : LaterS [] w2, _ := fun y => y.bw.cell z1
 have m11 : ∀ y : LaterS [] w2, _ := fun y => y.bw.cell x11
 clear z0 z1 x11
 refine wp_region_gg ([gc]) [14] [] (by kernel_rfl) ?_
 refine hoist [] [14] (a1 := ?_) 0 rfl (by kernel_rfl) (.inl ⟨rfl, rfl⟩) rfl rfl rfl (fun x K hK => ?_) ?_
 rotate_left
 ·go_big_quiet_op
  exact hK
 refine hoist [] [14] (a1 := ?_) 1 rfl (by kernel_rfl) (.inl ⟨rfl, rfl⟩) rfl rfl rfl (fun x K hK => ?_) ?_
 rotate_left
 ·go_big_quiet_op
  exact hK
 refine hoist [] [14] (a1 := ?_) 2 rfl (by kernel_rfl) (.inl ⟨rfl, rfl⟩) rfl rfl rfl (fun x K hK => ?_) ?_
 rotate_left
 ·go_big_quiet_op
  exact hK
 refine hoist [] [14] (a1 := ?_) 3 rfl (by kernel_rfl) (.inl ⟨rfl, rfl⟩) rfl rfl rfl (fun x K hK => ?_) ?_
 rotate_left
 ·go_big_quiet_op
  exact hK
 refine hoist [] [14] (a1 := ?_) 4 rfl (by kernel_rfl) (.inl ⟨rfl, rfl⟩) rfl rfl rfl (fun x K hK => ?_) ?_
 rotate_left
 ·go_big_quiet_op
  exact hK
 refine hoist [] [14] (a1 := ?_) 5 rfl (by kernel_rfl) (.inl ⟨rfl, rfl⟩) rfl rfl rfl (fun x K hK => ?_) ?_
 rotate_left
 ·go_big_quiet_op
  exact hK
 refine hoist [] [14] (a1 := ?_) 6 rfl (by kernel_rfl) (.inl ⟨rfl, rfl⟩) rfl rfl rfl (fun x K hK => ?_) ?_
 rotate_left
 ·go_big_quiet_op
  exact hK
 refine hoist [] [14] (a1 := ?_) 7 rfl (by kernel_rfl) (.inl ⟨rfl, rfl⟩) rfl rfl rfl (fun x K hK => ?_) ?_
 rotate_left
 ·go_big_quiet_op
  exact hK
 refine hoist [] [14] (a1 := ?_) 8 rfl (by kernel_rfl) (.inl ⟨rfl, rfl⟩) rfl rfl rfl (fun x K hK => ?_) ?_
 rotate_left
 ·go_big_quiet_op
  exact hK
 refine hoist [] [14] (a1 := ?_) 9 rfl (by kernel_rfl) (.inl ⟨rfl, rfl⟩) rfl rfl rfl (fun x K hK => ?_) ?_
 rotate_left
 ·go_big_quiet_op
  exact hK
 refine hoist [] [14] (a1 := ?_) 10 rfl (by kernel_rfl) (.inl ⟨rfl, rfl⟩) rfl rfl rfl (fun x K hK => ?_) ?_
 rotate_left
 ·go_big_quiet_op
  exact hK
 refine hoist [] [14] (a1 := ?_) 11 rfl (by kernel_rfl) (.inl ⟨rfl, rfl⟩) rfl rfl rfl (fun x K hK => ?_) ?_
 rotate_left
 ·go_big_quiet_op
  exact hK
 refine hoist [] [14] (a1 := ?_) 12 rfl (by kernel_rfl) (.inl ⟨rfl, rfl⟩) rfl rfl rfl (fun x K hK => ?_) ?_
 rotate_left
 ·go_big_quiet_op
  exact hK
 refine effect 13 rfl (by kernel_rfl) (by kernel_rfl) rfl (fun x13 K hK => ?_)
 go_simp
 refine Calls.mono (cK.out x13.now (BB.out.trans x13.bw)) ?_
 rintro e w3 ⟨rfl, hb⟩
 refine hK _ _ (hb.still _) ?_
 clear hK K
 have b3 := Lib.hid (x13.bw.trans hb)
 clear m0 m1 m11 cK hb
 try simp only [Act.put, List.setIfInBounds_toArray, List.set_cons_succ, List.set_cons_zero]
 refine effect 14 rfl (by kernel_rfl) (by kernel_rfl) rfl (fun x14 K hK => ?_)
 go_simp
 have cT4 := take_lay gc many wanted goes layer key x14.now (hC2.out.bw (b3.out.trans x14.bw))
 rw [hT.out] at cT4
 refine Calls.mono cT4 ?_
 rintro e w4 ⟨rfl, C4, T4⟩
 refine hK _ _ T4 ?_
 clear hK K cT4
 have H4 := Lib.hid ((hH.out.bw (b3.out.trans x14.bw)).st T4 (by simpa using fun e => hgc e.symm))
 have X4 := Lib.hid ((hX.out.bw (b3.out.trans x14.bw)).st T4 (by simpa using (hp_ne hX.out hC2.out (by decide))))
 have Y4 := Lib.hid ((hY.out.bw (b3.out.trans x14.bw)).st T4 (by simpa using (hp_ne hY.out hC2.out (by decide))))
 have TT4 := Lib.hid (((BB.out.trans (b3.out.trans x14.bw)).still [gc]).trans T4)
 replace C4 := Lib.hid C4
 clear T4
 try simp only [Act.put, List.setIfInBounds_toArray, List.set_cons_succ, List.set_cons_zero]
 refine hoist [] [14] (a1 := ?_) 15 rfl (by kernel_rfl) (.inl ⟨rfl, rfl⟩) rfl rfl rfl (fun x K hK => ?_) ?_
 rotate_left
 ·go_big_quiet_op
  exact hK
 refine hoist [] [14] (a1 := ?_) 16 rfl (by kernel_rfl) (.inl ⟨rfl, rfl⟩) rfl rfl rfl (fun x K hK => ?_) ?_
 rotate_left
 ·go_big_quiet_op
  exact hK
 refine hoist [] [14] (a1 := ?_) 17 rfl (by kernel_rfl) (.inl ⟨rfl, rfl⟩) rfl rfl rfl (fun x K hK => ?_) ?_
 rotate_left
 ·go_big_quiet_op
  exact hK
 refine hoist [] [14] (a1 := ?_) 18 rfl (by kernel_rfl) (.inl ⟨rfl, rfl⟩) rfl rfl rfl (fun x K hK => ?_) ?_
 rotate_left
 ·go_big_quiet_op
  exact hK
 refine hoist [] [14] (a1 := ?_) 19 rfl (by kernel_rfl) (.inl ⟨rfl, rfl⟩) rfl rfl rfl (fun x K hK => ?_) ?_
 rotate_left
 ·go_big_quiet_op
  exact hK
 refine done (by kernel_rfl) (fun xr => ?_)
 have H5 := Lib.hid (H4.out.bw xr.bw)
 have C5 := Lib.hid (C4.out.bw xr.bw)
 have X5 := Lib.hid (X4.out.bw xr.bw)
 have Y5 := Lib.hid (Y4.out.bw xr.bw)
 have S5 := Lib.hid (TT4.out.trans (xr.bw.still [gc]))
 have T5 := Lib.hid (S5.out.weaken (S' := [gc, g]) (fun k hk => by simp at hk; simp [hk]))
 clear H4 C4 X4 Y4 TT4 hH hC2 hX hY b3
 generalize xr.now = w5 at *
 cases taken with
 | false =>
  have hNe : N = (none, false, gl, W) := by rw [← hN.out, pushN_no hT.out]
  subst hNe
  clear cP cT hTV
  have v0 := (hp_cell Y5.out 0).trans (show _ = some (.int .i64 0) from rfl)
  have f0 := hp_frz Y5.out 0
  have v1 := (hp_cell Y5.out 1).trans (show _ = some (.bool false) from rfl)
  have f1 := hp_frz Y5.out 1
  have v2 := (hp_cell Y5.out 2).trans (show _ = some (.int .u8 0) from rfl)
  have f2 := hp_frz Y5.out 2
  have v3 := (hp_cell Y5.out 3).trans (show _ = some (.int .u16 0) from rfl)
  have f3 := hp_frz Y5.out 3
  have v4 := (hp_cell Y5.out 4).trans (show _ = some (.int .u32 0) from rfl)
  have f4 := hp_frz Y5.out 4
  have v5 := (hp_cell Y5.out 5).trans (show _ = some (.int .u32 0) from rfl)
  have f5 := hp_frz Y5.out 5
  have v6 := (hp_cell Y5.out 6).trans (show _ = some (.slice none 0 0) from rfl)
  have f6 := hp_frz Y5.out 6
  have v7 := (hp_cell Y5.out 7).trans (show _ = some (.bool false) from rfl)
  have f7 := hp_frz Y5.out 7
  have v8 := (hp_cell Y5.out 8).trans (show _ = some (.int .u16 0) from rfl)
  have f8 := hp_frz Y5.out 8
  have v9 := (hp_cell Y5.out 9).trans (show _ = some (.slice none 0 0) from rfl)
  have f9 := hp_frz Y5.out 9
  have v10 := (hp_cell Y5.out 10).trans (show _ = some (.slice none 0 0) from rfl)
  have f10 := hp_frz Y5.out 10
  have v11 := (hp_cell Y5.out 11).trans (show _ = some (.int .u8 0) from rfl)
  have f11 := hp_frz Y5.out 11
  have v12 := (hp_cell Y5.out 12).trans (show _ = some (.bool false) from rfl)
  have f12 := hp_frz Y5.out 12
  have st20 := still_st13 w5 (gx + 1) (.int .i64 0) (.bool false) (.int .u8 0) (.int .u16 0) (.int .u32 0) (.int .u32 0) (.slice none 0 0) (.bool false) (.int .u16 0) (.slice none 0 0) (.slice none 0 0) (.int .u8 0) (.bool false)
  have Y21 := Y5.out.st13 rfl (.int .i64 0) (.bool false) (.int .u8 0) (.int .u16 0) (.int .u32 0) (.int .u32 0) (.slice none 0 0) (.bool false) (.int .u16 0) (.slice none 0 0) (.slice none 0 0) (.int .u8 0) (.bool false)
  have H21 := Lib.hid (H5.out.st st20 (by simpa using (hp_ne H5.out Y5.out (by decide))))
  have C21 := Lib.hid (C5.out.st st20 (by simpa using (hp_ne C5.out Y5.out (by decide))))
  have T21 := Lib.hid (T5.out.stNew st20 (fun k hk => by obtain rfl : k = gx + 1 := (by simpa using hk); have := hgx.out; omega))
  obtain ⟨w21, hw21⟩ : ∃ w21, w21 = (((((((((((((w5.setCell ⟨gx + 1, 0, none⟩ (.int .i64 0)).setCell ⟨gx + 1, 1, none⟩ (.bool false)).setCell ⟨gx + 1, 2, none⟩ (.int .u8 0)).setCell ⟨gx + 1, 3, none⟩ (.int .u16 0)).setCell ⟨gx + 1, 4, none⟩ (.int .u32 0)).setCell ⟨gx + 1, 5, none⟩ (.int .u32 0)).setCell ⟨gx + 1, 6, none⟩ (.slice none 0 0)).setCell ⟨gx + 1, 7, none⟩ (.bool false)).setCell ⟨gx + 1, 8, none⟩ (.int .u16 0)).setCell ⟨gx + 1, 9, none⟩ (.slice none 0 0)).setCell ⟨gx + 1, 10, none⟩ (.slice none 0 0)).setCell ⟨gx + 1, 11, none⟩ (.int .u8 0)).setCell ⟨gx + 1, 12, none⟩ (.bool false)) := ⟨_, rfl⟩
  rw [← hw21] at Y21 H21 C21 T21
  have hY21 := Lib.hid Y21
  clear Y21 st20
  go_wp2_with fail
  rw [← hw21]
  clear v0 f0 v1 f1 v2 f2 v3 f3 v4 f4 v5 f5 v6 f6 v7 f7 v8 f8 v9 f9 v10 f10 v11 f11 v12 f12 hw21
  have v0 := (hp_cell hY21.out 0).trans (show _ = some (.int .i64 0) from rfl)
  have v1 := (hp_cell hY21.out 1).trans (show _ = some (.bool false) from rfl)
  have v2 := (hp_cell hY21.out 2).trans (show _ = some (.int .u8 0) from rfl)
  have v3 := (hp_cell hY21.out 3).trans (show _ = some (.int .u16 0) from rfl)
  have v4 := (hp_cell hY21.out 4).trans (show _ = some (.int .u32 0) from rfl)
  have v5 := (hp_cell hY21.out 5).trans (show _ = some (.int .u32 0) from rfl)
  have v6 := (hp_cell hY21.out 6).trans (show _ = some (.slice none 0 0) from rfl)
  have v7 := (hp_cell hY21.out 7).trans (show _ = some (.bool false) from rfl)
  have v8 := (hp_cell hY21.out 8).trans (show _ = some (.int .u16 0) from rfl)
  have v9 := (hp_cell hY21.out 9).trans (show _ = some (.slice none 0 0) from rfl)
  have v10 := (hp_cell hY21.out 10).trans (show _ = some (.slice none 0 0) from rfl)
  have v11 := (hp_cell hY21.out 11).trans (show _ = some (.int .u8 0) from rfl)
  have v12 := (hp_cell hY21.out 12).trans (show _ = some (.bool false) from rfl)
  exact bodyPost_ret (v := .tuple #[.agg (snC 0 false 0 0 0 0 (.slice none 0 0) false 0 (.slice none 0 0) (.slice none 0 0) 0 false), .bool false]) (by simp [results, Try.results11, go_sem, snC, v0, v1, v2, v3, v4, v5, v6, v7, v8, v9, v10, v11, v12]) rfl ⟨.inl ⟨rfl, rfl⟩, H21.out, C21.out, T21.out⟩
 | true =>
  have z2 := (hp_cell H5.out 2).trans (show _ = some (Value.func (.func fp) #[] #[]) from rfl)
  have x11 := (hp_cell X5.out 11).trans (show _ = some (.slice sp np cp) from rfl)
  go_upto_region 4 with (fail)
  have m2 : ∀ y : LaterS [] w5, _ := fun y => y.bw.cell z2
  have m11 : ∀ y : LaterS [] w5, _ := fun y => y.bw.cell x11
  refine wp_region_gg [] [] [] (by kernel_rfl) ?_
  refine hoist [] [] (a1 := ?_) 0 rfl (by kernel_rfl) (.inl ⟨rfl, rfl⟩) rfl rfl rfl (fun x K hK => ?_) ?_
  rotate_left
  ·go_big_quiet_op
   exact hK
  refine hoist [] [] (a1 := ?_) 1 rfl (by kernel_rfl) (.inl ⟨rfl, rfl⟩) rfl rfl rfl (fun x K hK => ?_) ?_
  rotate_left
  ·go_big_quiet_op
   exact hK
  refine hoist [] [] (a1 := ?_) 2 rfl (by kernel_rfl) (.inl ⟨rfl, rfl⟩) rfl rfl rfl (fun x K hK => ?_) ?_
  rotate_left
  ·go_big_quiet_op
   exact hK
  refine hoist [] [] (a1 := ?_) 3 rfl (by kernel_rfl) (.inl ⟨rfl, rfl⟩) rfl rfl rfl (fun x K hK => ?_) ?_
  rotate_left
  ·go_big_quiet_op
   exact hK
  refine hoist [] [] (a1 := ?_) 4 rfl (by kernel_rfl) (.inl ⟨rfl, rfl⟩) rfl rfl rfl (fun x K hK => ?_) ?_
  rotate_left
  ·go_big_quiet_op
   exact hK
  refine hoist [] [] (a1 := ?_) 5 rfl (by kernel_rfl) (.inl ⟨rfl, rfl⟩) rfl rfl rfl (fun x K hK => ?_) ?_
  rotate_left
  ·go_big_quiet_op
   exact hK
  refine hoist [] [] (a1 := ?_) 6 rfl (by kernel_rfl) (.inl ⟨rfl, rfl⟩) rfl rfl rfl (fun x K hK => ?_) ?_
  rotate_left
  ·go_big_quiet_op
   exact hK
  refine hoist [] [] (a1 := ?_) 7 rfl (by kernel_rfl) (.inl ⟨rfl, rfl⟩) rfl rfl rfl (fun x K hK => ?_) ?_
  rotate_left
  ·go_big_quiet_op
   exact hK
  refine effect 8 rfl (by kernel_rfl) (by kernel_rfl) rfl (fun x8 K hK => ?_)
  go_simp
  refine Calls.mono (cP.out x8.now (S5.out.trans (x8.bw.still _))) ?_
  rintro e w3 ⟨rfl, hb⟩
  refine hK _ _ (hb.still _) ?_
  clear hK K
  have b6 := Lib.hid (x8.bw.trans hb)
  clear m2 m11 hb cP
  try simp only [Act.put, List.setIfInBounds_toArray, List.set_cons_succ, List.set_cons_zero]
  refine hoist [] [] (a1 := ?_) 9 rfl (by kernel_rfl) (.inl ⟨rfl, rfl⟩) rfl rfl rfl (fun x K hK => ?_) ?_
  rotate_left
  ·go_big_quiet_op
   exact hK
  refine hoist [] [] (a1 := ?_) 10 rfl (by kernel_rfl) (.inl ⟨rfl, rfl⟩) rfl rfl rfl (fun x K hK => ?_) ?_
  rotate_left
  ·go_big_quiet_op
   exact hK
  refine hoist [] [] (a1 := ?_) 11 rfl (by kernel_rfl) (.inl ⟨rfl, rfl⟩) rfl rfl rfl (fun x K hK => ?_) ?_
  rotate_left
  ·go_big_quiet_op
   exact hK
  refine hoist [] [] (a1 := ?_) 12 rfl (by kernel_rfl) (.inl ⟨rfl, rfl⟩) rfl rfl rfl (fun x K hK => ?_) ?_
  rotate_left
  ·go_big_quiet_op
   exact hK
  refine hoist [] [] (a1 := ?_) 13 rfl (by kernel_rfl) (.inl ⟨rfl, rfl⟩) rfl rfl rfl (fun x K hK => ?_) ?_
  rotate_left
  ·go_big_quiet_op
   exact hK
  refine done (by kernel_rfl) (fun xr => ?_)
  have B6 := Lib.hid (b6.out.trans xr.bw)
  have H6 := Lib.hid (H5.out.bw B6.out)
  have C6 := Lib.hid (C5.out.bw B6.out)
  have X6 := Lib.hid (X5.out.bw B6.out)
  have Y6 := Lib.hid (Y5.out.bw B6.out)
  have T6 := Lib.hid (T5.out.trans (B6.out.still [gc, g]))
  clear z2 x11 b6 B6 H5 C5 X5 Y5 T5 S5
  generalize xr.now = w6 at *
  have x1 := (hp_cell X6.out 1).trans (show _ = some (.int .i64 i) from rfl)
  have x5 := (hp_cell X6.out 5).trans (show _ = some (.int .u32 st) from rfl)
  have BA : BW w6 (w6.alloc (.cells #[.int .i64 i, .int .u32 st, .int .u16 pic] 51)) := (BW.refl w6).alloc
  have M7 := Lib.hid (HpB.new w6 (.cells #[.int .i64 i, .int .u32 st, .int .u16 pic] 51))
  have H7 := Lib.hid (H6.out.bw BA)
  have C7 := Lib.hid (C6.out.bw BA)
  have X7 := Lib.hid (X6.out.bw BA)
  have Y7 := Lib.hid (Y6.out.bw BA)
  have T7 := Lib.hid (T6.out.trans (BA.still [gc, g]))
  clear H6 C6 X6 Y6 T6
  replace BA := Lib.hid BA
  go_upto_if 56 with (fail)
  generalize w6.alloc (.cells #[.int .i64 i, .int .u32 st, .int .u16 pic] 51) = w7 at *
  generalize w6.heap.size = gm at *
  clear x1 x5
  go_cut [] (fun wc => ∃ V : Wr, Hid (V = if tu = true then W.follow first i st pic else W) ∧ Hid (HpB wc gm (.cells #[.int .i64 i, .int .u32 st, .int .u16 pic] 51)) ∧ Hid (HpB wc g (.cells (egW gc (fnV fk) (fnV fp) src first V gr gb) 57)) ∧ Hid (HpB wc gc (.cells (chC many wanted gl) 112)) ∧ Hid (HpB wc gx (.cells (arC pl i mk ty sq st so (.slice so_ no co) xb pf (.slice se ne ce) (.slice sp np cp) pd) 38)) ∧ Hid (HpB wc (gx + 1) (.cells (snC 0 false 0 0 0 0 (.slice none 0 0) false 0 (.slice none 0 0) (.slice none 0 0) 0 false) 60)) ∧ Hid (Still [gc, g] w wc))
  case first =>
   cases tu with
   | true =>
    have q0 := (hp_cell M7.out 0).trans (show _ = some (.int .i64 i) from rfl)
    have q1 := (hp_cell M7.out 1).trans (show _ = some (.int .u32 st) from rfl)
    have q2 := (hp_cell M7.out 2).trans (show _ = some (.int .u16 pic) from rfl)
    have m0 : ∀ y : LaterS [] w7, _ := fun y => y.bw.cell q0
    have m1 : ∀ y : LaterS [] w7, _ := fun y => y.bw.cell q1
    have m2 : ∀ y : LaterS [] w7, _ := fun y => y.bw.cell q2
    go_upto_region 7 with (fail)
    refine wp_region_gg ([g]) [4] [] (by kernel_rfl) ?_
    refine hoist [] [4] (a1 := ?_) 0 rfl (by kernel_rfl) (.inl ⟨rfl, rfl⟩) rfl rfl rfl (fun x K hK => ?_) ?_
    rotate_left
    ·go_big_quiet_op
     exact hK
    refine hoist [] [4] (a1 := ?_) 1 rfl (by kernel_rfl) (.inl ⟨rfl, rfl⟩) rfl rfl rfl (fun x K hK => ?_) ?_
    rotate_left
    ·go_big_quiet_op
     exact hK
    refine hoist [] [4] (a1 := ?_) 2 rfl (by kernel_rfl) (.inl ⟨rfl, rfl⟩) rfl rfl rfl (fun x K hK => ?_) ?_
    rotate_left
    ·go_big_quiet_op
     exact hK
    refine hoist [] [4] (a1 := ?_) 3 rfl (by kernel_rfl) (.inl ⟨rfl, rfl⟩) rfl rfl rfl (fun x K hK => ?_) ?_
    rotate_left
    ·go_big_quiet_op
     exact hK
    refine effect 4 rfl (by kernel_rfl) (by kernel_rfl) rfl (fun x4 K hK => ?_)
    go_simp
    refine Calls.mono (followW g gc gr gb (fnV fk) (fnV fp) src first W i st pic hW.out x4.now (H7.out.bw x4.bw)) ?_
    rintro e w8 ⟨⟨er, rfl⟩, H8, T8⟩
    refine hK _ _ T8 ?_
    clear hK K m0 m1 m2
    have C8 := Lib.hid ((C7.out.bw x4.bw).st T8 (by simpa using hgc))
    have X8 := Lib.hid ((X7.out.bw x4.bw).st T8 (by simpa using (hp_ne X7.out H7.out (by decide))))
    have Y8 := Lib.hid ((Y7.out.bw x4.bw).st T8 (by simpa using (hp_ne Y7.out H7.out (by decide))))
    have M8 := Lib.hid ((M7.out.bw x4.bw).st T8 (by simpa using (hp_ne M7.out H7.out (by decide))))
    have TT8 := Lib.hid ((T7.out.trans (x4.bw.still [gc, g])).trans (T8.weaken (fun k hk => by simp at hk; simp [hk])))
    replace H8 := Lib.hid H8
    clear T8
    try simp only [Act.put, List.setIfInBounds_toArray, List.set_cons_succ, List.set_cons_zero]
    refine done (by kernel_rfl) (fun xr => ?_)
    have H9 := Lib.hid (H8.out.bw xr.bw)
    have C9 := Lib.hid (C8.out.bw xr.bw)
    have X9 := Lib.hid (X8.out.bw xr.bw)
    have Y9 := Lib.hid (Y8.out.bw xr.bw)
    have M9 := Lib.hid (M8.out.bw xr.bw)
    have T9 := Lib.hid (TT8.out.trans (xr.bw.still [gc, g]))
    clear q0 q1 q2 H7 C7 X7 Y7 M7 T7 H8 C8 X8 Y8 M8 TT8
    generalize xr.now = w9 at *
    go_wp2_with fail
    go_meet
    exact ⟨_, Lib.hid rfl, M9, H9, C9, X9, Y9, T9⟩
   | false =>
    go_wp2_with fail
    go_meet
    exact ⟨_, Lib.hid rfl, M7, H7, C7, X7, Y7, T7⟩
  obtain ⟨V, hV, Mc, Hc, Cc, Xc, Yc, Tc⟩ := hcut
  clear H7 C7 X7 Y7 M7 T7
  obtain ⟨M, hM⟩ : ∃ M, V.map i st pic = M := ⟨_, rfl⟩
  have hVo : V.Ok' first := by
   rw [hV.out]
   split
   ·exact hW.out.follow i st pic
   ·exact hW.out.up
  have hNe : N = (M.1, tu, gl, M.2) := by rw [← hN.out, pushN_yes hT.out, ← hV.out, hM]
  have cM := Lib.hid (fun (y : World) (hy : HpB y g (.cells (egW gc (fnV fk) (fnV fp) src first V gr gb) 57)) => mapW g gc gr gb (fnV fk) (fnV fp) src first V i st pic hi hVo y hy M hM)
  subst hNe
  replace hM := Lib.hid hM
  replace hVo := Lib.hid hVo
  go_upto_region 8 with (fail)
  go_cut [13, 14] (fun y13 y14 wc => ∃ (gz : Nat) (n0 n3 n4 er : Int), y13 = .pointer (some ⟨gz, 0, none⟩) ∧ y14 = .int .i64 er ∧ Hid (MapR M.1 n0 n3 n4 er) ∧ Hid (HpB wc gz (.cells #[.int .i64 n0, .int .u32 n3, .int .u16 n4] 51)) ∧ Hid (HpB wc g (.cells (egW gc (fnV fk) (fnV fp) src first M.2 gr gb) 57)) ∧ Hid (HpB wc gc (.cells (chC many wanted gl) 112)) ∧ Hid (HpB wc gx (.cells (arC pl i mk ty sq st so (.slice so_ no co) xb pf (.slice se ne ce) (.slice sp np cp) pd) 38)) ∧ Hid (HpB wc (gx + 1) (.cells (snC 0 false 0 0 0 0 (.slice none 0 0) false 0 (.slice none 0 0) (.slice none 0 0) 0 false) 60)) ∧ Hid (Still [gc, g] w wc))
  case first =>
   have q0 := (hp_cell Mc.out 0).trans (show _ = some (.int .i64 i) from rfl)
   have q1 := (hp_cell Mc.out 1).trans (show _ = some (.int .u32 st) from rfl)
   have q2 := (hp_cell Mc.out 2).trans (show _ = some (.int .u16 pic) from rfl)
   rename_i wcc
   generalize hwcn : wc = w9 at *
   have m0 : ∀ y : LaterS [] w9, _ := fun y => y.bw.cell q0
   have m1 : ∀ y : LaterS [] w9, _ := fun y => y.bw.cell q1
   have m2 : ∀ y : LaterS [] w9, _ := fun y => y.bw.cell q2
   clear Mc q0 q1 q2
   refine wp_region_gl ([g]) [4] [] [9] (by kernel_rfl) ?_
   refine hoist [] [4] (a1 := ?_) 0 rfl (by kernel_rfl) (.inl ⟨rfl, rfl⟩) rfl rfl rfl (fun x K hK => ?_) ?_
   rotate_left
   ·go_big_quiet_op
    exact hK
   refine hoist [] [4] (a1 := ?_) 1 rfl (by kernel_rfl) (.inl ⟨rfl, rfl⟩) rfl rfl rfl (fun x K hK => ?_) ?_
   rotate_left
   ·go_big_quiet_op
    exact hK
   refine hoist [] [4] (a1 := ?_) 2 rfl (by kernel_rfl) (.inl ⟨rfl, rfl⟩) rfl rfl rfl (fun x K hK => ?_) ?_
   rotate_left
   ·go_big_quiet_op
    exact hK
   refine hoist [] [4] (a1 := ?_) 3 rfl (by kernel_rfl) (.inl ⟨rfl, rfl⟩) rfl rfl rfl (fun x K hK => ?_) ?_
   rotate_left
   ·go_big_quiet_op
    exact hK
   refine effect2 4 8 rfl rfl (by kernel_rfl) (by kernel_rfl) (by kernel_rfl) rfl rfl (fun x4 K hK => ?_) (fun x8 K hK => ?_)
   ·skip
    go_simp
    have hb := x4.bw
    replace Hc := Lib.hid (Hc.out.bw hb)
    replace Cc := Lib.hid (Cc.out.bw hb)
    replace Xc := Lib.hid (Xc.out.bw hb)
    replace Yc := Lib.hid (Yc.out.bw hb)
    replace Tc := Lib.hid (Tc.out.trans (hb.still [gc, g]))
    try replace Zc := Lib.hid (Zc.out.bw hb)
    clear hb
    refine Calls.mono (cM.out x4.now Hc.out) ?_
    rintro e w11 ⟨n0, n3, n4, er, rfl, hMR, H11, T11⟩
    refine hK _ _ T11 ?_
    clear hK K
    replace hMR := Lib.hid hMR
    replace Cc := Lib.hid (Cc.out.st T11 (by simpa using hgc))
    replace Xc := Lib.hid (Xc.out.st T11 (by simpa using (hp_ne Xc.out Hc.out (by decide))))
    replace Yc := Lib.hid (Yc.out.st T11 (by simpa using (hp_ne Yc.out Hc.out (by decide))))
    try replace Zc := Lib.hid (Zc.out.st T11 (by simpa using (hp_ne Zc.out Hc.out (by decide))))
    replace Tc := Lib.hid (Tc.out.trans (T11.weaken (fun k hk => by simp at hk; simp [hk])))
    replace Hc := Lib.hid H11
    clear T11 H11
    try clear m0 m1 m2
    try simp only [Act.put, List.setIfInBounds_toArray, List.set_cons_succ, List.set_cons_zero]
    refine hoist [] [4] (a1 := ?_) 5 rfl (by kernel_rfl) (.inl ⟨rfl, rfl⟩) rfl rfl rfl (fun x K hK => ?_) ?_
    rotate_left
    ·go_big_quiet_op
     exact hK
    refine hoist [] [4] (a1 := ?_) 6 rfl (by kernel_rfl) (.inl ⟨rfl, rfl⟩) rfl rfl rfl (fun x K hK => ?_) ?_
    rotate_left
    ·go_big_quiet_op
     exact hK
    refine hoistP (a1 := ?_) 7 rfl (by kernel_rfl) rfl (fun x => rfl) ?_ ?_
    rotate_left
    ·simp only [Act.put, List.setIfInBounds_toArray, List.set_cons_succ, List.set_cons_zero]; rfl
    refine effect 8 rfl (by kernel_rfl) (by kernel_rfl) rfl (fun x8 K hK => ?_)
    go_simp
    refine hK _ _ (Still.of_below ((Below.refl _ _).alloc (Nat.le_refl _) _)) ?_
    clear hK K
    have hwz := Lib.hid (Nat.le_trans Tc.out.size x8.bw.size)
    have hb := x8.bw.trans ((BW.refl x8.now).alloc (o := .cells #[.int .i64 0, .int .u32 0, .int .u16 0] 51))
    replace Hc := Lib.hid (Hc.out.bw hb)
    replace Cc := Lib.hid (Cc.out.bw hb)
    replace Xc := Lib.hid (Xc.out.bw hb)
    replace Yc := Lib.hid (Yc.out.bw hb)
    replace Tc := Lib.hid (Tc.out.trans (hb.still [gc, g]))
    try replace Zc := Lib.hid (Zc.out.bw hb)
    clear hb
    have Zc := Lib.hid (HpB.new x8.now (.cells #[.int .i64 0, .int .u32 0, .int .u16 0] 51))
    generalize x8.now.alloc (.cells #[.int .i64 0, .int .u32 0, .int .u16 0] 51) = w10 at *
    generalize x8.now.heap.size = gz at *
    try clear m0 m1 m2
    try simp only [Act.put, List.setIfInBounds_toArray, List.set_cons_succ, List.set_cons_zero]
    refine effectL 9 rfl (by kernel_rfl) rfl (by kernel_rfl) rfl (fun x9 K hK => ?_)
    have hb := x9.bw
    replace Hc := Lib.hid (Hc.out.bw hb)
    replace Cc := Lib.hid (Cc.out.bw hb)
    replace Xc := Lib.hid (Xc.out.bw hb)
    replace Yc := Lib.hid (Yc.out.bw hb)
    replace Tc := Lib.hid (Tc.out.trans (hb.still [gc, g]))
    try replace Zc := Lib.hid (Zc.out.bw hb)
    clear hb
    have q0 := (hp_cell Zc.out 0).trans (show _ = some (.int .i64 0) from rfl)
    have q1 := (hp_cell Zc.out 1).trans (show _ = some (.int .u32 0) from rfl)
    have q2 := (hp_cell Zc.out 2).trans (show _ = some (.int .u16 0) from rfl)
    have f0 := hp_frz Zc.out 0
    have f1 := hp_frz Zc.out 1
    have f2 := hp_frz Zc.out 2
    have st9 := still_st3 x9.now gz (.int .i64 n0) (.int .u32 n3) (.int .u16 n4)
    have Z9 := Lib.hid (Zc.out.st3 rfl (.int .i64 n0) (.int .u32 n3) (.int .u16 n4))
    have C9 := Lib.hid (Cc.out.st st9 (by simpa using (hp_ne Cc.out Zc.out (by decide))))
    have X9 := Lib.hid (Xc.out.st st9 (by simpa using (hp_ne Xc.out Zc.out (by decide))))
    have Y9 := Lib.hid (Yc.out.st st9 (by simpa using (hp_ne Yc.out Zc.out (by decide))))
    have H9 := Lib.hid (Hc.out.st st9 (by simpa using (hp_ne Hc.out Zc.out (by decide))))
    have T9 := Lib.hid (Tc.out.stNew st9 (fun k hk => by obtain rfl : k = gz := (by simpa using hk); have := hwz.out; have := hgx.out; omega))
    clear st9 Zc Cc Xc Yc Hc Tc
    have Zc := Z9
    have Cc := C9
    have Xc := X9
    have Yc := Y9
    have Hc := H9
    have Tc := T9
    clear Z9 C9 X9 Y9 H9 T9
    go_simp
    refine hK _ _ ?_
    clear hK K q0 q1 q2 f0 f1 f2
    generalize ((x9.now.setCell ⟨gz, 0, none⟩ (.int .i64 n0)).setCell ⟨gz, 1, none⟩ (.int .u32 n3)).setCell ⟨gz, 2, none⟩ (.int .u16 n4) = w12 at *
    try simp only [Act.put, List.setIfInBounds_toArray, List.set_cons_succ, List.set_cons_zero]
    refine hoist [] [4] (a1 := ?_) 10 rfl (by kernel_rfl) (.inl ⟨rfl, rfl⟩) rfl rfl rfl (fun x K hK => ?_) ?_
    rotate_left
    ·go_big_quiet_op
     exact hK
    refine done (by kernel_rfl) (fun xr => ?_)
    have hb := xr.bw
    replace Hc := Lib.hid (Hc.out.bw hb)
    replace Cc := Lib.hid (Cc.out.bw hb)
    replace Xc := Lib.hid (Xc.out.bw hb)
    replace Yc := Lib.hid (Yc.out.bw hb)
    replace Tc := Lib.hid (Tc.out.trans (hb.still [gc, g]))
    replace Zc := Lib.hid (Zc.out.bw hb)
    clear hb
    go_wp2_with fail
    go_meet
    exact ⟨gz, n0, n3, n4, er, rfl, rfl, hMR, Zc, Hc, Cc, Xc, Yc, Tc⟩
   ·skip
    go_simp
    refine hK _ _ (Still.of_below ((Below.refl _ _).alloc (Nat.le_refl _) _)) ?_
    clear hK K
    have hwz := Lib.hid (Nat.le_trans Tc.out.size x8.bw.size)
    have hb := x8.bw.trans ((BW.refl x8.now).alloc (o := .cells #[.int .i64 0, .int .u32 0, .int .u16 0] 51))
    replace Hc := Lib.hid (Hc.out.bw hb)
    replace Cc := Lib.hid (Cc.out.bw hb)
    replace Xc := Lib.hid (Xc.out.bw hb)
    replace Yc := Lib.hid (Yc.out.bw hb)
    replace Tc := Lib.hid (Tc.out.trans (hb.still [gc, g]))
    try replace Zc := Lib.hid (Zc.out.bw hb)
    clear hb
    have Zc := Lib.hid (HpB.new x8.now (.cells #[.int .i64 0, .int .u32 0, .int .u16 0] 51))
    generalize x8.now.alloc (.cells #[.int .i64 0, .int .u32 0, .int .u16 0] 51) = w10 at *
    generalize x8.now.heap.size = gz at *
    try clear m0 m1 m2
    try simp only [Act.put, List.setIfInBounds_toArray, List.set_cons_succ, List.set_cons_zero]
    refine effect 4 rfl (by kernel_rfl) (by kernel_rfl) rfl (fun x4 K hK => ?_)
    go_simp
    have hb := x4.bw
    replace Hc := Lib.hid (Hc.out.bw hb)
    replace Cc := Lib.hid (Cc.out.bw hb)
    replace Xc := Lib.hid (Xc.out.bw hb)
    replace Yc := Lib.hid (Yc.out.bw hb)
    replace Tc := Lib.hid (Tc.out.trans (hb.still [gc, g]))
    try replace Zc := Lib.hid (Zc.out.bw hb)
    clear hb
    refine Calls.mono (cM.out x4.now Hc.out) ?_
    rintro e w11 ⟨n0, n3, n4, er, rfl, hMR, H11, T11⟩
    refine hK _ _ T11 ?_
    clear hK K
    replace hMR := Lib.hid hMR
    replace Cc := Lib.hid (Cc.out.st T11 (by simpa using hgc))
    replace Xc := Lib.hid (Xc.out.st T11 (by simpa using (hp_ne Xc.out Hc.out (by decide))))
    replace Yc := Lib.hid (Yc.out.st T11 (by simpa using (hp_ne Yc.out Hc.out (by decide))))
    try replace Zc := Lib.hid (Zc.out.st T11 (by simpa using (hp_ne Zc.out Hc.out (by decide))))
    replace Tc := Lib.hid (Tc.out.trans (T11.weaken (fun k hk => by simp at hk; simp [hk])))
    replace Hc := Lib.hid H11
    clear T11 H11
    try clear m0 m1 m2
    try simp only [Act.put, List.setIfInBounds_toArray, List.set_cons_succ, List.set_cons_zero]
    refine hoist [] [4] (a1 := ?_) 5 rfl (by kernel_rfl) (.inl ⟨rfl, rfl⟩) rfl rfl rfl (fun x K hK => ?_) ?_
    rotate_left
    ·go_big_quiet_op
     exact hK
    refine hoist [] [4] (a1 := ?_) 6 rfl (by kernel_rfl) (.inl ⟨rfl, rfl⟩) rfl rfl rfl (fun x K hK => ?_) ?_
    rotate_left
    ·go_big_quiet_op
     exact hK
    refine hoistP (a1 := ?_) 7 rfl (by kernel_rfl) rfl (fun x => rfl) ?_ ?_
    rotate_left
    ·simp only [Act.put, List.setIfInBounds_toArray, List.set_cons_succ, List.set_cons_zero]; rfl
    refine effectL 9 rfl (by kernel_rfl) rfl (by kernel_rfl) rfl (fun x9 K hK => ?_)
    have hb := x9.bw
    replace Hc := Lib.hid (Hc.out.bw hb)
    replace Cc := Lib.hid (Cc.out.bw hb)
    replace Xc := Lib.hid (Xc.out.bw hb)
    replace Yc := Lib.hid (Yc.out.bw hb)
    replace Tc := Lib.hid (Tc.out.trans (hb.still [gc, g]))
    try replace Zc := Lib.hid (Zc.out.bw hb)
    clear hb
    have q0 := (hp_cell Zc.out 0).trans (show _ = some (.int .i64 0) from rfl)
    have q1 := (hp_cell Zc.out 1).trans (show _ = some (.int .u32 0) from rfl)
    have q2 := (hp_cell Zc.out 2).trans (show _ = some (.int .u16 0) from rfl)
    have f0 := hp_frz Zc.out 0
    have f1 := hp_frz Zc.out 1
    have f2 := hp_frz Zc.out 2
    have st9 := still_st3 x9.now gz (.int .i64 n0) (.int .u32 n3) (.int .u16 n4)
    have Z9 := Lib.hid (Zc.out.st3 rfl (.int .i64 n0) (.int .u32 n3) (.int .u16 n4))
    have C9 := Lib.hid (Cc.out.st st9 (by simpa using (hp_ne Cc.out Zc.out (by decide))))
    have X9 := Lib.hid (Xc.out.st st9 (by simpa using (hp_ne Xc.out Zc.out (by decide))))
    have Y9 := Lib.hid (Yc.out.st st9 (by simpa using (hp_ne Yc.out Zc.out (by decide))))
    have H9 := Lib.hid (Hc.out.st st9 (by simpa using (hp_ne Hc.out Zc.out (by decide))))
    have T9 := Lib.hid (Tc.out.stNew st9 (fun k hk => by obtain rfl : k = gz := (by simpa using hk); have := hwz.out; have := hgx.out; omega))
    clear st9 Zc Cc Xc Yc Hc Tc
    have Zc := Z9
    have Cc := C9
    have Xc := X9
    have Yc := Y9
    have Hc := H9
    have Tc := T9
    clear Z9 C9 X9 Y9 H9 T9
    go_simp
    refine hK _ _ ?_
    clear hK K q0 q1 q2 f0 f1 f2
    generalize ((x9.now.setCell ⟨gz, 0, none⟩ (.int .i64 n0)).setCell ⟨gz, 1, none⟩ (.int .u32 n3)).setCell ⟨gz, 2, none⟩ (.int .u16 n4) = w12 at *
    try simp only [Act.put, List.setIfInBounds_toArray, List.set_cons_succ, List.set_cons_zero]
    refine hoist [] [4] (a1 := ?_) 10 rfl (by kernel_rfl) (.inl ⟨rfl, rfl⟩) rfl rfl rfl (fun x K hK => ?_) ?_
    rotate_left
    ·go_big_quiet_op
     exact hK
    refine done (by kernel_rfl) (fun xr => ?_)
    have hb := xr.bw
    replace Hc := Lib.hid (Hc.out.bw hb)
    replace Cc := Lib.hid (Cc.out.bw hb)
    replace Xc := Lib.hid (Xc.out.bw hb)
    replace Yc := Lib.hid (Yc.out.bw hb)
    replace Tc := Lib.hid (Tc.out.trans (hb.still [gc, g]))
    replace Zc := Lib.hid (Zc.out.bw hb)
    clear hb
    go_wp2_with fail
    go_meet
    exact ⟨gz, n0, n3, n4, er, rfl, rfl, hMR, Zc, Hc, Cc, Xc, Yc, Tc⟩
  clear Mc Hc Cc Xc Yc Tc
  obtain ⟨gz, n0, n3, n4, er, rfl, rfl, hMR, Zc, Hc, Cc, Xc, Yc, Tc⟩ := hcut
  clear cM
  rcases hMR.out with ⟨hM1, her⟩ | ⟨hM1, rfl⟩
  ·clear cT hTV
   replace hM1 := Lib.hid hM1
   have v0 := (hp_cell Yc.out 0).trans (show _ = some (.int .i64 0) from rfl)
   have f0 := hp_frz Yc.out 0
   have v1 := (hp_cell Yc.out 1).trans (show _ = some (.bool false) from rfl)
   have f1 := hp_frz Yc.out 1
   have v2 := (hp_cell Yc.out 2).trans (show _ = some (.int .u8 0) from rfl)
   have f2 := hp_frz Yc.out 2
   have v3 := (hp_cell Yc.out 3).trans (show _ = some (.int .u16 0) from rfl)
   have f3 := hp_frz Yc.out 3
   have v4 := (hp_cell Yc.out 4).trans (show _ = some (.int .u32 0) from rfl)
   have f4 := hp_frz Yc.out 4
   have v5 := (hp_cell Yc.out 5).trans (show _ = some (.int .u32 0) from rfl)
   have f5 := hp_frz Yc.out 5
   have v6 := (hp_cell Yc.out 6).trans (show _ = some (.slice none 0 0) from rfl)
   have f6 := hp_frz Yc.out 6
   have v7 := (hp_cell Yc.out 7).trans (show _ = some (.bool false) from rfl)
   have f7 := hp_frz Yc.out 7
   have v8 := (hp_cell Yc.out 8).trans (show _ = some (.int .u16 0) from rfl)
   have f8 := hp_frz Yc.out 8
   have v9 := (hp_cell Yc.out 9).trans (show _ = some (.slice none 0 0) from rfl)
   have f9 := hp_frz Yc.out 9
   have v10 := (hp_cell Yc.out 10).trans (show _ = some (.slice none 0 0) from rfl)
   have f10 := hp_frz Yc.out 10
   have v11 := (hp_cell Yc.out 11).trans (show _ = some (.int .u8 0) from rfl)
   have f11 := hp_frz Yc.out 11
   have v12 := (hp_cell Yc.out 12).trans (show _ = some (.bool false) from rfl)
   have f12 := hp_frz Yc.out 12
   have st20 := still_st13 wc (gx + 1) (.int .i64 0) (.bool false) (.int .u8 0) (.int .u16 0) (.int .u32 0) (.int .u32 0) (.slice none 0 0) (.bool false) (.int .u16 0) (.slice none 0 0) (.slice none 0 0) (.int .u8 0) (.bool false)
   have Y21 := Yc.out.st13 rfl (.int .i64 0) (.bool false) (.int .u8 0) (.int .u16 0) (.int .u32 0) (.int .u32 0) (.slice none 0 0) (.bool false) (.int .u16 0) (.slice none 0 0) (.slice none 0 0) (.int .u8 0) (.bool false)
   have H21 := Lib.hid (Hc.out.st st20 (by simpa using (hp_ne Hc.out Yc.out (by decide))))
   have C21 := Lib.hid (Cc.out.st st20 (by simpa using (hp_ne Cc.out Yc.out (by decide))))
   have T21 := Lib.hid (Tc.out.stNew st20 (fun k hk => by obtain rfl : k = gx + 1 := (by simpa using hk); have := hgx.out; omega))
   obtain ⟨w21, hw21⟩ : ∃ w21, w21 = (((((((((((((wc.setCell ⟨gx + 1, 0, none⟩ (.int .i64 0)).setCell ⟨gx + 1, 1, none⟩ (.bool false)).setCell ⟨gx + 1, 2, none⟩ (.int .u8 0)).setCell ⟨gx + 1, 3, none⟩ (.int .u16 0)).setCell ⟨gx + 1, 4, none⟩ (.int .u32 0)).setCell ⟨gx + 1, 5, none⟩ (.int .u32 0)).setCell ⟨gx + 1, 6, none⟩ (.slice none 0 0)).setCell ⟨gx + 1, 7, none⟩ (.bool false)).setCell ⟨gx + 1, 8, none⟩ (.int .u16 0)).setCell ⟨gx + 1, 9, none⟩ (.slice none 0 0)).setCell ⟨gx + 1, 10, none⟩ (.slice none 0 0)).setCell ⟨gx + 1, 11, none⟩ (.int .u8 0)).setCell ⟨gx + 1, 12, none⟩ (.bool false)) := ⟨_, rfl⟩
   rw [← hw21] at Y21 H21 C21 T21
   have hY21 := Lib.hid Y21
   clear Y21 st20
   go_wp2_with fail
   rw [← hw21]
   clear v0 f0 v1 f1 v2 f2 v3 f3 v4 f4 v5 f5 v6 f6 v7 f7 v8 f8 v9 f9 v10 f10 v11 f11 v12 f12 hw21
   have v0 := (hp_cell hY21.out 0).trans (show _ = some (.int .i64 0) from rfl)
   have v1 := (hp_cell hY21.out 1).trans (show _ = some (.bool false) from rfl)
   have v2 := (hp_cell hY21.out 2).trans (show _ = some (.int .u8 0) from rfl)
   have v3 := (hp_cell hY21.out 3).trans (show _ = some (.int .u16 0) from rfl)
   have v4 := (hp_cell hY21.out 4).trans (show _ = some (.int .u32 0) from rfl)
   have v5 := (hp_cell hY21.out 5).trans (show _ = some (.int .u32 0) from rfl)
   have v6 := (hp_cell hY21.out 6).trans (show _ = some (.slice none 0 0) from rfl)
   have v7 := (hp_cell hY21.out 7).trans (show _ = some (.bool false) from rfl)
   have v8 := (hp_cell hY21.out 8).trans (show _ = some (.int .u16 0) from rfl)
   have v9 := (hp_cell hY21.out 9).trans (show _ = some (.slice none 0 0) from rfl)
   have v10 := (hp_cell hY21.out 10).trans (show _ = some (.slice none 0 0) from rfl)
   have v11 := (hp_cell hY21.out 11).trans (show _ = some (.int .u8 0) from rfl)
   have v12 := (hp_cell hY21.out 12).trans (show _ = some (.bool false) from rfl)
   exact bodyPost_ret (v := .tuple #[.agg (snC 0 false 0 0 0 0 (.slice none 0 0) false 0 (.slice none 0 0) (.slice none 0 0) 0 false), .bool false]) (by simp [results, Try.results11, go_sem, snC, v0, v1, v2, v3, v4, v5, v6, v7, v8, v9, v10, v11, v12]) rfl ⟨.inl ⟨hM1.out, rfl⟩, H21.out, C21.out, T21.out⟩
  ·replace hM1 := Lib.hid hM1
   have x0_ := (hp_cell Xc.out 0).trans (show _ = some (.int .i64 pl) from rfl)
   have x1_ := (hp_cell Xc.out 1).trans (show _ = some (.int .i64 i) from rfl)
   have x2 := (hp_cell Xc.out 2).trans (show _ = some (.bool mk) from rfl)
   have x3 := (hp_cell Xc.out 3).trans (show _ = some (.int .u8 ty) from rfl)
   have x4 := (hp_cell Xc.out 4).trans (show _ = some (.int .u16 sq) from rfl)
   have x5 := (hp_cell Xc.out 5).trans (show _ = some (.int .u32 st) from rfl)
   have x6 := (hp_cell Xc.out 6).trans (show _ = some (.int .u32 so) from rfl)
   have x7 := (hp_cell Xc.out 7).trans (show _ = some (.slice so_ no co) from rfl)
   have x8 := (hp_cell Xc.out 8).trans (show _ = some (.bool xb) from rfl)
   have x9 := (hp_cell Xc.out 9).trans (show _ = some (.int .u16 pf) from rfl)
   have x10 := (hp_cell Xc.out 10).trans (show _ = some (.slice se ne ce) from rfl)
   have x11 := (hp_cell Xc.out 11).trans (show _ = some (.slice sp np cp) from rfl)
   have x12 := (hp_cell Xc.out 12).trans (show _ = some (.int .u8 pd) from rfl)
   clear x0_ x1_
   have BP : BW wc (wc.alloc (.cells #[.bool mk, .int .u8 ty, .int .u16 sq, .int .u32 st, .int .u32 so, .slice so_ no co, .bool xb, .int .u16 pf, .slice se ne ce, .slice sp np cp, .int .u8 pd] 36)) := (BW.refl wc).alloc
   have P13 := Lib.hid (HpB.new wc (.cells #[.bool mk, .int .u8 ty, .int .u16 sq, .int .u32 st, .int .u32 so, .slice so_ no co, .bool xb, .int .u16 pf, .slice se ne ce, .slice sp np cp, .int .u8 pd] 36))
   have Z13 := Lib.hid (Zc.out.bw BP)
   have H13 := Lib.hid (Hc.out.bw BP)
   have C13 := Lib.hid (Cc.out.bw BP)
   have Y13 := Lib.hid (Yc.out.bw BP)
   have Tw13 := Lib.hid (Tc.out.trans (BP.still [gc, g]))
   have hwp := Lib.hid Tc.out.size
   clear Zc Hc Cc Xc Yc Tc
   replace BP := Lib.hid BP
   go_upto_region 12 with (fail)
   generalize wc.alloc (.cells #[.bool mk, .int .u8 ty, .int .u16 sq, .int .u32 st, .int .u32 so, .slice so_ no co, .bool xb, .int .u16 pf, .slice se ne ce, .slice sp np cp, .int .u8 pd] 36) = w13 at *
   generalize wc.heap.size = gp at *
   clear x2 x3 x4 x5 x6 x7 x8 x9 x10 x11 x12
   have z3 := (hp_cell H13.out 3).trans (show _ = some (.int .u32 src) from rfl)
   have u0 := (hp_cell Z13.out 0).trans (show _ = some (.int .i64 n0) from rfl)
   have u1 := (hp_cell Z13.out 1).trans (show _ = some (.int .u32 n3) from rfl)
   have hzp := hp_ne Z13.out P13.out (by decide)
   have hgp := hp_ne H13.out P13.out (by decide)
   have m3 : ∀ y : LaterS [] w13, _ := fun y => y.bw.cell z3
   have mu0 : ∀ y : LaterS [] w13, _ := fun y => y.bw.cell u0
   have mu1 : ∀ y : LaterS [] w13, _ := fun y => y.bw.cell u1
   have mu1s : ∀ y : LaterS [gp] w13, _ := fun y => y.cell u1 (by simpa using hzp)
   have T13 := Lib.hid (Still.refl [gp] w13)
   have P14' := P13
   refine wp_region_gg ([gp]) [10, 12, 14, 16] [] (by kernel_rfl) ?_
   refine hoist [] [10, 12, 14, 16] (a1 := ?_) 0 rfl (by kernel_rfl) (.inl ⟨rfl, rfl⟩) rfl rfl rfl (fun x K hK => ?_) ?_
   rotate_left
   ·go_big_quiet_op
    exact hK
   refine hoist [] [10, 12, 14, 16] (a1 := ?_) 1 rfl (by kernel_rfl) (.inl ⟨rfl, rfl⟩) rfl rfl rfl (fun x K hK => ?_) ?_
   rotate_left
   ·go_big_quiet_op
    exact hK
   refine hoist [] [10, 12, 14, 16] (a1 := ?_) 2 rfl (by kernel_rfl) (.inl ⟨rfl, rfl⟩) rfl rfl rfl (fun x K hK => ?_) ?_
   rotate_left
   ·go_big_quiet_op
    exact hK
   refine hoist [] [10, 12, 14, 16] (a1 := ?_) 3 rfl (by kernel_rfl) (.inl ⟨rfl, rfl⟩) rfl rfl rfl (fun x K hK => ?_) ?_
   rotate_left
   ·go_big_quiet_op
    exact hK
   refine hoist [] [10, 12, 14, 16] (a1 := ?_) 4 rfl (by kernel_rfl) (.inl ⟨rfl, rfl⟩) rfl rfl rfl (fun x K hK => ?_) ?_
   rotate_left
   ·go_big_quiet_op
    exact hK
   refine hoist [] [10, 12, 14, 16] (a1 := ?_) 5 rfl (by kernel_rfl) (.inl ⟨rfl, rfl⟩) rfl rfl rfl (fun x K hK => ?_) ?_
   rotate_left
   ·go_big_quiet_op
    exact hK
   refine hoist ([gp]) [] (a1 := ?_) 7 rfl (by kernel_rfl) (.inr rfl) rfl rfl rfl (fun x K hK => ?_) ?_
   rotate_left
   ·go_big_quiet_op
    exact hK
   refine hoist ([gp]) [] (a1 := ?_) 8 rfl (by kernel_rfl) (.inr rfl) rfl rfl rfl (fun x K hK => ?_) ?_
   rotate_left
   ·go_big_quiet_op
    exact hK
   refine hoist [] [10, 12, 14, 16] (a1 := ?_) 9 rfl (by kernel_rfl) (.inl ⟨rfl, rfl⟩) rfl rfl rfl (fun x K hK => ?_) ?_
   rotate_left
   ·go_big_quiet_op
    exact hK
   refine effect 6 rfl (by kernel_rfl) (by kernel_rfl) rfl (fun x6 K hK => ?_)
   go_simp
   refine Calls.mono (seq_any n0 _) ?_
   rintro e w3 ⟨rfl, rfl⟩
   refine hK _ _ ((BW.refl _).still _) ?_
   clear hK K
   have P14 := Lib.hid (P13.out.bw x6.bw)
   have T14 := Lib.hid (T13.out.trans (x6.bw.still [gp]))
   clear P13 T13
   try simp only [Act.put, List.setIfInBounds_toArray, List.set_cons_succ, List.set_cons_zero]
   refine effect 10 rfl (by kernel_rfl) (by kernel_rfl) rfl (fun x10 K hK => ?_)
   have P0 := P14.out.bw x10.bw
   have y0' := hp_frz P0 4
   have z0' := (hp_cell P0 4).trans (show _ = some (.int .u32 so) from rfl)
   have P15 : Hid (HpB (x10.now.setCell ⟨gp, 4, none⟩ (.int .u32 src)) gp (.cells #[.bool mk, .int .u8 ty, .int .u16 sq, .int .u32 st, .int .u32 src, .slice so_ no co, .bool xb, .int .u16 pf, .slice se ne ce, .slice sp np cp, .int .u8 pd] 36)) := Lib.hid (hp_set P0 4 _)
   have T0 := Lib.hid (still_sc x10.now gp 4 (.int .u32 src))
   have TT0 := Lib.hid (((T14.out).trans (x10.bw.still [gp])).trans T0.out)
   replace P0 := Lib.hid P0
   go_simp
   refine hK _ _ T0.out ?_
   clear hK K y0' z0' P0 T0 P14 T14
   have T15 := TT0
   clear TT0
   generalize x10.now.setCell ⟨gp, 4, none⟩ (.int .u32 src) = w110 at *
   try simp only [Act.put, List.setIfInBounds_toArray, List.set_cons_succ, List.set_cons_zero]
   refine hoist [] [10, 12, 14, 16] (a1 := ?_) 11 rfl (by kernel_rfl) (.inl ⟨rfl, rfl⟩) rfl rfl rfl (fun x K hK => ?_) ?_
   rotate_left
   ·go_big_quiet_op
    exact hK
   refine effect 12 rfl (by kernel_rfl) (by kernel_rfl) rfl (fun x12 K hK => ?_)
   have P0 := P15.out.bw x12.bw
   have y0' := hp_frz P0 2
   have z0' := (hp_cell P0 2).trans (show _ = some (.int .u16 sq) from rfl)
   have P16 : Hid (HpB (x12.now.setCell ⟨gp, 2, none⟩ (.int .u16 (IntKind.u16.wrap n0))) gp (.cells #[.bool mk, .int .u8 ty, .int .u16 (IntKind.u16.wrap n0), .int .u32 st, .int .u32 src, .slice so_ no co, .bool xb, .int .u16 pf, .slice se ne ce, .slice sp np cp, .int .u8 pd] 36)) := Lib.hid (hp_set P0 2 _)
   have T0 := Lib.hid (still_sc x12.now gp 2 (.int .u16 (IntKind.u16.wrap n0)))
   have TT0 := Lib.hid (((T15.out).trans (x12.bw.still [gp])).trans T0.out)
   replace P0 := Lib.hid P0
   go_simp
   refine hK _ _ T0.out ?_
   clear hK K y0' z0' P0 T0 P15 T15
   have T16 := TT0
   clear TT0
   generalize x12.now.setCell ⟨gp, 2, none⟩ (.int .u16 (IntKind.u16.wrap n0)) = w112 at *
   try simp only [Act.put, List.setIfInBounds_toArray, List.set_cons_succ, List.set_cons_zero]
   refine hoist [] [10, 12, 14, 16] (a1 := ?_) 13 rfl (by kernel_rfl) (.inl ⟨rfl, rfl⟩) rfl rfl rfl (fun x K hK => ?_) ?_
   rotate_left
   ·go_big_quiet_op
    exact hK
   refine effect 14 rfl (by kernel_rfl) (by kernel_rfl) rfl (fun x14 K hK => ?_)
   have P0 := P16.out.bw x14.bw
   have y0' := hp_frz P0 3
   have z0' := (hp_cell P0 3).trans (show _ = some (.int .u32 st) from rfl)
   have P17 : Hid (HpB (x14.now.setCell ⟨gp, 3, none⟩ (.int .u32 n3)) gp (.cells #[.bool mk, .int .u8 ty, .int .u16 (IntKind.u16.wrap n0), .int .u32 n3, .int .u32 src, .slice so_ no co, .bool xb, .int .u16 pf, .slice se ne ce, .slice sp np cp, .int .u8 pd] 36)) := Lib.hid (hp_set P0 3 _)
   have T0 := Lib.hid (still_sc x14.now gp 3 (.int .u32 n3))
   have TT0 := Lib.hid (((T16.out).trans (x14.bw.still [gp])).trans T0.out)
   replace P0 := Lib.hid P0
   go_simp
   refine hK _ _ T0.out ?_
   clear hK K y0' z0' P0 T0 P16 T16
   have T17 := TT0
   clear TT0
   generalize x14.now.setCell ⟨gp, 3, none⟩ (.int .u32 n3) = w114 at *
   try simp only [Act.put, List.setIfInBounds_toArray, List.set_cons_succ, List.set_cons_zero]
   refine hoist [] [10, 12, 14, 16] (a1 := ?_) 15 rfl (by kernel_rfl) (.inl ⟨rfl, rfl⟩) rfl rfl rfl (fun x K hK => ?_) ?_
   rotate_left
   ·go_big_quiet_op
    exact hK
   refine effect 16 rfl (by kernel_rfl) (by kernel_rfl) rfl (fun x16 K hK => ?_)
   have P0 := P17.out.bw x16.bw
   have y0' := hp_frz P0 5
   have z0' := (hp_cell P0 5).trans (show _ = some (.slice so_ no co) from rfl)
   have P18 : Hid (HpB (x16.now.setCell ⟨gp, 5, none⟩ (.slice none 0 0)) gp (.cells #[.bool mk, .int .u8 ty, .int .u16 (IntKind.u16.wrap n0), .int .u32 n3, .int .u32 src, .slice none 0 0, .bool xb, .int .u16 pf, .slice se ne ce, .slice sp np cp, .int .u8 pd] 36)) := Lib.hid (hp_set P0 5 _)
   have T0 := Lib.hid (still_sc x16.now gp 5 (.slice none 0 0))
   have TT0 := Lib.hid (((T17.out).trans (x16.bw.still [gp])).trans T0.out)
   replace P0 := Lib.hid P0
   go_simp
   refine hK _ _ T0.out ?_
   clear hK K y0' z0' P0 T0 P17 T17
   have T18 := TT0
   clear TT0
   generalize x16.now.setCell ⟨gp, 5, none⟩ (.slice none 0 0) = w116 at *
   try simp only [Act.put, List.setIfInBounds_toArray, List.set_cons_succ, List.set_cons_zero]
   refine done (by kernel_rfl) (fun xr => ?_)
   have P19 := Lib.hid (P18.out.bw xr.bw)
   have TT := T18.out.trans (xr.bw.still [gp])
   have Z19 := Lib.hid (Z13.out.st TT (by simpa using hzp))
   have H19 := Lib.hid (H13.out.st TT (by simpa using hgp))
   have C19 := Lib.hid (C13.out.st TT (by simpa using (hp_ne C13.out P14'.out (by decide))))
   have Y19 := Lib.hid (Y13.out.st TT (by simpa using (hp_ne Y13.out P14'.out (by decide))))
   have Tw19 := Lib.hid (Tw13.out.stNew TT (fun k hk => by obtain rfl : k = gp := (by simpa using hk); have := hwp.out; have := hgx.out; omega))
   clear TT m3 mu0 mu1 mu1s z3 u0 u1 P18 T18 Z13 H13 C13 Y13 Tw13 P14'
   replace hzp := Lib.hid hzp
   replace hgp := Lib.hid hgp
   generalize xr.now = w20 at *
   have hgpw : w.heap.size ≤ gp := by have := hwp.out; have := hgx.out; omega
   replace hgpw := Lib.hid hgpw
   cases has with
   | false =>
    clear cT hTV
    have u0 := (hp_cell Z19.out 0).trans (show _ = some (.int .i64 n0) from rfl)
    have p0 := (hp_cell P19.out 0).trans (show _ = some (.bool mk) from rfl)
    have p1 := (hp_cell P19.out 1).trans (show _ = some (.int .u8 ty) from rfl)
    have p2 := (hp_cell P19.out 2).trans (show _ = some (.int .u16 (IntKind.u16.wrap n0)) from rfl)
    have p3 := (hp_cell P19.out 3).trans (show _ = some (.int .u32 n3) from rfl)
    have p4 := (hp_cell P19.out 4).trans (show _ = some (.int .u32 src) from rfl)
    have p5 := (hp_cell P19.out 5).trans (show _ = some (.slice none 0 0) from rfl)
    have p6 := (hp_cell P19.out 6).trans (show _ = some (.bool xb) from rfl)
    have p7 := (hp_cell P19.out 7).trans (show _ = some (.int .u16 pf) from rfl)
    have p8 := (hp_cell P19.out 8).trans (show _ = some (.slice se ne ce) from rfl)
    have p9 := (hp_cell P19.out 9).trans (show _ = some (.slice sp np cp) from rfl)
    have p10 := (hp_cell P19.out 10).trans (show _ = some (.int .u8 pd) from rfl)
    have v0 := (hp_cell Y19.out 0).trans (show _ = some (.int .i64 0) from rfl)
    have f0 := hp_frz Y19.out 0
    have v1 := (hp_cell Y19.out 1).trans (show _ = some (.bool false) from rfl)
    have f1 := hp_frz Y19.out 1
    have v2 := (hp_cell Y19.out 2).trans (show _ = some (.int .u8 0) from rfl)
    have f2 := hp_frz Y19.out 2
    have v3 := (hp_cell Y19.out 3).trans (show _ = some (.int .u16 0) from rfl)
    have f3 := hp_frz Y19.out 3
    have v4 := (hp_cell Y19.out 4).trans (show _ = some (.int .u32 0) from rfl)
    have f4 := hp_frz Y19.out 4
    have v5 := (hp_cell Y19.out 5).trans (show _ = some (.int .u32 0) from rfl)
    have f5 := hp_frz Y19.out 5
    have v6 := (hp_cell Y19.out 6).trans (show _ = some (.slice none 0 0) from rfl)
    have f6 := hp_frz Y19.out 6
    have v7 := (hp_cell Y19.out 7).trans (show _ = some (.bool false) from rfl)
    have f7 := hp_frz Y19.out 7
    have v8 := (hp_cell Y19.out 8).trans (show _ = some (.int .u16 0) from rfl)
    have f8 := hp_frz Y19.out 8
    have v9 := (hp_cell Y19.out 9).trans (show _ = some (.slice none 0 0) from rfl)
    have f9 := hp_frz Y19.out 9
    have v10 := (hp_cell Y19.out 10).trans (show _ = some (.slice none 0 0) from rfl)
    have f10 := hp_frz Y19.out 10
    have v11 := (hp_cell Y19.out 11).trans (show _ = some (.int .u8 0) from rfl)
    have f11 := hp_frz Y19.out 11
    have v12 := (hp_cell Y19.out 12).trans (show _ = some (.bool false) from rfl)
    have f12 := hp_frz Y19.out 12
    have st20 := still_st13 w20 (gx + 1) (.int .i64 n0) (.bool mk) (.int .u8 ty) (.int .u16 (IntKind.u16.wrap n0)) (.int .u32 n3) (.int .u32 src) (.slice none 0 0) (.bool xb) (.int .u16 pf) (.slice se ne ce) (.slice sp np cp) (.int .u8 pd) (.bool tu)
    have Y21 := Y19.out.st13 rfl (.int .i64 n0) (.bool mk) (.int .u8 ty) (.int .u16 (IntKind.u16.wrap n0)) (.int .u32 n3) (.int .u32 src) (.slice none 0 0) (.bool xb) (.int .u16 pf) (.slice se ne ce) (.slice sp np cp) (.int .u8 pd) (.bool tu)
    have H21 := Lib.hid (H19.out.st st20 (by simpa using (hp_ne H19.out Y19.out (by decide))))
    have C21 := Lib.hid (C19.out.st st20 (by simpa using (hp_ne C19.out Y19.out (by decide))))
    have T21 := Lib.hid (Tw19.out.stNew st20 (fun k hk => by obtain rfl : k = gx + 1 := (by simpa using hk); have := hgx.out; omega))
    obtain ⟨w21, hw21⟩ : ∃ w21, w21 = (((((((((((((w20.setCell ⟨gx + 1, 0, none⟩ (.int .i64 n0)).setCell ⟨gx + 1, 1, none⟩ (.bool mk)).setCell ⟨gx + 1, 2, none⟩ (.int .u8 ty)).setCell ⟨gx + 1, 3, none⟩ (.int .u16 (IntKind.u16.wrap n0))).setCell ⟨gx + 1, 4, none⟩ (.int .u32 n3)).setCell ⟨gx + 1, 5, none⟩ (.int .u32 src)).setCell ⟨gx + 1, 6, none⟩ (.slice none 0 0)).setCell ⟨gx + 1, 7, none⟩ (.bool xb)).setCell ⟨gx + 1, 8, none⟩ (.int .u16 pf)).setCell ⟨gx + 1, 9, none⟩ (.slice se ne ce)).setCell ⟨gx + 1, 10, none⟩ (.slice sp np cp)).setCell ⟨gx + 1, 11, none⟩ (.int .u8 pd)).setCell ⟨gx + 1, 12, none⟩ (.bool tu)) := ⟨_, rfl⟩
    rw [← hw21] at Y21 H21 C21 T21
    have hY21 := Lib.hid Y21
    clear Y21 st20
    go_wp2_with fail
    rw [← hw21]
    clear v0 f0 v1 f1 v2 f2 v3 f3 v4 f4 v5 f5 v6 f6 v7 f7 v8 f8 v9 f9 v10 f10 v11 f11 v12 f12 p0 p1 p2 p3 p4 p5 p6 p7 p8 p9 p10 hw21 u0
    have v0 := (hp_cell hY21.out 0).trans (show _ = some (.int .i64 n0) from rfl)
    have v1 := (hp_cell hY21.out 1).trans (show _ = some (.bool mk) from rfl)
    have v2 := (hp_cell hY21.out 2).trans (show _ = some (.int .u8 ty) from rfl)
    have v3 := (hp_cell hY21.out 3).trans (show _ = some (.int .u16 (IntKind.u16.wrap n0)) from rfl)
    have v4 := (hp_cell hY21.out 4).trans (show _ = some (.int .u32 n3) from rfl)
    have v5 := (hp_cell hY21.out 5).trans (show _ = some (.int .u32 src) from rfl)
    have v6 := (hp_cell hY21.out 6).trans (show _ = some (.slice none 0 0) from rfl)
    have v7 := (hp_cell hY21.out 7).trans (show _ = some (.bool xb) from rfl)
    have v8 := (hp_cell hY21.out 8).trans (show _ = some (.int .u16 pf) from rfl)
    have v9 := (hp_cell hY21.out 9).trans (show _ = some (.slice se ne ce) from rfl)
    have v10 := (hp_cell hY21.out 10).trans (show _ = some (.slice sp np cp) from rfl)
    have v11 := (hp_cell hY21.out 11).trans (show _ = some (.int .u8 pd) from rfl)
    have v12 := (hp_cell hY21.out 12).trans (show _ = some (.bool tu) from rfl)
    exact bodyPost_ret (v := .tuple #[.agg (snC n0 mk ty (IntKind.u16.wrap n0) n3 src (.slice none 0 0) xb pf (.slice se ne ce) (.slice sp np cp) pd tu), .bool true]) (by simp [results, Try.results11, go_sem, snC, v0, v1, v2, v3, v4, v5, v6, v7, v8, v9, v10, v11, v12]) rfl ⟨.inr ⟨n0, n3, n4, _, hM1.out, rfl, fun _ => rfl, fun h => by cases h⟩, H21.out, C21.out, T21.out⟩
   | true =>
    have p9 := (hp_cell P19.out 9).trans (show _ = some (.slice sp np cp) from rfl)
    have z2 := (hp_cell Z19.out 2).trans (show _ = some (.int .u16 n4) from rfl)
    have hpr := map_pic hM.out hM1.out
    have cT2 := Lib.hid (cT.out rfl w20 n4 Tw19.out hpr.1 hpr.2)
    clear hpr
    clear cT
    go_wp2_with fail
    refine Calls.mono cT2.out ?_
    rintro e w30 ⟨sv, nv, cv, rfl, V30, hb⟩
    clear cT2 p9 z2
    have P30 := P19.out.bw hb
    have f9 := hp_frz P30 9
    have p9 := (hp_cell P30 9).trans (show _ = some (.slice sp np cp) from rfl)
    have P31 : Hid (HpB (w30.setCell ⟨gp, 9, none⟩ (.slice sv nv cv)) gp (.cells #[.bool mk, .int .u8 ty, .int .u16 (IntKind.u16.wrap n0), .int .u32 n3, .int .u32 src, .slice none 0 0, .bool xb, .int .u16 pf, .slice se ne ce, .slice sv nv cv, .int .u8 pd] 36)) := Lib.hid (hp_set P30 9 _)
    have S31 := still_sc w30 gp 9 (.slice sv nv cv)
    have V31 := Lib.hid (hTV.out _ _ _ _ _ V30 S31 (fun k hk => by obtain rfl : k = gp := (by simpa using hk); exact .inr ⟨_, _, _, P30, by decide⟩))
    have Z31 := Lib.hid ((Z19.out.bw hb).st S31 (by simpa using hzp.out))
    have H31 := Lib.hid ((H19.out.bw hb).st S31 (by simpa using hgp.out))
    have C31 := Lib.hid ((C19.out.bw hb).st S31 (by simpa using (hp_ne (C19.out.bw hb) P30 (by decide))))
    have Y31 := Lib.hid ((Y19.out.bw hb).st S31 (by simpa using (hp_ne (Y19.out.bw hb) P30 (by decide))))
    have Tw31 := Lib.hid ((Tw19.out.trans (hb.still [gc, g])).stNew S31 (fun k hk => by obtain rfl : k = gp := (by simpa using hk); exact hgpw.out))
    clear P19 Z19 H19 C19 Y19 Tw19 V30 S31
    replace hb := Lib.hid hb
    replace P30 := Lib.hid P30
    dsimp only
    go_upto_region 15 with (fail)
    clear f9 p9 P30 hb
    generalize w30.setCell ⟨gp, 9, none⟩ (.slice sv nv cv) = w31 at *
    have H19 := H31
    have C19 := C31
    have Y19 := Y31
    have Tw19 := Tw31
    have V19 := V31
    clear H31 C31 Y31 Tw31 V31
    have u0 := (hp_cell Z31.out 0).trans (show _ = some (.int .i64 n0) from rfl)
    have p0 := (hp_cell P31.out 0).trans (show _ = some (.bool mk) from rfl)
    have p1 := (hp_cell P31.out 1).trans (show _ = some (.int .u8 ty) from rfl)
    have p2 := (hp_cell P31.out 2).trans (show _ = some (.int .u16 (IntKind.u16.wrap n0)) from rfl)
    have p3 := (hp_cell P31.out 3).trans (show _ = some (.int .u32 n3) from rfl)
    have p4 := (hp_cell P31.out 4).trans (show _ = some (.int .u32 src) from rfl)
    have p5 := (hp_cell P31.out 5).trans (show _ = some (.slice none 0 0) from rfl)
    have p6 := (hp_cell P31.out 6).trans (show _ = some (.bool xb) from rfl)
    have p7 := (hp_cell P31.out 7).trans (show _ = some (.int .u16 pf) from rfl)
    have p8 := (hp_cell P31.out 8).trans (show _ = some (.slice se ne ce) from rfl)
    have p9 := (hp_cell P31.out 9).trans (show _ = some (.slice sv nv cv) from rfl)
    have p10 := (hp_cell P31.out 10).trans (show _ = some (.int .u8 pd) from rfl)
    have v0 := (hp_cell Y19.out 0).trans (show _ = some (.int .i64 0) from rfl)
    have f0 := hp_frz Y19.out 0
    have v1 := (hp_cell Y19.out 1).trans (show _ = some (.bool false) from rfl)
    have f1 := hp_frz Y19.out 1
    have v2 := (hp_cell Y19.out 2).trans (show _ = some (.int .u8 0) from rfl)
    have f2 := hp_frz Y19.out 2
    have v3 := (hp_cell Y19.out 3).trans (show _ = some (.int .u16 0) from rfl)
    have f3 := hp_frz Y19.out 3
    have v4 := (hp_cell Y19.out 4).trans (show _ = some (.int .u32 0) from rfl)
    have f4 := hp_frz Y19.out 4
    have v5 := (hp_cell Y19.out 5).trans (show _ = some (.int .u32 0) from rfl)
    have f5 := hp_frz Y19.out 5
    have v6 := (hp_cell Y19.out 6).trans (show _ = some (.slice none 0 0) from rfl)
    have f6 := hp_frz Y19.out 6
    have v7 := (hp_cell Y19.out 7).trans (show _ = some (.bool false) from rfl)
    have f7 := hp_frz Y19.out 7
    have v8 := (hp_cell Y19.out 8).trans (show _ = some (.int .u16 0) from rfl)
    have f8 := hp_frz Y19.out 8
    have v9 := (hp_cell Y19.out 9).trans (show _ = some (.slice none 0 0) from rfl)
    have f9 := hp_frz Y19.out 9
    have v10 := (hp_cell Y19.out 10).trans (show _ = some (.slice none 0 0) from rfl)
    have f10 := hp_frz Y19.out 10
    have v11 := (hp_cell Y19.out 11).trans (show _ = some (.int .u8 0) from rfl)
    have f11 := hp_frz Y19.out 11
    have v12 := (hp_cell Y19.out 12).trans (show _ = some (.bool false) from rfl)
    have f12 := hp_frz Y19.out 12
    have st20 := still_st13 w31 (gx + 1) (.int .i64 n0) (.bool mk) (.int .u8 ty) (.int .u16 (IntKind.u16.wrap n0)) (.int .u32 n3) (.int .u32 src) (.slice none 0 0) (.bool xb) (.int .u16 pf) (.slice se ne ce) (.slice sv nv cv) (.int .u8 pd) (.bool tu)
    have Y21 := Y19.out.st13 rfl (.int .i64 n0) (.bool mk) (.int .u8 ty) (.int .u16 (IntKind.u16.wrap n0)) (.int .u32 n3) (.int .u32 src) (.slice none 0 0) (.bool xb) (.int .u16 pf) (.slice se ne ce) (.slice sv nv cv) (.int .u8 pd) (.bool tu)
    have H21 := Lib.hid (H19.out.st st20 (by simpa using (hp_ne H19.out Y19.out (by decide))))
    have C21 := Lib.hid (C19.out.st st20 (by simpa using (hp_ne C19.out Y19.out (by decide))))
    have T21 := Lib.hid (Tw19.out.stNew st20 (fun k hk => by obtain rfl : k = gx + 1 := (by simpa using hk); have := hgx.out; omega))
    have V21 := Lib.hid (hTV.out _ _ _ _ _ V19.out st20 (fun k hk => by obtain rfl : k = gx + 1 := (by simpa using hk); exact .inr ⟨_, _, _, Y19.out, by decide⟩))
    obtain ⟨w21, hw21⟩ : ∃ w21, w21 = (((((((((((((w31.setCell ⟨gx + 1, 0, none⟩ (.int .i64 n0)).setCell ⟨gx + 1, 1, none⟩ (.bool mk)).setCell ⟨gx + 1, 2, none⟩ (.int .u8 ty)).setCell ⟨gx + 1, 3, none⟩ (.int .u16 (IntKind.u16.wrap n0))).setCell ⟨gx + 1, 4, none⟩ (.int .u32 n3)).setCell ⟨gx + 1, 5, none⟩ (.int .u32 src)).setCell ⟨gx + 1, 6, none⟩ (.slice none 0 0)).setCell ⟨gx + 1, 7, none⟩ (.bool xb)).setCell ⟨gx + 1, 8, none⟩ (.int .u16 pf)).setCell ⟨gx + 1, 9, none⟩ (.slice se ne ce)).setCell ⟨gx + 1, 10, none⟩ (.slice sv nv cv)).setCell ⟨gx + 1, 11, none⟩ (.int .u8 pd)).setCell ⟨gx + 1, 12, none⟩ (.bool tu)) := ⟨_, rfl⟩
    rw [← hw21] at Y21 H21 C21 T21 V21
    have hY21 := Lib.hid Y21
    clear Y21 st20
    go_wp2_with fail
    rw [← hw21]
    clear v0 f0 v1 f1 v2 f2 v3 f3 v4 f4 v5 f5 v6 f6 v7 f7 v8 f8 v9 f9 v10 f10 v11 f11 v12 f12 p0 p1 p2 p3 p4 p5 p6 p7 p8 p9 p10 hw21 u0
    have v0 := (hp_cell hY21.out 0).trans (show _ = some (.int .i64 n0) from rfl)
    have v1 := (hp_cell hY21.out 1).trans (show _ = some (.bool mk) from rfl)
    have v2 := (hp_cell hY21.out 2).trans (show _ = some (.int .u8 ty) from rfl)
    have v3 := (hp_cell hY21.out 3).trans (show _ = some (.int .u16 (IntKind.u16.wrap n0)) from rfl)
    have v4 := (hp_cell hY21.out 4).trans (show _ = some (.int .u32 n3) from rfl)
    have v5 := (hp_cell hY21.out 5).trans (show _ = some (.int .u32 src) from rfl)
    have v6 := (hp_cell hY21.out 6).trans (show _ = some (.slice none 0 0) from rfl)
    have v7 := (hp_cell hY21.out 7).trans (show _ = some (.bool xb) from rfl)
    have v8 := (hp_cell hY21.out 8).trans (show _ = some (.int .u16 pf) from rfl)
    have v9 := (hp_cell hY21.out 9).trans (show _ = some (.slice se ne ce) from rfl)
    have v10 := (hp_cell hY21.out 10).trans (show _ = some (.slice sv nv cv) from rfl)
    have v11 := (hp_cell hY21.out 11).trans (show _ = some (.int .u8 pd) from rfl)
    have v12 := (hp_cell hY21.out 12).trans (show _ = some (.bool tu) from rfl)
    exact bodyPost_ret (v := .tuple #[.agg (snC n0 mk ty (IntKind.u16.wrap n0) n3 src (.slice none 0 0) xb pf (.slice se ne ce) (.slice sv nv cv) pd tu), .bool true]) (by simp [results, Try.results11, go_sem, snC, v0, v1, v2, v3, v4, v5, v6, v7, v8, v9, v10, v11, v12]) rfl ⟨.inr ⟨n0, n3, n4, _, hM1.out, rfl, (fun h => by cases h), fun _ => V21.out⟩, H21.out, C21.out, T21.out⟩
end Go.Proofs.Ytojedpahaifjgaa
