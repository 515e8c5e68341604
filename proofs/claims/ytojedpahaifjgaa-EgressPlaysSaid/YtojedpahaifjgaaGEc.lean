/- Rings: cut (for seats that do not reach Indices and Forget). No condition but the sizes'. Rings: Put. No condition but the sizes'. A ring that keeps packets of one size by rising indices from 0 on, as many as there is room for. Plain law. -/
import Derived.Test.YtojedpahaifjgaaGEb
import Derived.Test.YtojedpahaifjgaaArB
namespace Go.Proofs.Ytojedpahaifjgaa
open Go.RowKit
theorem still_setR (w : World) (g o : Nat) (v : Value) : Still [g] w (w.setCell ⟨g, o, none⟩ v) :=
 ⟨rfl, rfl, rfl, by simp [World.setCell], fun k _ hk => hp_oth (by simpa using hk)⟩
theorem lensL_drop (L : PL) (k : Nat) (h : k < L.length) : lensL (L.drop k) = (L[k]).2.length + lensL (L.drop (k + 1)) := by
 rw [List.drop_eq_getElem_cons h]; rfl
theorem lensL_drop_le (L : PL) : ∀ k, lensL (L.drop k) ≤ lensL L := by
 intro k
 have h : lensL (L.take k) + lensL (L.drop k) = lensL L := by
  unfold lensL
  rw [List.map_take, List.map_drop, ← List.sum_append, List.take_append_drop]
 omega
theorem RingV.setV {w : World} {base g : Nat} {pk by_ : Int} {v : Value} {z : Nat} (h : HpB w g (.cells #[.int .i64 pk, .int .i64 by_, v, .int .i64 (z : Nat)] 140)) (v' : Value) (L : PL) (hz : z = lensL L) (hq : EQ IB 158 w base v' L.length L) : RingV (w.setCell ⟨g, 2, none⟩ v') base g pk by_ v' L := by
 subst hz
 exact ⟨hp_set h 2 v', hq.still (still_setR w g 2 v') (fun k hk => by obtain rfl : k = g := (by simpa using hk); exact .inr ⟨_, _, _, h, by decide⟩) (fun k hk => by have := hq.ne h (by decide) k hk; simpa using this)⟩
set_option maxRecDepth 100000 in
set_option maxHeartbeats 8000000 in
theorem cut_any (base g : Nat) (pk by_ : Int) (v : Value) (L : PL) (n : Nat) (w : World) (h : RingV w base g pk by_ v L) (hn : L.length ≤ 1000000) (hl : lensL L ≤ 1000000000) (hnl : n ≤ L.length) (hbase : base ≤ w.heap.size) :
  Calls Try.prog 81 #[.pointer (some ⟨g, 0, none⟩), .int .i64 (n : Nat)] w fun e w' => e = .returned (.tuple #[]) ∧ (∃ v', RingV w' base g pk by_ v' (L.drop n) ∧ ∀ k, v'.ownBlock = some k → w.heap.size ≤ k) ∧ Still [g] w w' := by
 obtain ⟨sv, cv, rfl, hnc, hmc⟩ := h.q.len
 have z2 : w.cell? ⟨g, 2, none⟩ = some (.slice sv L.length cv) := hp_cell h.cells 2
 have hQ := Lib.hid h.q
 have hC := Lib.hid h.cells
 have hgw := HpB.lt h.cells
 unfold maxLen at hmc
 have info : (Try.prog.info? 158).map (·.size) = some 2 := by kernel_rfl
 have hcu := fun w => run_cut_hm (P := Try.prog) Try.underlying138 info sv L.length cv n n (n : Int) (n : Int) rfl rfl .i64 .i64 (Nat.le_refl _) (by omega) w
 have hcl := fun w => run_cut_l (P := Try.prog) Try.underlying138 info sv L.length cv n (n : Int) rfl .i64 hnl w
 clear h
 generalize hlen : L.length = N at *
 have hdr := fun k => lensL_drop_le L k
 have hds := fun k hk => lensL_drop L k hk
 replace hlen := Lib.hid hlen
 replace hcl := Lib.hid hcl
 replace hdr := Lib.hid hdr
 replace hds := Lib.hid hds
 go_enter Try.func81, Try.ntmps81
 go_upto_region 1 with (fail)
 clear hcu z2
 go_loopg [14] n (fun m' i wx => ∃ k : Nat, m' = n - k ∧ k ≤ n ∧ i = .int .i64 (k : Nat) ∧ Hid (HpB wx g (.cells #[.int .i64 pk, .int .i64 by_, .slice sv N cv, .int .i64 (lensL (L.drop k) : Nat)] 140)) ∧ Hid (EQ IB 158 wx base (.slice sv N cv) N L) ∧ Hid (Still [g] w wx))
 case atStart => exact ⟨0, by omega, by omega, rfl, by rw [List.drop_zero]; exact hC, hQ, Still.refl _ _⟩
 case round =>
  clear hQ hC
  obtain ⟨k, rfl, hk, rfl, C, Q, TS⟩ := hrel
  by_cases hkn : k < n
  ·have d : decide ((k : Int) < (n : Int)) = true := by simp; omega
   have hkL : k < L.length := by rw [hlen.out]; omega
   obtain ⟨g1, o1, rfl, hce⟩ := pk_form Q.out (by omega)
   obtain ⟨u, z0, z1, hu⟩ := hce k hkL
   obtain ⟨su, cu, rfl, hx1, hx2⟩ := hu.len
   have hd1 := hds.out k hkL
   have hd2 := hdr.out k
   clear hx1 hx2 hce hu
   generalize (L[k]'hkL).2.length = bl at *
   generalize cl L k = c at *
   generalize hl0 : lensL (L.drop k) = l0 at *
   generalize hl1 : lensL (L.drop (k + 1)) = l1 at *
   obtain ⟨wq, rfl⟩ : ∃ y, y = wr := ⟨_, rfl⟩
   replace hl0 := Lib.hid hl0
   replace hl1 := Lib.hid hl1
   go_upto_region 3 with (fail)
   obtain ⟨w2, hw2⟩ : ∃ w2, w2 = wq.alloc (.cells #[.int .i64 c, .slice su bl cu] 158) := ⟨_, rfl⟩
   have B2 : BW wq w2 := by rw [hw2]; exact (BW.refl wq).alloc
   have X2 : HpB w2 wq.heap.size (.cells #[.int .i64 c, .slice su bl cu] 158) := by rw [hw2]; exact HpB.new _ _
   have x1 : w2.cell? ⟨wq.heap.size, 1, none⟩ = some (.slice su bl cu) := hp_cell X2 1
   rw [← hw2]
   generalize wq.heap.size = xb at *
   have C2 := Lib.hid (C.out.bw B2)
   have y3 : w2.cell? ⟨g, 3, none⟩ = some (.int .i64 (l0 : Nat)) := hp_cell C2.out 3
   have lx := fun x : LaterS [] w2 => x.cell x1 (by simp)
   have ly := fun x : LaterS [] w2 => x.cell y3 (by simp)
   have q1 : IntKind.i64.wrap ((l0 : Int) - (bl : Int)) = (l1 : Int) := by rw [show (l0 : Int) - (bl : Int) = (l1 : Int) by omega]; exact IntWalk.i64_in _ (by omega)
   clear hw2 z0 z1 X2 x1 y3
   replace hd1 := Lib.hid hd1
   replace B2 := Lib.hid B2
   refine wp_region_gg [] [] [10] (by kernel_rfl) ?_
   refine hoist [] [] (a1 := ?_) 0 rfl (by kernel_rfl) (.inl ⟨rfl, rfl⟩) rfl rfl rfl (fun x K hK => ?_) ?_
   rotate_left
   ·go_big_quiet_op
    exact hK
   refine hoist [] [] (a1 := ?_) 1 rfl (by kernel_rfl) (.inl ⟨rfl, rfl⟩) rfl rfl rfl (fun x K hK => ?_) ?_
   rotate_left
   ·go_big_quiet_op
    exact hK
   refine hoist [] [] (a1 := ?_) 2 rfl (by kernel_rfl) (.inl ⟨rfl, rfl⟩) rfl rfl rfl (fun x K hK => ?_) ?_
   rotate_left
   ·go_big_quiet_op
    exact hK
   refine hoist [] [] (a1 := ?_) 3 rfl (by kernel_rfl) (.inl ⟨rfl, rfl⟩) rfl rfl rfl (fun x K hK => ?_) ?_
   rotate_left
   ·go_big_quiet_op
    exact hK
   refine hoist [] [] (a1 := ?_) 4 rfl (by kernel_rfl) (.inl ⟨rfl, rfl⟩) rfl rfl rfl (fun x K hK => ?_) ?_
   rotate_left
   ·go_big_quiet_op
    exact hK
   refine hoist [] [] (a1 := ?_) 5 rfl (by kernel_rfl) (.inl ⟨rfl, rfl⟩) rfl rfl rfl (fun x K hK => ?_) ?_
   rotate_left
   ·go_big_quiet_op
    exact hK
   refine hoist [] [] (a1 := ?_) 6 rfl (by kernel_rfl) (.inl ⟨rfl, rfl⟩) rfl rfl rfl (fun x K hK => ?_) ?_
   rotate_left
   ·go_big_quiet_op
    exact hK
   refine hoist [] [] (a1 := ?_) 7 rfl (by kernel_rfl) (.inl ⟨rfl, rfl⟩) rfl rfl rfl (fun x K hK => ?_) ?_
   rotate_left
   ·go_big_quiet_op
    exact hK
   refine hoist [] [] (a1 := ?_) 8 rfl (by kernel_rfl) (.inl ⟨rfl, rfl⟩) rfl rfl rfl (fun x K hK => ?_) ?_
   rotate_left
   ·go_big_quiet_op
    exact hK
   refine hoist [] [] (a1 := ?_) 9 rfl (by kernel_rfl) (.inl ⟨rfl, rfl⟩) rfl rfl rfl (fun x K hK => ?_) ?_
   rotate_left
   ·go_big_quiet_op
    exact hK
   refine tail 10 rfl (by kernel_rfl) rfl (fun xr => ?_)
   simp only [List.drop_succ_cons, List.drop_zero]
   have B3 := Lib.hid (B2.out.trans xr.bw)
   have C3 := Lib.hid (C.out.bw B3.out)
   have y3 := hp_frz C3.out 3
   have z3 : xr.now.cell? ⟨g, 3, none⟩ = some (.int .i64 (l0 : Nat)) := hp_cell C3.out 3
   have TT := still_setR xr.now g 3 (.int .i64 (l1 : Nat))
   have C4 : Hid (HpB (xr.now.setCell ⟨g, 3, none⟩ (.int .i64 (l1 : Nat))) g (.cells #[.int .i64 pk, .int .i64 by_, .slice (some ⟨g1, o1, none⟩) N cv, .int .i64 (l1 : Nat)] 140)) := Lib.hid (hp_set C3.out 3 _)
   have Q4 := Lib.hid ((Q.out.bw B3.out).still TT (fun j hj => by obtain rfl : j = g := (by simpa using hj); exact .inr ⟨_, _, _, C3.out, by decide⟩) (fun j hj => by have := (Q.out.bw B3.out).ne C3.out (by decide) j hj; simpa using this))
   have TS4 := Lib.hid ((TS.out.trans (B3.out.still [g])).trans TT)
   clear lx ly q1 TT C2 C3 B3 B2 d
   go_wp2_with fail
   go_roundg (n - (k + 1))
   case measure => omega
   case rel => exact ⟨k + 1, rfl, by omega, by push_cast; rfl, by rw [hl1.out]; exact C4, Q4, TS4⟩
  ·obtain rfl : k = n := by omega
   have d : decide ((k : Int) < (k : Int)) = false := by simp
   have z2 : wr.cell? ⟨g, 2, none⟩ = some (.slice sv N cv) := hp_cell C.out 2
   have hcl2 := hcl.out
   have hQd := Q.out.dropN k (by omega)
   have e2 : IB.size = 2 := rfl
   rw [e2] at hQd
   clear e2
   have hb := Nat.le_trans hbase TS.out.size
   have cC := Lib.hid (clonePk_any base _ (N - k) (L.drop k) wr hQd (by omega) hb)
   clear hQd
   go_wp2_with fail
   refine Calls.mono cC.out ?_
   rintro e w5 ⟨v5, rfl, Q5, hF5, hb5⟩
   obtain ⟨s5, c5, rfl, _, _⟩ := Q5.len
   have C5 := Lib.hid (C.out.bw hb5)
   have y2 := hp_frz C5.out 2
   have z2 : w5.cell? ⟨g, 2, none⟩ = some (.slice sv N cv) := hp_cell C5.out 2
   have hQ6 : EQ IB 158 w5 base (.slice s5 (N - k) c5) (L.drop k).length (L.drop k) := Q5.full
   have R6 := Lib.hid (RingV.setV C5.out (.slice s5 (N - k) c5) (L.drop k) rfl hQ6)
   have T6 := Lib.hid ((TS.out.trans (hb5.still [g])).trans (still_setR w5 g 2 (.slice s5 (N - k) c5)))
   have hF6 : ∀ j, (Value.slice s5 (N - k) c5).ownBlock = some j → w.heap.size ≤ j := fun j hj => Nat.le_trans TS.out.size (hF5 j hj)
   clear cC Q5 hF5 hb5 hcl2 d
   replace hQ6 := Lib.hid hQ6
   replace hF6 := Lib.hid hF6
   dsimp only
   go_wp2_with fail
   go_end0
   exact ⟨rfl, ⟨_, R6.out, hF6.out⟩, T6.out⟩
end Go.Proofs.Ytojedpahaifjgaa

namespace Go.Proofs.Ytojedpahaifjgaa
open Go.RowKit
def trimN (pk by_ : Int) : PL → PL
 | [] => []
 | p :: L => if pk < ((L.length + 1 : Nat) : Int) ∨ by_ < ((lensL (p :: L) : Nat) : Int) then trimN pk by_ L else p :: L
def insN (L : PL) (x : Int) (b : List Nat) : PL := L.take (lowN L x) ++ [(x, b)] ++ L.drop (lowN L x)
def putN (pk by_ : Int) (L : PL) (x : Int) (b : List Nat) : Nat × PL :=
 if x < 0 then (1, L) else if by_ < (b.length : Nat) then (8, L) else if isAt L x = true ∨ (lowN L x = 0 ∧ (L.length : Int) = pk) then (5, L)
 else (0, trimN pk by_ (insN L x b))
theorem lowN_le (L : PL) (x : Int) : lowN L x ≤ L.length := by
 unfold lowN
 exact (List.takeWhile_sublist _).length_le
theorem insN_len (L : PL) (x : Int) (b : List Nat) : (insN L x b).length = L.length + 1 := by
 unfold insN
 have := lowN_le L x
 rw [List.length_append, List.length_append, List.length_take, List.length_drop, List.length_singleton]; omega
theorem lensL_app (A B : PL) : lensL (A ++ B) = lensL A + lensL B := by unfold lensL; rw [List.map_append, List.sum_append]
theorem insN_lens (L : PL) (x : Int) (b : List Nat) : lensL (insN L x b) = lensL L + b.length := by
 unfold insN
 rw [lensL_app, lensL_app]
 have h : lensL (L.take (lowN L x)) + lensL (L.drop (lowN L x)) = lensL L := by rw [← lensL_app, List.take_append_drop]
 have h2 : lensL [(x, b)] = b.length := rfl
 omega
def RPutPost (base g : Nat) (pk by_ : Int) (v : Value) (R : Nat × PL) (w : World) (e : Ending) (w' : World) : Prop :=
 e = .returned (.int .i64 (R.1 : Nat)) ∧ (∃ v', RingV w' base g pk by_ v' R.2 ∧ ∀ k, v'.ownBlock = some k → v.ownBlock = some k ∨ w.heap.size ≤ k) ∧ Still (g :: v.ownBlock.toList) w w'
theorem RPutPost.same {base g : Nat} {pk by_ : Int} {v : Value} {L : PL} {w w' : World} {e : Ending} (r : Nat) (h : RingV w base g pk by_ v L) (hb : BW w w') (he : e = .returned (.int .i64 (r : Nat))) : RPutPost base g pk by_ v (r, L) w e w' :=
 ⟨he, ⟨v, h.bw hb, fun k hk => .inl hk⟩, hb.still _⟩
set_option maxRecDepth 100000 in
set_option maxHeartbeats 8000000 in
theorem put_any (base g : Nat) (pk by_ : Int) (v : Value) (L : PL) (x : Int) (bv : Value) (b : List Nat) (w : World) (h : RingV w base g pk by_ v L) (hs : Srt L) (hn : L.length ≤ 100000) (hl : lensL L ≤ 100000000) (hbase : base ≤ w.heap.size)
  (hv : SB w bv b.length b) (hbn : b.length ≤ 100000) (p0 : 1 ≤ pk) (p1 : pk ≤ 9223372036854775807) (y0 : 0 ≤ by_) (y1 : by_ ≤ 9223372036854775807) :
  Calls Try.prog 44 #[.pointer (some ⟨g, 0, none⟩), .int .i64 x, bv] w (RPutPost base g pk by_ v (putN pk by_ L x b) w) := by
 obtain ⟨sb, cb, rfl, hbc, hbm⟩ := hv.len
 unfold maxLen at hbm
 have hH := Lib.hid h
 have hV := Lib.hid hv
 have hgw := HpB.lt h.cells
 clear h hv
 generalize hR : putN pk by_ L x b = R at *
 generalize hnl : b.length = n at *
 replace hR := Lib.hid hR
 replace hnl := Lib.hid hnl
 by_cases hA : x < 0
 ·have d1 : decide (x < 0) = true := by simpa using hA
  have hRR : R = (1, L) := by rw [← hR.out]; unfold putN; rw [if_pos hA]
  replace hRR := Lib.hid hRR
  go_enter Try.func44, Try.ntmps44
  go_wp2_with fail
  go_ret
  rw [hRR.out]
  exact RPutPost.same 1 hH.out (BW.refl _) rfl
 have d1 : decide (x < 0) = false := by simpa using hA
 have z1 : w.cell? ⟨g, 1, none⟩ = some (.int .i64 by_) := hp_cell hH.out.cells 1
 by_cases hC : by_ < n
 ·have d2 : decide (by_ < (n : Int)) = true := by simpa using hC
  have hRR : R = (8, L) := by rw [← hR.out]; unfold putN; rw [if_neg hA, hnl.out, if_pos hC]
  replace hRR := Lib.hid hRR
  go_enter Try.func44, Try.ntmps44
  go_wp2_with fail
  go_ret
  rw [hRR.out]
  exact RPutPost.same 8 hH.out (BW.refl _) rfl
 have d2 : decide (by_ < (n : Int)) = false := by simpa using hC
 have hR2 : (if isAt L x = true ∨ (lowN L x = 0 ∧ (L.length : Int) = pk) then (5, L) else (0, trimN pk by_ (insN L x b))) = R := by
  rw [← hR.out]; unfold putN; rw [if_neg hA, hnl.out, if_neg hC]
 have cF := Lib.hid (find_any base g pk by_ v L x w hH.out hs (by omega))
 replace hR2 := Lib.hid hR2
 go_enter Try.func44, Try.ntmps44
 go_wp2_with fail
 refine Calls.mono cF.out ?_
 rintro e w1 ⟨rfl, hb⟩
 have B1 := Lib.hid hb
 have H1 := Lib.hid (hH.out.bw hb)
 clear hb cF d1 d2 z1
 dsimp only
 obtain ⟨sv, cv, rfl, hnc, hmc⟩ := H1.out.q.len
 unfold maxLen at hmc
 have z2 : w1.cell? ⟨g, 2, none⟩ = some (.slice sv L.length cv) := hp_cell H1.out.cells 2
 have z0 : w1.cell? ⟨g, 0, none⟩ = some (.int .i64 pk) := hp_cell H1.out.cells 0
 have hlow := lowN_le L x
 cases hAt : isAt L x with
 | true =>
  have hRR : R = (5, L) := by rw [← hR2.out, if_pos (.inl hAt)]
  replace hRR := Lib.hid hRR
  replace hAt := Lib.hid hAt
  clear z0 z2
  go_upto_region 6 with (fail)
  refine wp_region_gg [] [] [] (by kernel_rfl) ?_
  refine hoist [] [] (a1 := ?_) 0 rfl (by kernel_rfl) (.inl ⟨rfl, rfl⟩) rfl rfl rfl (fun x K hK => ?_) ?_
  rotate_left
  ·go_big_quiet_op
   exact hK
  refine hoist [] [] (a1 := ?_) 1 rfl (by kernel_rfl) (.inl ⟨rfl, rfl⟩) rfl rfl rfl (fun x K hK => ?_) ?_
  rotate_left
  ·go_big_quiet_op
   exact hK
  refine hoist_skip [] [] 2 rfl (by kernel_rfl) (.inl ⟨rfl, rfl⟩) rfl (a1 := ?_) ?_ ?_
  rotate_left
  ·simp only [Act.put, List.setIfInBounds_toArray, List.set_cons_succ, List.set_cons_zero]; rfl
  refine hoist_skip [] [] 3 rfl (by kernel_rfl) (.inl ⟨rfl, rfl⟩) rfl (a1 := ?_) ?_ ?_
  rotate_left
  ·simp only [Act.put, List.setIfInBounds_toArray, List.set_cons_succ, List.set_cons_zero]; rfl
  refine hoist_skip [] [] 4 rfl (by kernel_rfl) (.inl ⟨rfl, rfl⟩) rfl (a1 := ?_) ?_ ?_
  rotate_left
  ·simp only [Act.put, List.setIfInBounds_toArray, List.set_cons_succ, List.set_cons_zero]; rfl
  refine hoist_skip [] [] 5 rfl (by kernel_rfl) (.inl ⟨rfl, rfl⟩) rfl (a1 := ?_) ?_ ?_
  rotate_left
  ·simp only [Act.put, List.setIfInBounds_toArray, List.set_cons_succ, List.set_cons_zero]; rfl
  refine hoist_skip [] [] 6 rfl (by kernel_rfl) (.inl ⟨rfl, rfl⟩) rfl (a1 := ?_) ?_ ?_
  rotate_left
  ·simp only [Act.put, List.setIfInBounds_toArray, List.set_cons_succ, List.set_cons_zero]; rfl
  refine hoist_skip [] [] 7 rfl (by kernel_rfl) (.inl ⟨rfl, rfl⟩) rfl (a1 := ?_) ?_ ?_
  rotate_left
  ·simp only [Act.put, List.setIfInBounds_toArray, List.set_cons_succ, List.set_cons_zero]; rfl
  refine hoist_skip [] [] 8 rfl (by kernel_rfl) (.inl ⟨rfl, rfl⟩) rfl (a1 := ?_) ?_ ?_
  rotate_left
  ·simp only [Act.put, List.setIfInBounds_toArray, List.set_cons_succ, List.set_cons_zero]; rfl
  refine hoist_skip [] [] 9 rfl (by kernel_rfl) (.inl ⟨rfl, rfl⟩) rfl (a1 := ?_) ?_ ?_
  rotate_left
  ·simp only [Act.put, List.setIfInBounds_toArray, List.set_cons_succ, List.set_cons_zero]; rfl
  refine hoist_skip [] [] 10 rfl (by kernel_rfl) (.inl ⟨rfl, rfl⟩) rfl (a1 := ?_) ?_ ?_
  rotate_left
  ·simp only [Act.put, List.setIfInBounds_toArray, List.set_cons_succ, List.set_cons_zero]; rfl
  refine hoist_skip [] [] 11 rfl (by kernel_rfl) (.inl ⟨rfl, rfl⟩) rfl (a1 := ?_) ?_ ?_
  rotate_left
  ·simp only [Act.put, List.setIfInBounds_toArray, List.set_cons_succ, List.set_cons_zero]; rfl
  refine hoist_skip [] [] 12 rfl (by kernel_rfl) (.inl ⟨rfl, rfl⟩) rfl (a1 := ?_) ?_ ?_
  rotate_left
  ·simp only [Act.put, List.setIfInBounds_toArray, List.set_cons_succ, List.set_cons_zero]; rfl
  refine hoist_skip [] [] 13 rfl (by kernel_rfl) (.inl ⟨rfl, rfl⟩) rfl (a1 := ?_) ?_ ?_
  rotate_left
  ·simp only [Act.put, List.setIfInBounds_toArray, List.set_cons_succ, List.set_cons_zero]; rfl
  refine hoist_skip [] [] 14 rfl (by kernel_rfl) (.inl ⟨rfl, rfl⟩) rfl (a1 := ?_) ?_ ?_
  rotate_left
  ·simp only [Act.put, List.setIfInBounds_toArray, List.set_cons_succ, List.set_cons_zero]; rfl
  refine hoist_skip [] [] 15 rfl (by kernel_rfl) (.inl ⟨rfl, rfl⟩) rfl (a1 := ?_) ?_ ?_
  rotate_left
  ·simp only [Act.put, List.setIfInBounds_toArray, List.set_cons_succ, List.set_cons_zero]; rfl
  refine hoist [] [] (a1 := ?_) 16 rfl (by kernel_rfl) (.inl ⟨rfl, rfl⟩) rfl rfl rfl (fun x K hK => ?_) ?_
  rotate_left
  ·go_big_quiet_op
   exact hK
  refine done (by kernel_rfl) (fun xr => ?_)
  go_wp2_with fail
  go_ret
  rw [hRR.out]
  exact RPutPost.same 5 hH.out (B1.out.trans xr.bw) rfl
 | false =>
  by_cases hk0 : lowN L x = 0
  ·by_cases hfull : (L.length : Int) = pk
   ·have hRR : R = (5, L) := by rw [← hR2.out, if_pos (.inr ⟨hk0, hfull⟩)]
    have d3 : ((lowN L x : Int) == 0) = true := by simp; omega
    have d4 : ((L.length : Int) == pk) = true := by simpa using hfull
    replace hRR := Lib.hid hRR
    replace hAt := Lib.hid hAt
    replace hk0 := Lib.hid hk0
    replace hfull := Lib.hid hfull
    go_upto_region 6 with (fail)
    have l2 := fun y : LaterS [] w1 => y.cell z2 (by simp)
    have l0 := fun y : LaterS [] w1 => y.cell z0 (by simp)
    clear z0 z2
    refine wp_region_gg [] [] [] (by kernel_rfl) ?_
    refine hoist [] [] (a1 := ?_) 0 rfl (by kernel_rfl) (.inl ⟨rfl, rfl⟩) rfl rfl rfl (fun x K hK => ?_) ?_
    rotate_left
    ·go_big_quiet_op
     exact hK
    refine hoist [] [] (a1 := ?_) 1 rfl (by kernel_rfl) (.inl ⟨rfl, rfl⟩) rfl rfl rfl (fun x K hK => ?_) ?_
    rotate_left
    ·go_big_quiet_op
     exact hK
    refine hoist [] [] (a1 := ?_) 2 rfl (by kernel_rfl) (.inl ⟨rfl, rfl⟩) rfl rfl rfl (fun x K hK => ?_) ?_
    rotate_left
    ·go_big_quiet_op
     exact hK
    refine hoist [] [] (a1 := ?_) 3 rfl (by kernel_rfl) (.inl ⟨rfl, rfl⟩) rfl rfl rfl (fun x K hK => ?_) ?_
    rotate_left
    ·go_big_quiet_op
     exact hK
    refine hoist [] [] (a1 := ?_) 4 rfl (by kernel_rfl) (.inl ⟨rfl, rfl⟩) rfl rfl rfl (fun x K hK => ?_) ?_
    rotate_left
    ·go_big_quiet_op
     exact hK
    refine hoist [] [] (a1 := ?_) 5 rfl (by kernel_rfl) (.inl ⟨rfl, rfl⟩) rfl rfl rfl (fun x K hK => ?_) ?_
    rotate_left
    ·go_big_quiet_op
     exact hK
    refine hoist [] [] (a1 := ?_) 6 rfl (by kernel_rfl) (.inl ⟨rfl, rfl⟩) rfl rfl rfl (fun x K hK => ?_) ?_
    rotate_left
    ·go_big_quiet_op
     exact hK
    refine hoist [] [] (a1 := ?_) 7 rfl (by kernel_rfl) (.inl ⟨rfl, rfl⟩) rfl rfl rfl (fun x K hK => ?_) ?_
    rotate_left
    ·go_big_quiet_op
     exact hK
    refine hoist [] [] (a1 := ?_) 8 rfl (by kernel_rfl) (.inl ⟨rfl, rfl⟩) rfl rfl rfl (fun x K hK => ?_) ?_
    rotate_left
    ·go_big_quiet_op
     exact hK
    refine hoist [] [] (a1 := ?_) 9 rfl (by kernel_rfl) (.inl ⟨rfl, rfl⟩) rfl rfl rfl (fun x K hK => ?_) ?_
    rotate_left
    ·go_big_quiet_op
     exact hK
    refine hoist [] [] (a1 := ?_) 10 rfl (by kernel_rfl) (.inl ⟨rfl, rfl⟩) rfl rfl rfl (fun x K hK => ?_) ?_
    rotate_left
    ·go_big_quiet_op
     exact hK
    refine hoist [] [] (a1 := ?_) 11 rfl (by kernel_rfl) (.inl ⟨rfl, rfl⟩) rfl rfl rfl (fun x K hK => ?_) ?_
    rotate_left
    ·go_big_quiet_op
     exact hK
    refine hoist [] [] (a1 := ?_) 12 rfl (by kernel_rfl) (.inl ⟨rfl, rfl⟩) rfl rfl rfl (fun x K hK => ?_) ?_
    rotate_left
    ·go_big_quiet_op
     exact hK
    refine hoist [] [] (a1 := ?_) 13 rfl (by kernel_rfl) (.inl ⟨rfl, rfl⟩) rfl rfl rfl (fun x K hK => ?_) ?_
    rotate_left
    ·go_big_quiet_op
     exact hK
    refine hoist [] [] (a1 := ?_) 14 rfl (by kernel_rfl) (.inl ⟨rfl, rfl⟩) rfl rfl rfl (fun x K hK => ?_) ?_
    rotate_left
    ·go_big_quiet_op
     exact hK
    refine hoist [] [] (a1 := ?_) 15 rfl (by kernel_rfl) (.inl ⟨rfl, rfl⟩) rfl rfl rfl (fun x K hK => ?_) ?_
    rotate_left
    ·go_big_quiet_op
     exact hK
    refine hoist [] [] (a1 := ?_) 16 rfl (by kernel_rfl) (.inl ⟨rfl, rfl⟩) rfl rfl rfl (fun x K hK => ?_) ?_
    rotate_left
    ·go_big_quiet_op
     exact hK
    refine done (by kernel_rfl) (fun xr => ?_)
    go_wp2_with fail
    go_ret
    rw [hRR.out]
    exact RPutPost.same 5 hH.out (B1.out.trans xr.bw) rfl
   ·have hR3 : R = (0, trimN pk by_ (insN L x b)) := by rw [← hR2.out, if_neg (fun h => by rcases h with h | h; rw [hAt] at h; cases h; exact hfull h.2)]
    have d3 : ((lowN L x : Int) == 0) = true := by simp; omega
    have d4 : ((L.length : Int) == pk) = false := by simpa using hfull
    replace hR3 := Lib.hid hR3
    replace hAt := Lib.hid hAt
    replace hk0 := Lib.hid hk0
    replace hfull := Lib.hid hfull
    go_upto_region 6 with (fail)
    have l2 := fun y : LaterS [] w1 => y.cell z2 (by simp)
    have l0 := fun y : LaterS [] w1 => y.cell z0 (by simp)
    clear z0 z2
    refine wp_region_gg [] [] [] (by kernel_rfl) ?_
    refine hoist [] [] (a1 := ?_) 0 rfl (by kernel_rfl) (.inl ⟨rfl, rfl⟩) rfl rfl rfl (fun x K hK => ?_) ?_
    rotate_left
    ·go_big_quiet_op
     exact hK
    refine hoist [] [] (a1 := ?_) 1 rfl (by kernel_rfl) (.inl ⟨rfl, rfl⟩) rfl rfl rfl (fun x K hK => ?_) ?_
    rotate_left
    ·go_big_quiet_op
     exact hK
    refine hoist [] [] (a1 := ?_) 2 rfl (by kernel_rfl) (.inl ⟨rfl, rfl⟩) rfl rfl rfl (fun x K hK => ?_) ?_
    rotate_left
    ·go_big_quiet_op
     exact hK
    refine hoist [] [] (a1 := ?_) 3 rfl (by kernel_rfl) (.inl ⟨rfl, rfl⟩) rfl rfl rfl (fun x K hK => ?_) ?_
    rotate_left
    ·go_big_quiet_op
     exact hK
    refine hoist [] [] (a1 := ?_) 4 rfl (by kernel_rfl) (.inl ⟨rfl, rfl⟩) rfl rfl rfl (fun x K hK => ?_) ?_
    rotate_left
    ·go_big_quiet_op
     exact hK
    refine hoist [] [] (a1 := ?_) 5 rfl (by kernel_rfl) (.inl ⟨rfl, rfl⟩) rfl rfl rfl (fun x K hK => ?_) ?_
    rotate_left
    ·go_big_quiet_op
     exact hK
    refine hoist [] [] (a1 := ?_) 6 rfl (by kernel_rfl) (.inl ⟨rfl, rfl⟩) rfl rfl rfl (fun x K hK => ?_) ?_
    rotate_left
    ·go_big_quiet_op
     exact hK
    refine hoist [] [] (a1 := ?_) 7 rfl (by kernel_rfl) (.inl ⟨rfl, rfl⟩) rfl rfl rfl (fun x K hK => ?_) ?_
    rotate_left
    ·go_big_quiet_op
     exact hK
    refine hoist [] [] (a1 := ?_) 8 rfl (by kernel_rfl) (.inl ⟨rfl, rfl⟩) rfl rfl rfl (fun x K hK => ?_) ?_
    rotate_left
    ·go_big_quiet_op
     exact hK
    refine hoist [] [] (a1 := ?_) 9 rfl (by kernel_rfl) (.inl ⟨rfl, rfl⟩) rfl rfl rfl (fun x K hK => ?_) ?_
    rotate_left
    ·go_big_quiet_op
     exact hK
    refine hoist [] [] (a1 := ?_) 10 rfl (by kernel_rfl) (.inl ⟨rfl, rfl⟩) rfl rfl rfl (fun x K hK => ?_) ?_
    rotate_left
    ·go_big_quiet_op
     exact hK
    refine hoist [] [] (a1 := ?_) 11 rfl (by kernel_rfl) (.inl ⟨rfl, rfl⟩) rfl rfl rfl (fun x K hK => ?_) ?_
    rotate_left
    ·go_big_quiet_op
     exact hK
    refine hoist [] [] (a1 := ?_) 12 rfl (by kernel_rfl) (.inl ⟨rfl, rfl⟩) rfl rfl rfl (fun x K hK => ?_) ?_
    rotate_left
    ·go_big_quiet_op
     exact hK
    refine hoist [] [] (a1 := ?_) 13 rfl (by kernel_rfl) (.inl ⟨rfl, rfl⟩) rfl rfl rfl (fun x K hK => ?_) ?_
    rotate_left
    ·go_big_quiet_op
     exact hK
    refine hoist [] [] (a1 := ?_) 14 rfl (by kernel_rfl) (.inl ⟨rfl, rfl⟩) rfl rfl rfl (fun x K hK => ?_) ?_
    rotate_left
    ·go_big_quiet_op
     exact hK
    refine hoist [] [] (a1 := ?_) 15 rfl (by kernel_rfl) (.inl ⟨rfl, rfl⟩) rfl rfl rfl (fun x K hK => ?_) ?_
    rotate_left
    ·go_big_quiet_op
     exact hK
    refine hoist [] [] (a1 := ?_) 16 rfl (by kernel_rfl) (.inl ⟨rfl, rfl⟩) rfl rfl rfl (fun x K hK => ?_) ?_
    rotate_left
    ·go_big_quiet_op
     exact hK
    refine done (by kernel_rfl) (fun xr => ?_)
    clear d3 d4 l2 l0
    have B2 := Lib.hid (B1.out.trans xr.bw)
    have H2 := Lib.hid (H1.out.bw xr.bw)
    clear B1 H1 hR2 hR
    generalize xr.now = w2 at *
    have z2 : w2.cell? ⟨g, 2, none⟩ = some (.slice sv L.length cv) := hp_cell H2.out.cells 2
    have hgn : g ∉ (Value.slice sv L.length cv).ownBlock.toList := fun hm => H2.out.q.ne H2.out.cells (by decide) g (by simpa using hm) rfl
    have hown : ∀ k, (Value.slice sv L.length cv).ownBlock = some k → k < w.heap.size := fun k hk => hH.out.q.lt' k hk
    have l2 := fun y : LaterS [] w2 => y.cell z2 (by simp)
    have hb2 := Nat.le_trans hbase B2.out.size
    have hsz2 := B2.out.size
    generalize hkk : lowN L x = kk at *
    have hR4 : R = (0, trimN pk by_ (L.take kk ++ [(x, b)] ++ L.drop kk)) := by rw [hR3.out]; unfold insN; rw [hkk]
    have hil := insN_len L x b
    have his := insN_lens L x b
    unfold insN at hil his
    rw [hkk] at hil his
    rw [hnl.out] at his
    clear z2 hkk hR3
    replace hown := Lib.hid hown
    replace hgn := Lib.hid hgn
    replace hR4 := Lib.hid hR4
    replace hil := Lib.hid hil
    replace his := Lib.hid his
    go_upto_region 8 with (fail)
    refine wp_region_gg ((Value.slice sv L.length cv).ownBlock.toList) [11] [12] (by kernel_rfl) ?_
    refine hoist ((Value.slice sv L.length cv).ownBlock.toList) [] (a1 := ?_) 0 rfl (by kernel_rfl) (.inr rfl) rfl rfl rfl (fun x K hK => ?_) ?_
    rotate_left
    ·go_big_quiet_op
     exact hK
    refine hoist [] [11] (a1 := ?_) 1 rfl (by kernel_rfl) (.inl ⟨rfl, rfl⟩) rfl rfl rfl (fun x K hK => ?_) ?_
    rotate_left
    ·go_big_quiet_op
     exact hK
    refine hoist [] [11] (a1 := ?_) 2 rfl (by kernel_rfl) (.inl ⟨rfl, rfl⟩) rfl rfl rfl (fun x K hK => ?_) ?_
    rotate_left
    ·go_big_quiet_op
     exact hK
    refine hoist [] [11] (a1 := ?_) 3 rfl (by kernel_rfl) (.inl ⟨rfl, rfl⟩) rfl rfl rfl (fun x K hK => ?_) ?_
    rotate_left
    ·go_big_quiet_op
     exact hK
    refine hoist [] [11] (a1 := ?_) 4 rfl (by kernel_rfl) (.inl ⟨rfl, rfl⟩) rfl rfl rfl (fun x K hK => ?_) ?_
    rotate_left
    ·go_big_quiet_op
     exact hK
    refine hoist [] [11] (a1 := ?_) 5 rfl (by kernel_rfl) (.inl ⟨rfl, rfl⟩) rfl rfl rfl (fun x K hK => ?_) ?_
    rotate_left
    ·go_big_quiet_op
     exact hK
    refine hoist [] [11] (a1 := ?_) 6 rfl (by kernel_rfl) (.inl ⟨rfl, rfl⟩) rfl rfl rfl (fun x K hK => ?_) ?_
    rotate_left
    ·go_big_quiet_op
     exact hK
    refine hoist [] [11] (a1 := ?_) 7 rfl (by kernel_rfl) (.inl ⟨rfl, rfl⟩) rfl rfl rfl (fun x K hK => ?_) ?_
    rotate_left
    ·go_big_quiet_op
     exact hK
    refine effect 8 rfl (by kernel_rfl) (by kernel_rfl) rfl (fun x8 K hK => ?_)
    go_simp
    refine Calls.mono (clone_ok sb n cb b (by omega) x8.now (hV.out.bw (B2.out.trans x8.bw))) ?_
    rintro e wa ⟨va, rfl, Oa, hb⟩
    obtain ⟨s8, c8, rfl, _, _⟩ := Oa.len
    refine hK _ _ (Still.of_below hb) ?_
    clear hK K l2
    have Wa := Lib.hid (BW.call x8.bw hb)
    have Oa2 := Lib.hid (Oa.up (Nat.le_trans hb2 x8.bw.size))
    clear hb Oa
    try simp only [Act.put, List.setIfInBounds_toArray, List.set_cons_succ, List.set_cons_zero]
    refine hoist [] [11] (a1 := ?_) 9 rfl (by kernel_rfl) (.inl ⟨rfl, rfl⟩) rfl rfl rfl (fun x K hK => ?_) ?_
    rotate_left
    ·go_big_quiet_op
     exact hK
    refine effect 10 rfl (by kernel_rfl) (by kernel_rfl) rfl (fun x10 K hK => ?_)
    go_simp
    refine hK _ _ (Still.of_below ((Below.refl _ _).alloc (Nat.le_refl _) _)) ?_
    clear hK K
    have hb := x10.bw.trans ((BW.refl x10.now).alloc (o := .cells #[.int .i64 x, .slice s8 n c8] 158))
    have X10 := Lib.hid (HpB.new x10.now (.cells #[.int .i64 x, .slice s8 n c8] 158))
    have Wb := Lib.hid (Wa.out.trans hb)
    have Ob := Lib.hid (Oa2.out.bw hb)
    have hxb := Nat.le_trans hsz2 (Nat.le_trans Wa.out.size x10.bw.size)
    clear hb Wa Oa2
    generalize x10.now.alloc (.cells #[.int .i64 x, .slice s8 n c8] 158) = w10 at *
    generalize x10.now.heap.size = xb at *
    try simp only [Act.put, List.setIfInBounds_toArray, List.set_cons_succ, List.set_cons_zero]
    refine effect 11 rfl (by kernel_rfl) (by kernel_rfl) rfl (fun x11 K hK => ?_)
    go_simp
    have hbx := Wb.out.trans x11.bw
    have hq := H2.out.q.bw hbx
    have hOb : OB x11.now base 5 (.slice s8 n c8) b.length b := by rw [hnl.out]; exact Ob.out.bw x11.bw
    refine Calls.mono (insert_pk IB rfl slPk (by decide) base (.slice sv L.length cv) L.length kk L (x, b) [.int .i64 x, .slice s8 n c8] xb x11.now hq (X10.out.bw x11.bw) ⟨_, rfl, hOb⟩ (fun k hk => by have := hown.out k hk; omega) hlow (by omega) (Nat.le_trans hb2 hbx.size) (hq.noB (by decide))) ?_
    rintro e w11 ⟨s11, c11, rfl, Q11, G11, T11⟩
    refine hK _ _ T11 ?_
    clear hK K
    have C11 := Lib.hid ((H2.out.cells.bw hbx).st T11 hgn.out)
    have TS11 := Lib.hid (((B2.out.trans hbx).still (g :: (Value.slice sv L.length cv).ownBlock.toList)).trans (T11.weaken (fun k hk => List.mem_cons_of_mem _ hk)))
    have G12 : ∀ k, (Value.slice s11 (L.length + 1) c11).ownBlock = some k → (Value.slice sv L.length cv).ownBlock = some k ∨ w.heap.size ≤ k := fun k hk => by
     rcases G11 k hk with h | h
     ·exact .inl h
     ·exact .inr (Nat.le_trans (B2.out.trans hbx).size h)
    clear hbx hq hOb G11 T11 Wb Ob X10
    replace Q11 := Lib.hid Q11
    replace G12 := Lib.hid G12
    try simp only [Act.put, List.setIfInBounds_toArray, List.set_cons_succ, List.set_cons_zero]
    refine tail 12 rfl (by kernel_rfl) rfl (fun xr => ?_)
    simp only [List.drop_succ_cons, List.drop_zero]
    have C12 := Lib.hid (C11.out.bw xr.bw)
    have Q12 := Lib.hid (Q11.out.bw xr.bw)
    have TS12 := Lib.hid (TS11.out.trans (xr.bw.still _))
    clear C11 Q11 TS11
    generalize xr.now = w12 at *
    have y2 := hp_frz C12.out 2
    have z2 : w12.cell? ⟨g, 2, none⟩ = some (.slice sv L.length cv) := hp_cell C12.out 2
    have z3 : w12.cell? ⟨g, 3, none⟩ = some (.int .i64 (lensL L : Nat)) := hp_cell C12.out 3
    have y3 := hp_frz C12.out 3
    have q1 : IntKind.i64.wrap ((lensL L : Int) + (n : Int)) = ((lensL L + n : Nat) : Int) := by rw [show ((lensL L + n : Nat) : Int) = (lensL L : Int) + (n : Int) by push_cast; rfl]; exact IntWalk.i64_in _ (by omega)
    have T13 := still_setR w12 g 2 (.slice s11 (L.length + 1) c11)
    have C13 : HpB (w12.setCell ⟨g, 2, none⟩ (.slice s11 (L.length + 1) c11)) g (.cells #[.int .i64 pk, .int .i64 by_, .slice s11 (L.length + 1) c11, .int .i64 (lensL L : Nat)] 140) := hp_set C12.out 2 _
    have Q13 := Q12.out.still T13 (fun j hj => by obtain rfl : j = g := (by simpa using hj); exact .inr ⟨_, _, _, C12.out, by decide⟩) (fun j hj => by have := Q12.out.ne C12.out (by decide) j hj; simpa using this)
    have T14 := still_setR (w12.setCell ⟨g, 2, none⟩ (.slice s11 (L.length + 1) c11)) g 3 (.int .i64 ((lensL L + n : Nat) : Int))
    have C14 : HpB ((w12.setCell ⟨g, 2, none⟩ (.slice s11 (L.length + 1) c11)).setCell ⟨g, 3, none⟩ (.int .i64 ((lensL L + n : Nat) : Int))) g (.cells #[.int .i64 pk, .int .i64 by_, .slice s11 (L.length + 1) c11, .int .i64 ((lensL L + n : Nat) : Int)] 140) := hp_set C13 3 _
    have Q14 := Q13.still T14 (fun j hj => by obtain rfl : j = g := (by simpa using hj); exact .inr ⟨_, _, _, C13, by decide⟩) (fun j hj => by have := Q13.ne C13 (by decide) j hj; simpa using this)
    have H14 : Hid (RingV ((w12.setCell ⟨g, 2, none⟩ (.slice s11 (L.length + 1) c11)).setCell ⟨g, 3, none⟩ (.int .i64 ((lensL L + n : Nat) : Int))) base g pk by_ (.slice s11 (L.length + 1) c11) (L.take kk ++ [(x, b)] ++ L.drop kk)) := Lib.hid ⟨by rw [his.out]; exact C14, Q14.full⟩
    have TS14 := Lib.hid ((TS12.out.trans (T13.weaken (by simp))).trans (T14.weaken (by simp)))
    clear T13 C13 Q13 T14 C14 Q14 C12 Q12 TS12
    rw [show ((lensL L + n : Nat) : Int) = (lensL L : Int) + (n : Int) from by push_cast; rfl] at H14 TS14 q1
    go_upto_region 10 with (fail)
    generalize (w12.setCell ⟨g, 2, none⟩ (.slice s11 (L.length + 1) c11)).setCell ⟨g, 3, none⟩ (.int .i64 ((lensL L : Int) + (n : Int))) = w14 at *
    clear z2 z3 y2 y3 q1
    have hil2 := hil.out
    have his2 := his.out
    generalize hLI : L.take kk ++ [(x, b)] ++ L.drop kk = LI at *
    clear hil his
    replace hLI := Lib.hid hLI
    go_loopg [] LI.length (fun m' wx => ∃ (v' : Value) (L' : PL), m' = L'.length ∧ Hid (R = (0, trimN pk by_ L')) ∧ L'.length ≤ LI.length ∧ lensL L' ≤ lensL LI ∧ Hid (RingV wx base g pk by_ v' L') ∧ Hid (∀ k, v'.ownBlock = some k → (Value.slice sv L.length cv).ownBlock = some k ∨ w.heap.size ≤ k) ∧ Hid (Still (g :: (Value.slice sv L.length cv).ownBlock.toList) w wx))
    case atStart => exact ⟨_, LI, rfl, hR4, Nat.le_refl _, Nat.le_refl _, H14, G12, TS14⟩
    case round =>
     clear H14 TS14 G12 hR4
     obtain ⟨v', L', rfl, hR4, hl', hs', HR, hF, TS⟩ := hrel
     obtain ⟨s', c', rfl, hn', hm'⟩ := HR.out.q.len
     unfold maxLen at hm'
     have z0 : wr.cell? ⟨g, 0, none⟩ = some (.int .i64 pk) := hp_cell HR.out.cells 0
     have z1 : wr.cell? ⟨g, 1, none⟩ = some (.int .i64 by_) := hp_cell HR.out.cells 1
     have z2 : wr.cell? ⟨g, 2, none⟩ = some (.slice s' L'.length c') := hp_cell HR.out.cells 2
     have z3 : wr.cell? ⟨g, 3, none⟩ = some (.int .i64 (lensL L' : Nat)) := hp_cell HR.out.cells 3
     have l0 := fun y : LaterS [] wr => y.cell z0 (by simp)
     have l1 := fun y : LaterS [] wr => y.cell z1 (by simp)
     have l2 := fun y : LaterS [] wr => y.cell z2 (by simp)
     have l3 := fun y : LaterS [] wr => y.cell z3 (by simp)
     clear z0 z1 z2 z3
     by_cases hmore : pk < (L'.length : Int) ∨ by_ < (lensL L' : Int)
     ·have hne : 1 ≤ L'.length := by
       cases L' with
       | nil => exfalso; have : lensL ([] : PL) = 0 := rfl; simp at hmore; omega
       | cons p L' => simp
      have hd := List.length_drop (i := 1) (l := L')
      have hdl := lensL_drop_le L' 1
      have hR5 : R = (0, trimN pk by_ (L'.drop 1)) := by
       rw [hR4.out]
       cases L' with
       | nil => simp at hne
       | cons p L' =>
        conv => lhs; unfold trimN
        rw [if_pos (by simpa using hmore)]; rfl
      have hbR := Nat.le_trans hbase TS.out.size
      replace hR5 := Lib.hid hR5
      replace hR4 := Lib.hid hR4
      have key : ∀ wz, BW wr wz → Hid (Calls Try.prog 81 #[.pointer (some ⟨g, 0, none⟩), .int .i64 1] wz fun e w' => e = .returned (.tuple #[]) ∧ (∃ v', RingV w' base g pk by_ v' (L'.drop 1) ∧ ∀ k, v'.ownBlock = some k → wz.heap.size ≤ k) ∧ Still [g] wz w') := fun wz hb => Lib.hid (cut_any base g pk by_ _ L' 1 wz (HR.out.bw hb) (by omega) (by omega) hne (Nat.le_trans hbR hb.size))
      by_cases hm1 : pk < (L'.length : Int)
      ·have d1 : decide (pk < (L'.length : Int)) = true := by simpa using hm1
       replace hm1 := Lib.hid hm1
       replace hmore := Lib.hid hmore
       go_upto_region 10 with (fail)
       refine wp_region_gg [] [] [] (by kernel_rfl) ?_
       refine hoist [] [] (a1 := ?_) 0 rfl (by kernel_rfl) (.inl ⟨rfl, rfl⟩) rfl rfl rfl (fun x K hK => ?_) ?_
       rotate_left
       ·go_big_quiet_op
        exact hK
       refine hoist [] [] (a1 := ?_) 1 rfl (by kernel_rfl) (.inl ⟨rfl, rfl⟩) rfl rfl rfl (fun x K hK => ?_) ?_
       rotate_left
       ·go_big_quiet_op
        exact hK
       refine hoist [] [] (a1 := ?_) 2 rfl (by kernel_rfl) (.inl ⟨rfl, rfl⟩) rfl rfl rfl (fun x K hK => ?_) ?_
       rotate_left
       ·go_big_quiet_op
        exact hK
       refine hoist [] [] (a1 := ?_) 3 rfl (by kernel_rfl) (.inl ⟨rfl, rfl⟩) rfl rfl rfl (fun x K hK => ?_) ?_
       rotate_left
       ·go_big_quiet_op
        exact hK
       refine hoist [] [] (a1 := ?_) 4 rfl (by kernel_rfl) (.inl ⟨rfl, rfl⟩) rfl rfl rfl (fun x K hK => ?_) ?_
       rotate_left
       ·go_big_quiet_op
        exact hK
       refine hoist [] [] (a1 := ?_) 5 rfl (by kernel_rfl) (.inl ⟨rfl, rfl⟩) rfl rfl rfl (fun x K hK => ?_) ?_
       rotate_left
       ·go_big_quiet_op
        exact hK
       refine hoist [] [] (a1 := ?_) 6 rfl (by kernel_rfl) (.inl ⟨rfl, rfl⟩) rfl rfl rfl (fun x K hK => ?_) ?_
       rotate_left
       ·go_big_quiet_op
        exact hK
       refine hoist [] [] (a1 := ?_) 7 rfl (by kernel_rfl) (.inl ⟨rfl, rfl⟩) rfl rfl rfl (fun x K hK => ?_) ?_
       rotate_left
       ·go_big_quiet_op
        exact hK
       refine hoist [] [] (a1 := ?_) 8 rfl (by kernel_rfl) (.inl ⟨rfl, rfl⟩) rfl rfl rfl (fun x K hK => ?_) ?_
       rotate_left
       ·go_big_quiet_op
        exact hK
       refine hoist [] [] (a1 := ?_) 9 rfl (by kernel_rfl) (.inl ⟨rfl, rfl⟩) rfl rfl rfl (fun x K hK => ?_) ?_
       rotate_left
       ·go_big_quiet_op
        exact hK
       refine hoist [] [] (a1 := ?_) 10 rfl (by kernel_rfl) (.inl ⟨rfl, rfl⟩) rfl rfl rfl (fun x K hK => ?_) ?_
       rotate_left
       ·go_big_quiet_op
        exact hK
       refine hoist_skip [] [] 11 rfl (by kernel_rfl) (.inl ⟨rfl, rfl⟩) rfl (a1 := ?_) ?_ ?_
       rotate_left
       ·simp only [Act.put, List.setIfInBounds_toArray, List.set_cons_succ, List.set_cons_zero]; rfl
       refine hoist_skip [] [] 12 rfl (by kernel_rfl) (.inl ⟨rfl, rfl⟩) rfl (a1 := ?_) ?_ ?_
       rotate_left
       ·simp only [Act.put, List.setIfInBounds_toArray, List.set_cons_succ, List.set_cons_zero]; rfl
       refine hoist_skip [] [] 13 rfl (by kernel_rfl) (.inl ⟨rfl, rfl⟩) rfl (a1 := ?_) ?_ ?_
       rotate_left
       ·simp only [Act.put, List.setIfInBounds_toArray, List.set_cons_succ, List.set_cons_zero]; rfl
       refine hoist_skip [] [] 14 rfl (by kernel_rfl) (.inl ⟨rfl, rfl⟩) rfl (a1 := ?_) ?_ ?_
       rotate_left
       ·simp only [Act.put, List.setIfInBounds_toArray, List.set_cons_succ, List.set_cons_zero]; rfl
       refine hoist_skip [] [] 15 rfl (by kernel_rfl) (.inl ⟨rfl, rfl⟩) rfl (a1 := ?_) ?_ ?_
       rotate_left
       ·simp only [Act.put, List.setIfInBounds_toArray, List.set_cons_succ, List.set_cons_zero]; rfl
       refine hoist_skip [] [] 16 rfl (by kernel_rfl) (.inl ⟨rfl, rfl⟩) rfl (a1 := ?_) ?_ ?_
       rotate_left
       ·simp only [Act.put, List.setIfInBounds_toArray, List.set_cons_succ, List.set_cons_zero]; rfl
       refine hoist_skip [] [] 17 rfl (by kernel_rfl) (.inl ⟨rfl, rfl⟩) rfl (a1 := ?_) ?_ ?_
       rotate_left
       ·simp only [Act.put, List.setIfInBounds_toArray, List.set_cons_succ, List.set_cons_zero]; rfl
       refine hoist_skip [] [] 18 rfl (by kernel_rfl) (.inl ⟨rfl, rfl⟩) rfl (a1 := ?_) ?_ ?_
       rotate_left
       ·simp only [Act.put, List.setIfInBounds_toArray, List.set_cons_succ, List.set_cons_zero]; rfl
       refine hoist_skip [] [] 19 rfl (by kernel_rfl) (.inl ⟨rfl, rfl⟩) rfl (a1 := ?_) ?_ ?_
       rotate_left
       ·simp only [Act.put, List.setIfInBounds_toArray, List.set_cons_succ, List.set_cons_zero]; rfl
       refine hoist [] [] (a1 := ?_) 20 rfl (by kernel_rfl) (.inl ⟨rfl, rfl⟩) rfl rfl rfl (fun x K hK => ?_) ?_
       rotate_left
       ·go_big_quiet_op
        exact hK
       refine done (by kernel_rfl) (fun xr => ?_)
       have cC := key xr.now xr.bw
       clear d1 l0 l1 l2 l3 key
       go_wp2_with fail
       refine Calls.mono cC.out ?_
       rintro e w20 ⟨rfl, ⟨v20, H20, hF20⟩, T20⟩
       have TS20 := Lib.hid ((TS.out.trans (xr.bw.still _)).trans (T20.weaken (by simp)))
       have hF21 : ∀ k, v20.ownBlock = some k → (Value.slice sv L.length cv).ownBlock = some k ∨ w.heap.size ≤ k := fun k hk => .inr (Nat.le_trans (Nat.le_trans TS.out.size xr.bw.size) (hF20 k hk))
       replace hF21 := Lib.hid hF21
       replace H20 := Lib.hid H20
       clear cC hF20 T20
       dsimp only
       go_wp2_with fail
       go_roundg (L'.drop 1).length
       case measure => omega
       case rel => exact ⟨v20, L'.drop 1, rfl, hR5, by omega, by omega, H20, hF21, TS20⟩
      ·have d1 : decide (pk < (L'.length : Int)) = false := by simpa using hm1
       have d2 : decide (by_ < (lensL L' : Int)) = true := by simp; omega
       replace hm1 := Lib.hid hm1
       replace hmore := Lib.hid hmore
       go_upto_region 10 with (fail)
       refine wp_region_gg [] [] [] (by kernel_rfl) ?_
       refine hoist [] [] (a1 := ?_) 0 rfl (by kernel_rfl) (.inl ⟨rfl, rfl⟩) rfl rfl rfl (fun x K hK => ?_) ?_
       rotate_left
       ·go_big_quiet_op
        exact hK
       refine hoist [] [] (a1 := ?_) 1 rfl (by kernel_rfl) (.inl ⟨rfl, rfl⟩) rfl rfl rfl (fun x K hK => ?_) ?_
       rotate_left
       ·go_big_quiet_op
        exact hK
       refine hoist [] [] (a1 := ?_) 2 rfl (by kernel_rfl) (.inl ⟨rfl, rfl⟩) rfl rfl rfl (fun x K hK => ?_) ?_
       rotate_left
       ·go_big_quiet_op
        exact hK
       refine hoist [] [] (a1 := ?_) 3 rfl (by kernel_rfl) (.inl ⟨rfl, rfl⟩) rfl rfl rfl (fun x K hK => ?_) ?_
       rotate_left
       ·go_big_quiet_op
        exact hK
       refine hoist [] [] (a1 := ?_) 4 rfl (by kernel_rfl) (.inl ⟨rfl, rfl⟩) rfl rfl rfl (fun x K hK => ?_) ?_
       rotate_left
       ·go_big_quiet_op
        exact hK
       refine hoist [] [] (a1 := ?_) 5 rfl (by kernel_rfl) (.inl ⟨rfl, rfl⟩) rfl rfl rfl (fun x K hK => ?_) ?_
       rotate_left
       ·go_big_quiet_op
        exact hK
       refine hoist [] [] (a1 := ?_) 6 rfl (by kernel_rfl) (.inl ⟨rfl, rfl⟩) rfl rfl rfl (fun x K hK => ?_) ?_
       rotate_left
       ·go_big_quiet_op
        exact hK
       refine hoist [] [] (a1 := ?_) 7 rfl (by kernel_rfl) (.inl ⟨rfl, rfl⟩) rfl rfl rfl (fun x K hK => ?_) ?_
       rotate_left
       ·go_big_quiet_op
        exact hK
       refine hoist [] [] (a1 := ?_) 8 rfl (by kernel_rfl) (.inl ⟨rfl, rfl⟩) rfl rfl rfl (fun x K hK => ?_) ?_
       rotate_left
       ·go_big_quiet_op
        exact hK
       refine hoist [] [] (a1 := ?_) 9 rfl (by kernel_rfl) (.inl ⟨rfl, rfl⟩) rfl rfl rfl (fun x K hK => ?_) ?_
       rotate_left
       ·go_big_quiet_op
        exact hK
       refine hoist [] [] (a1 := ?_) 10 rfl (by kernel_rfl) (.inl ⟨rfl, rfl⟩) rfl rfl rfl (fun x K hK => ?_) ?_
       rotate_left
       ·go_big_quiet_op
        exact hK
       refine hoist [] [] (a1 := ?_) 11 rfl (by kernel_rfl) (.inl ⟨rfl, rfl⟩) rfl rfl rfl (fun x K hK => ?_) ?_
       rotate_left
       ·go_big_quiet_op
        exact hK
       refine hoist [] [] (a1 := ?_) 12 rfl (by kernel_rfl) (.inl ⟨rfl, rfl⟩) rfl rfl rfl (fun x K hK => ?_) ?_
       rotate_left
       ·go_big_quiet_op
        exact hK
       refine hoist [] [] (a1 := ?_) 13 rfl (by kernel_rfl) (.inl ⟨rfl, rfl⟩) rfl rfl rfl (fun x K hK => ?_) ?_
       rotate_left
       ·go_big_quiet_op
        exact hK
       refine hoist [] [] (a1 := ?_) 14 rfl (by kernel_rfl) (.inl ⟨rfl, rfl⟩) rfl rfl rfl (fun x K hK => ?_) ?_
       rotate_left
       ·go_big_quiet_op
        exact hK
       refine hoist [] [] (a1 := ?_) 15 rfl (by kernel_rfl) (.inl ⟨rfl, rfl⟩) rfl rfl rfl (fun x K hK => ?_) ?_
       rotate_left
       ·go_big_quiet_op
        exact hK
       refine hoist [] [] (a1 := ?_) 16 rfl (by kernel_rfl) (.inl ⟨rfl, rfl⟩) rfl rfl rfl (fun x K hK => ?_) ?_
       rotate_left
       ·go_big_quiet_op
        exact hK
       refine hoist [] [] (a1 := ?_) 17 rfl (by kernel_rfl) (.inl ⟨rfl, rfl⟩) rfl rfl rfl (fun x K hK => ?_) ?_
       rotate_left
       ·go_big_quiet_op
        exact hK
       refine hoist [] [] (a1 := ?_) 18 rfl (by kernel_rfl) (.inl ⟨rfl, rfl⟩) rfl rfl rfl (fun x K hK => ?_) ?_
       rotate_left
       ·go_big_quiet_op
        exact hK
       refine hoist [] [] (a1 := ?_) 19 rfl (by kernel_rfl) (.inl ⟨rfl, rfl⟩) rfl rfl rfl (fun x K hK => ?_) ?_
       rotate_left
       ·go_big_quiet_op
        exact hK
       refine hoist [] [] (a1 := ?_) 20 rfl (by kernel_rfl) (.inl ⟨rfl, rfl⟩) rfl rfl rfl (fun x K hK => ?_) ?_
       rotate_left
       ·go_big_quiet_op
        exact hK
       refine done (by kernel_rfl) (fun xr => ?_)
       clear d2
       have cC := key xr.now xr.bw
       clear d1 l0 l1 l2 l3 key
       go_wp2_with fail
       refine Calls.mono cC.out ?_
       rintro e w20 ⟨rfl, ⟨v20, H20, hF20⟩, T20⟩
       have TS20 := Lib.hid ((TS.out.trans (xr.bw.still _)).trans (T20.weaken (by simp)))
       have hF21 : ∀ k, v20.ownBlock = some k → (Value.slice sv L.length cv).ownBlock = some k ∨ w.heap.size ≤ k := fun k hk => .inr (Nat.le_trans (Nat.le_trans TS.out.size xr.bw.size) (hF20 k hk))
       replace hF21 := Lib.hid hF21
       replace H20 := Lib.hid H20
       clear cC hF20 T20
       dsimp only
       go_wp2_with fail
       go_roundg (L'.drop 1).length
       case measure => omega
       case rel => exact ⟨v20, L'.drop 1, rfl, hR5, by omega, by omega, H20, hF21, TS20⟩
     ·have d1 : decide (pk < (L'.length : Int)) = false := by simp; omega
      have d2 : decide (by_ < (lensL L' : Int)) = false := by simp; omega
      have hR5 : R = (0, L') := by
       rw [hR4.out]
       cases L' with
       | nil => rfl
       | cons p L' =>
        unfold trimN
        rw [if_neg (by simpa using hmore)]
      replace hR5 := Lib.hid hR5
      replace hR4 := Lib.hid hR4
      replace hmore := Lib.hid hmore
      go_upto_region 10 with (fail)
      refine wp_region_gg [] [] [] (by kernel_rfl) ?_
      refine hoist [] [] (a1 := ?_) 0 rfl (by kernel_rfl) (.inl ⟨rfl, rfl⟩) rfl rfl rfl (fun x K hK => ?_) ?_
      rotate_left
      ·go_big_quiet_op
       exact hK
      refine hoist [] [] (a1 := ?_) 1 rfl (by kernel_rfl) (.inl ⟨rfl, rfl⟩) rfl rfl rfl (fun x K hK => ?_) ?_
      rotate_left
      ·go_big_quiet_op
       exact hK
      refine hoist [] [] (a1 := ?_) 2 rfl (by kernel_rfl) (.inl ⟨rfl, rfl⟩) rfl rfl rfl (fun x K hK => ?_) ?_
      rotate_left
      ·go_big_quiet_op
       exact hK
      refine hoist [] [] (a1 := ?_) 3 rfl (by kernel_rfl) (.inl ⟨rfl, rfl⟩) rfl rfl rfl (fun x K hK => ?_) ?_
      rotate_left
      ·go_big_quiet_op
       exact hK
      refine hoist [] [] (a1 := ?_) 4 rfl (by kernel_rfl) (.inl ⟨rfl, rfl⟩) rfl rfl rfl (fun x K hK => ?_) ?_
      rotate_left
      ·go_big_quiet_op
       exact hK
      refine hoist [] [] (a1 := ?_) 5 rfl (by kernel_rfl) (.inl ⟨rfl, rfl⟩) rfl rfl rfl (fun x K hK => ?_) ?_
      rotate_left
      ·go_big_quiet_op
       exact hK
      refine hoist [] [] (a1 := ?_) 6 rfl (by kernel_rfl) (.inl ⟨rfl, rfl⟩) rfl rfl rfl (fun x K hK => ?_) ?_
      rotate_left
      ·go_big_quiet_op
       exact hK
      refine hoist [] [] (a1 := ?_) 7 rfl (by kernel_rfl) (.inl ⟨rfl, rfl⟩) rfl rfl rfl (fun x K hK => ?_) ?_
      rotate_left
      ·go_big_quiet_op
       exact hK
      refine hoist [] [] (a1 := ?_) 8 rfl (by kernel_rfl) (.inl ⟨rfl, rfl⟩) rfl rfl rfl (fun x K hK => ?_) ?_
      rotate_left
      ·go_big_quiet_op
       exact hK
      refine hoist [] [] (a1 := ?_) 9 rfl (by kernel_rfl) (.inl ⟨rfl, rfl⟩) rfl rfl rfl (fun x K hK => ?_) ?_
      rotate_left
      ·go_big_quiet_op
       exact hK
      refine hoist [] [] (a1 := ?_) 10 rfl (by kernel_rfl) (.inl ⟨rfl, rfl⟩) rfl rfl rfl (fun x K hK => ?_) ?_
      rotate_left
      ·go_big_quiet_op
       exact hK
      refine hoist [] [] (a1 := ?_) 11 rfl (by kernel_rfl) (.inl ⟨rfl, rfl⟩) rfl rfl rfl (fun x K hK => ?_) ?_
      rotate_left
      ·go_big_quiet_op
       exact hK
      refine hoist [] [] (a1 := ?_) 12 rfl (by kernel_rfl) (.inl ⟨rfl, rfl⟩) rfl rfl rfl (fun x K hK => ?_) ?_
      rotate_left
      ·go_big_quiet_op
       exact hK
      refine hoist [] [] (a1 := ?_) 13 rfl (by kernel_rfl) (.inl ⟨rfl, rfl⟩) rfl rfl rfl (fun x K hK => ?_) ?_
      rotate_left
      ·go_big_quiet_op
       exact hK
      refine hoist [] [] (a1 := ?_) 14 rfl (by kernel_rfl) (.inl ⟨rfl, rfl⟩) rfl rfl rfl (fun x K hK => ?_) ?_
      rotate_left
      ·go_big_quiet_op
       exact hK
      refine hoist [] [] (a1 := ?_) 15 rfl (by kernel_rfl) (.inl ⟨rfl, rfl⟩) rfl rfl rfl (fun x K hK => ?_) ?_
      rotate_left
      ·go_big_quiet_op
       exact hK
      refine hoist [] [] (a1 := ?_) 16 rfl (by kernel_rfl) (.inl ⟨rfl, rfl⟩) rfl rfl rfl (fun x K hK => ?_) ?_
      rotate_left
      ·go_big_quiet_op
       exact hK
      refine hoist [] [] (a1 := ?_) 17 rfl (by kernel_rfl) (.inl ⟨rfl, rfl⟩) rfl rfl rfl (fun x K hK => ?_) ?_
      rotate_left
      ·go_big_quiet_op
       exact hK
      refine hoist [] [] (a1 := ?_) 18 rfl (by kernel_rfl) (.inl ⟨rfl, rfl⟩) rfl rfl rfl (fun x K hK => ?_) ?_
      rotate_left
      ·go_big_quiet_op
       exact hK
      refine hoist [] [] (a1 := ?_) 19 rfl (by kernel_rfl) (.inl ⟨rfl, rfl⟩) rfl rfl rfl (fun x K hK => ?_) ?_
      rotate_left
      ·go_big_quiet_op
       exact hK
      refine hoist [] [] (a1 := ?_) 20 rfl (by kernel_rfl) (.inl ⟨rfl, rfl⟩) rfl rfl rfl (fun x K hK => ?_) ?_
      rotate_left
      ·go_big_quiet_op
       exact hK
      refine done (by kernel_rfl) (fun xr => ?_)
      go_wp2_with fail
      go_ret
      rw [hR5.out]
      exact ⟨rfl, ⟨_, HR.out.bw xr.bw, hF.out⟩, TS.out.trans (xr.bw.still _)⟩
  ·have hR3 : R = (0, trimN pk by_ (insN L x b)) := by rw [← hR2.out, if_neg (fun h => by rcases h with h | h; rw [hAt] at h; cases h; exact hk0 h.1)]
   have d3 : ((lowN L x : Int) == 0) = false := by simp; omega
   replace hR3 := Lib.hid hR3
   replace hAt := Lib.hid hAt
   replace hk0 := Lib.hid hk0
   clear z0 z2
   go_upto_region 6 with (fail)
   refine wp_region_gg [] [] [] (by kernel_rfl) ?_
   refine hoist [] [] (a1 := ?_) 0 rfl (by kernel_rfl) (.inl ⟨rfl, rfl⟩) rfl rfl rfl (fun x K hK => ?_) ?_
   rotate_left
   ·go_big_quiet_op
    exact hK
   refine hoist [] [] (a1 := ?_) 1 rfl (by kernel_rfl) (.inl ⟨rfl, rfl⟩) rfl rfl rfl (fun x K hK => ?_) ?_
   rotate_left
   ·go_big_quiet_op
    exact hK
   refine hoist [] [] (a1 := ?_) 2 rfl (by kernel_rfl) (.inl ⟨rfl, rfl⟩) rfl rfl rfl (fun x K hK => ?_) ?_
   rotate_left
   ·go_big_quiet_op
    exact hK
   refine hoist [] [] (a1 := ?_) 3 rfl (by kernel_rfl) (.inl ⟨rfl, rfl⟩) rfl rfl rfl (fun x K hK => ?_) ?_
   rotate_left
   ·go_big_quiet_op
    exact hK
   refine hoist [] [] (a1 := ?_) 4 rfl (by kernel_rfl) (.inl ⟨rfl, rfl⟩) rfl rfl rfl (fun x K hK => ?_) ?_
   rotate_left
   ·go_big_quiet_op
    exact hK
   refine hoist_skip [] [] 5 rfl (by kernel_rfl) (.inl ⟨rfl, rfl⟩) rfl (a1 := ?_) ?_ ?_
   rotate_left
   ·simp only [Act.put, List.setIfInBounds_toArray, List.set_cons_succ, List.set_cons_zero]; rfl
   refine hoist_skip [] [] 6 rfl (by kernel_rfl) (.inl ⟨rfl, rfl⟩) rfl (a1 := ?_) ?_ ?_
   rotate_left
   ·simp only [Act.put, List.setIfInBounds_toArray, List.set_cons_succ, List.set_cons_zero]; rfl
   refine hoist_skip [] [] 7 rfl (by kernel_rfl) (.inl ⟨rfl, rfl⟩) rfl (a1 := ?_) ?_ ?_
   rotate_left
   ·simp only [Act.put, List.setIfInBounds_toArray, List.set_cons_succ, List.set_cons_zero]; rfl
   refine hoist_skip [] [] 8 rfl (by kernel_rfl) (.inl ⟨rfl, rfl⟩) rfl (a1 := ?_) ?_ ?_
   rotate_left
   ·simp only [Act.put, List.setIfInBounds_toArray, List.set_cons_succ, List.set_cons_zero]; rfl
   refine hoist_skip [] [] 9 rfl (by kernel_rfl) (.inl ⟨rfl, rfl⟩) rfl (a1 := ?_) ?_ ?_
   rotate_left
   ·simp only [Act.put, List.setIfInBounds_toArray, List.set_cons_succ, List.set_cons_zero]; rfl
   refine hoist_skip [] [] 10 rfl (by kernel_rfl) (.inl ⟨rfl, rfl⟩) rfl (a1 := ?_) ?_ ?_
   rotate_left
   ·simp only [Act.put, List.setIfInBounds_toArray, List.set_cons_succ, List.set_cons_zero]; rfl
   refine hoist_skip [] [] 11 rfl (by kernel_rfl) (.inl ⟨rfl, rfl⟩) rfl (a1 := ?_) ?_ ?_
   rotate_left
   ·simp only [Act.put, List.setIfInBounds_toArray, List.set_cons_succ, List.set_cons_zero]; rfl
   refine hoist_skip [] [] 12 rfl (by kernel_rfl) (.inl ⟨rfl, rfl⟩) rfl (a1 := ?_) ?_ ?_
   rotate_left
   ·simp only [Act.put, List.setIfInBounds_toArray, List.set_cons_succ, List.set_cons_zero]; rfl
   refine hoist_skip [] [] 13 rfl (by kernel_rfl) (.inl ⟨rfl, rfl⟩) rfl (a1 := ?_) ?_ ?_
   rotate_left
   ·simp only [Act.put, List.setIfInBounds_toArray, List.set_cons_succ, List.set_cons_zero]; rfl
   refine hoist_skip [] [] 14 rfl (by kernel_rfl) (.inl ⟨rfl, rfl⟩) rfl (a1 := ?_) ?_ ?_
   rotate_left
   ·simp only [Act.put, List.setIfInBounds_toArray, List.set_cons_succ, List.set_cons_zero]; rfl
   refine hoist [] [] (a1 := ?_) 15 rfl (by kernel_rfl) (.inl ⟨rfl, rfl⟩) rfl rfl rfl (fun x K hK => ?_) ?_
   rotate_left
   ·go_big_quiet_op
    exact hK
   refine hoist [] [] (a1 := ?_) 16 rfl (by kernel_rfl) (.inl ⟨rfl, rfl⟩) rfl rfl rfl (fun x K hK => ?_) ?_
   rotate_left
   ·go_big_quiet_op
    exact hK
   refine done (by kernel_rfl) (fun xr => ?_)
   clear d3
   have B2 := Lib.hid (B1.out.trans xr.bw)
   have H2 := Lib.hid (H1.out.bw xr.bw)
   clear B1 H1 hR2 hR
   generalize xr.now = w2 at *
   have z2 : w2.cell? ⟨g, 2, none⟩ = some (.slice sv L.length cv) := hp_cell H2.out.cells 2
   have hgn : g ∉ (Value.slice sv L.length cv).ownBlock.toList := fun hm => H2.out.q.ne H2.out.cells (by decide) g (by simpa using hm) rfl
   have hown : ∀ k, (Value.slice sv L.length cv).ownBlock = some k → k < w.heap.size := fun k hk => hH.out.q.lt' k hk
   have l2 := fun y : LaterS [] w2 => y.cell z2 (by simp)
   have hb2 := Nat.le_trans hbase B2.out.size
   have hsz2 := B2.out.size
   generalize hkk : lowN L x = kk at *
   have hR4 : R = (0, trimN pk by_ (L.take kk ++ [(x, b)] ++ L.drop kk)) := by rw [hR3.out]; unfold insN; rw [hkk]
   have hil := insN_len L x b
   have his := insN_lens L x b
   unfold insN at hil his
   rw [hkk] at hil his
   rw [hnl.out] at his
   clear z2 hkk hR3
   replace hown := Lib.hid hown
   replace hgn := Lib.hid hgn
   replace hR4 := Lib.hid hR4
   replace hil := Lib.hid hil
   replace his := Lib.hid his
   go_upto_region 8 with (fail)
   refine wp_region_gg ((Value.slice sv L.length cv).ownBlock.toList) [11] [12] (by kernel_rfl) ?_
   refine hoist ((Value.slice sv L.length cv).ownBlock.toList) [] (a1 := ?_) 0 rfl (by kernel_rfl) (.inr rfl) rfl rfl rfl (fun x K hK => ?_) ?_
   rotate_left
   ·go_big_quiet_op
    exact hK
   refine hoist [] [11] (a1 := ?_) 1 rfl (by kernel_rfl) (.inl ⟨rfl, rfl⟩) rfl rfl rfl (fun x K hK => ?_) ?_
   rotate_left
   ·go_big_quiet_op
    exact hK
   refine hoist [] [11] (a1 := ?_) 2 rfl (by kernel_rfl) (.inl ⟨rfl, rfl⟩) rfl rfl rfl (fun x K hK => ?_) ?_
   rotate_left
   ·go_big_quiet_op
    exact hK
   refine hoist [] [11] (a1 := ?_) 3 rfl (by kernel_rfl) (.inl ⟨rfl, rfl⟩) rfl rfl rfl (fun x K hK => ?_) ?_
   rotate_left
   ·go_big_quiet_op
    exact hK
   refine hoist [] [11] (a1 := ?_) 4 rfl (by kernel_rfl) (.inl ⟨rfl, rfl⟩) rfl rfl rfl (fun x K hK => ?_) ?_
   rotate_left
   ·go_big_quiet_op
    exact hK
   refine hoist [] [11] (a1 := ?_) 5 rfl (by kernel_rfl) (.inl ⟨rfl, rfl⟩) rfl rfl rfl (fun x K hK => ?_) ?_
   rotate_left
   ·go_big_quiet_op
    exact hK
   refine hoist [] [11] (a1 := ?_) 6 rfl (by kernel_rfl) (.inl ⟨rfl, rfl⟩) rfl rfl rfl (fun x K hK => ?_) ?_
   rotate_left
   ·go_big_quiet_op
    exact hK
   refine hoist [] [11] (a1 := ?_) 7 rfl (by kernel_rfl) (.inl ⟨rfl, rfl⟩) rfl rfl rfl (fun x K hK => ?_) ?_
   rotate_left
   ·go_big_quiet_op
    exact hK
   refine effect 8 rfl (by kernel_rfl) (by kernel_rfl) rfl (fun x8 K hK => ?_)
   go_simp
   refine Calls.mono (clone_ok sb n cb b (by omega) x8.now (hV.out.bw (B2.out.trans x8.bw))) ?_
   rintro e wa ⟨va, rfl, Oa, hb⟩
   obtain ⟨s8, c8, rfl, _, _⟩ := Oa.len
   refine hK _ _ (Still.of_below hb) ?_
   clear hK K l2
   have Wa := Lib.hid (BW.call x8.bw hb)
   have Oa2 := Lib.hid (Oa.up (Nat.le_trans hb2 x8.bw.size))
   clear hb Oa
   try simp only [Act.put, List.setIfInBounds_toArray, List.set_cons_succ, List.set_cons_zero]
   refine hoist [] [11] (a1 := ?_) 9 rfl (by kernel_rfl) (.inl ⟨rfl, rfl⟩) rfl rfl rfl (fun x K hK => ?_) ?_
   rotate_left
   ·go_big_quiet_op
    exact hK
   refine effect 10 rfl (by kernel_rfl) (by kernel_rfl) rfl (fun x10 K hK => ?_)
   go_simp
   refine hK _ _ (Still.of_below ((Below.refl _ _).alloc (Nat.le_refl _) _)) ?_
   clear hK K
   have hb := x10.bw.trans ((BW.refl x10.now).alloc (o := .cells #[.int .i64 x, .slice s8 n c8] 158))
   have X10 := Lib.hid (HpB.new x10.now (.cells #[.int .i64 x, .slice s8 n c8] 158))
   have Wb := Lib.hid (Wa.out.trans hb)
   have Ob := Lib.hid (Oa2.out.bw hb)
   have hxb := Nat.le_trans hsz2 (Nat.le_trans Wa.out.size x10.bw.size)
   clear hb Wa Oa2
   generalize x10.now.alloc (.cells #[.int .i64 x, .slice s8 n c8] 158) = w10 at *
   generalize x10.now.heap.size = xb at *
   try simp only [Act.put, List.setIfInBounds_toArray, List.set_cons_succ, List.set_cons_zero]
   refine effect 11 rfl (by kernel_rfl) (by kernel_rfl) rfl (fun x11 K hK => ?_)
   go_simp
   have hbx := Wb.out.trans x11.bw
   have hq := H2.out.q.bw hbx
   have hOb : OB x11.now base 5 (.slice s8 n c8) b.length b := by rw [hnl.out]; exact Ob.out.bw x11.bw
   refine Calls.mono (insert_pk IB rfl slPk (by decide) base (.slice sv L.length cv) L.length kk L (x, b) [.int .i64 x, .slice s8 n c8] xb x11.now hq (X10.out.bw x11.bw) ⟨_, rfl, hOb⟩ (fun k hk => by have := hown.out k hk; omega) hlow (by omega) (Nat.le_trans hb2 hbx.size) (hq.noB (by decide))) ?_
   rintro e w11 ⟨s11, c11, rfl, Q11, G11, T11⟩
   refine hK _ _ T11 ?_
   clear hK K
   have C11 := Lib.hid ((H2.out.cells.bw hbx).st T11 hgn.out)
   have TS11 := Lib.hid (((B2.out.trans hbx).still (g :: (Value.slice sv L.length cv).ownBlock.toList)).trans (T11.weaken (fun k hk => List.mem_cons_of_mem _ hk)))
   have G12 : ∀ k, (Value.slice s11 (L.length + 1) c11).ownBlock = some k → (Value.slice sv L.length cv).ownBlock = some k ∨ w.heap.size ≤ k := fun k hk => by
    rcases G11 k hk with h | h
    ·exact .inl h
    ·exact .inr (Nat.le_trans (B2.out.trans hbx).size h)
   clear hbx hq hOb G11 T11 Wb Ob X10
   replace Q11 := Lib.hid Q11
   replace G12 := Lib.hid G12
   try simp only [Act.put, List.setIfInBounds_toArray, List.set_cons_succ, List.set_cons_zero]
   refine tail 12 rfl (by kernel_rfl) rfl (fun xr => ?_)
   simp only [List.drop_succ_cons, List.drop_zero]
   have C12 := Lib.hid (C11.out.bw xr.bw)
   have Q12 := Lib.hid (Q11.out.bw xr.bw)
   have TS12 := Lib.hid (TS11.out.trans (xr.bw.still _))
   clear C11 Q11 TS11
   generalize xr.now = w12 at *
   have y2 := hp_frz C12.out 2
   have z2 : w12.cell? ⟨g, 2, none⟩ = some (.slice sv L.length cv) := hp_cell C12.out 2
   have z3 : w12.cell? ⟨g, 3, none⟩ = some (.int .i64 (lensL L : Nat)) := hp_cell C12.out 3
   have y3 := hp_frz C12.out 3
   have q1 : IntKind.i64.wrap ((lensL L : Int) + (n : Int)) = ((lensL L + n : Nat) : Int) := by rw [show ((lensL L + n : Nat) : Int) = (lensL L : Int) + (n : Int) by push_cast; rfl]; exact IntWalk.i64_in _ (by omega)
   have T13 := still_setR w12 g 2 (.slice s11 (L.length + 1) c11)
   have C13 : HpB (w12.setCell ⟨g, 2, none⟩ (.slice s11 (L.length + 1) c11)) g (.cells #[.int .i64 pk, .int .i64 by_, .slice s11 (L.length + 1) c11, .int .i64 (lensL L : Nat)] 140) := hp_set C12.out 2 _
   have Q13 := Q12.out.still T13 (fun j hj => by obtain rfl : j = g := (by simpa using hj); exact .inr ⟨_, _, _, C12.out, by decide⟩) (fun j hj => by have := Q12.out.ne C12.out (by decide) j hj; simpa using this)
   have T14 := still_setR (w12.setCell ⟨g, 2, none⟩ (.slice s11 (L.length + 1) c11)) g 3 (.int .i64 ((lensL L + n : Nat) : Int))
   have C14 : HpB ((w12.setCell ⟨g, 2, none⟩ (.slice s11 (L.length + 1) c11)).setCell ⟨g, 3, none⟩ (.int .i64 ((lensL L + n : Nat) : Int))) g (.cells #[.int .i64 pk, .int .i64 by_, .slice s11 (L.length + 1) c11, .int .i64 ((lensL L + n : Nat) : Int)] 140) := hp_set C13 3 _
   have Q14 := Q13.still T14 (fun j hj => by obtain rfl : j = g := (by simpa using hj); exact .inr ⟨_, _, _, C13, by decide⟩) (fun j hj => by have := Q13.ne C13 (by decide) j hj; simpa using this)
   have H14 : Hid (RingV ((w12.setCell ⟨g, 2, none⟩ (.slice s11 (L.length + 1) c11)).setCell ⟨g, 3, none⟩ (.int .i64 ((lensL L + n : Nat) : Int))) base g pk by_ (.slice s11 (L.length + 1) c11) (L.take kk ++ [(x, b)] ++ L.drop kk)) := Lib.hid ⟨by rw [his.out]; exact C14, Q14.full⟩
   have TS14 := Lib.hid ((TS12.out.trans (T13.weaken (by simp))).trans (T14.weaken (by simp)))
   clear T13 C13 Q13 T14 C14 Q14 C12 Q12 TS12
   rw [show ((lensL L + n : Nat) : Int) = (lensL L : Int) + (n : Int) from by push_cast; rfl] at H14 TS14 q1
   go_upto_region 10 with (fail)
   generalize (w12.setCell ⟨g, 2, none⟩ (.slice s11 (L.length + 1) c11)).setCell ⟨g, 3, none⟩ (.int .i64 ((lensL L : Int) + (n : Int))) = w14 at *
   clear z2 z3 y2 y3 q1
   have hil2 := hil.out
   have his2 := his.out
   generalize hLI : L.take kk ++ [(x, b)] ++ L.drop kk = LI at *
   clear hil his
   replace hLI := Lib.hid hLI
   go_loopg [] LI.length (fun m' wx => ∃ (v' : Value) (L' : PL), m' = L'.length ∧ Hid (R = (0, trimN pk by_ L')) ∧ L'.length ≤ LI.length ∧ lensL L' ≤ lensL LI ∧ Hid (RingV wx base g pk by_ v' L') ∧ Hid (∀ k, v'.ownBlock = some k → (Value.slice sv L.length cv).ownBlock = some k ∨ w.heap.size ≤ k) ∧ Hid (Still (g :: (Value.slice sv L.length cv).ownBlock.toList) w wx))
   case atStart => exact ⟨_, LI, rfl, hR4, Nat.le_refl _, Nat.le_refl _, H14, G12, TS14⟩
   case round =>
    clear H14 TS14 G12 hR4
    obtain ⟨v', L', rfl, hR4, hl', hs', HR, hF, TS⟩ := hrel
    obtain ⟨s', c', rfl, hn', hm'⟩ := HR.out.q.len
    unfold maxLen at hm'
    have z0 : wr.cell? ⟨g, 0, none⟩ = some (.int .i64 pk) := hp_cell HR.out.cells 0
    have z1 : wr.cell? ⟨g, 1, none⟩ = some (.int .i64 by_) := hp_cell HR.out.cells 1
    have z2 : wr.cell? ⟨g, 2, none⟩ = some (.slice s' L'.length c') := hp_cell HR.out.cells 2
    have z3 : wr.cell? ⟨g, 3, none⟩ = some (.int .i64 (lensL L' : Nat)) := hp_cell HR.out.cells 3
    have l0 := fun y : LaterS [] wr => y.cell z0 (by simp)
    have l1 := fun y : LaterS [] wr => y.cell z1 (by simp)
    have l2 := fun y : LaterS [] wr => y.cell z2 (by simp)
    have l3 := fun y : LaterS [] wr => y.cell z3 (by simp)
    clear z0 z1 z2 z3
    by_cases hmore : pk < (L'.length : Int) ∨ by_ < (lensL L' : Int)
    ·have hne : 1 ≤ L'.length := by
      cases L' with
      | nil => exfalso; have : lensL ([] : PL) = 0 := rfl; simp at hmore; omega
      | cons p L' => simp
     have hd := List.length_drop (i := 1) (l := L')
     have hdl := lensL_drop_le L' 1
     have hR5 : R = (0, trimN pk by_ (L'.drop 1)) := by
      rw [hR4.out]
      cases L' with
      | nil => simp at hne
      | cons p L' =>
       conv => lhs; unfold trimN
       rw [if_pos (by simpa using hmore)]; rfl
     have hbR := Nat.le_trans hbase TS.out.size
     replace hR5 := Lib.hid hR5
     replace hR4 := Lib.hid hR4
     have key : ∀ wz, BW wr wz → Hid (Calls Try.prog 81 #[.pointer (some ⟨g, 0, none⟩), .int .i64 1] wz fun e w' => e = .returned (.tuple #[]) ∧ (∃ v', RingV w' base g pk by_ v' (L'.drop 1) ∧ ∀ k, v'.ownBlock = some k → wz.heap.size ≤ k) ∧ Still [g] wz w') := fun wz hb => Lib.hid (cut_any base g pk by_ _ L' 1 wz (HR.out.bw hb) (by omega) (by omega) hne (Nat.le_trans hbR hb.size))
     by_cases hm1 : pk < (L'.length : Int)
     ·have d1 : decide (pk < (L'.length : Int)) = true := by simpa using hm1
      replace hm1 := Lib.hid hm1
      replace hmore := Lib.hid hmore
      go_upto_region 10 with (fail)
      refine wp_region_gg [] [] [] (by kernel_rfl) ?_
      refine hoist [] [] (a1 := ?_) 0 rfl (by kernel_rfl) (.inl ⟨rfl, rfl⟩) rfl rfl rfl (fun x K hK => ?_) ?_
      rotate_left
      ·go_big_quiet_op
       exact hK
      refine hoist [] [] (a1 := ?_) 1 rfl (by kernel_rfl) (.inl ⟨rfl, rfl⟩) rfl rfl rfl (fun x K hK => ?_) ?_
      rotate_left
      ·go_big_quiet_op
       exact hK
      refine hoist [] [] (a1 := ?_) 2 rfl (by kernel_rfl) (.inl ⟨rfl, rfl⟩) rfl rfl rfl (fun x K hK => ?_) ?_
      rotate_left
      ·go_big_quiet_op
       exact hK
      refine hoist [] [] (a1 := ?_) 3 rfl (by kernel_rfl) (.inl ⟨rfl, rfl⟩) rfl rfl rfl (fun x K hK => ?_) ?_
      rotate_left
      ·go_big_quiet_op
       exact hK
      refine hoist [] [] (a1 := ?_) 4 rfl (by kernel_rfl) (.inl ⟨rfl, rfl⟩) rfl rfl rfl (fun x K hK => ?_) ?_
      rotate_left
      ·go_big_quiet_op
       exact hK
      refine hoist [] [] (a1 := ?_) 5 rfl (by kernel_rfl) (.inl ⟨rfl, rfl⟩) rfl rfl rfl (fun x K hK => ?_) ?_
      rotate_left
      ·go_big_quiet_op
       exact hK
      refine hoist [] [] (a1 := ?_) 6 rfl (by kernel_rfl) (.inl ⟨rfl, rfl⟩) rfl rfl rfl (fun x K hK => ?_) ?_
      rotate_left
      ·go_big_quiet_op
       exact hK
      refine hoist [] [] (a1 := ?_) 7 rfl (by kernel_rfl) (.inl ⟨rfl, rfl⟩) rfl rfl rfl (fun x K hK => ?_) ?_
      rotate_left
      ·go_big_quiet_op
       exact hK
      refine hoist [] [] (a1 := ?_) 8 rfl (by kernel_rfl) (.inl ⟨rfl, rfl⟩) rfl rfl rfl (fun x K hK => ?_) ?_
      rotate_left
      ·go_big_quiet_op
       exact hK
      refine hoist [] [] (a1 := ?_) 9 rfl (by kernel_rfl) (.inl ⟨rfl, rfl⟩) rfl rfl rfl (fun x K hK => ?_) ?_
      rotate_left
      ·go_big_quiet_op
       exact hK
      refine hoist [] [] (a1 := ?_) 10 rfl (by kernel_rfl) (.inl ⟨rfl, rfl⟩) rfl rfl rfl (fun x K hK => ?_) ?_
      rotate_left
      ·go_big_quiet_op
       exact hK
      refine hoist_skip [] [] 11 rfl (by kernel_rfl) (.inl ⟨rfl, rfl⟩) rfl (a1 := ?_) ?_ ?_
      rotate_left
      ·simp only [Act.put, List.setIfInBounds_toArray, List.set_cons_succ, List.set_cons_zero]; rfl
      refine hoist_skip [] [] 12 rfl (by kernel_rfl) (.inl ⟨rfl, rfl⟩) rfl (a1 := ?_) ?_ ?_
      rotate_left
      ·simp only [Act.put, List.setIfInBounds_toArray, List.set_cons_succ, List.set_cons_zero]; rfl
      refine hoist_skip [] [] 13 rfl (by kernel_rfl) (.inl ⟨rfl, rfl⟩) rfl (a1 := ?_) ?_ ?_
      rotate_left
      ·simp only [Act.put, List.setIfInBounds_toArray, List.set_cons_succ, List.set_cons_zero]; rfl
      refine hoist_skip [] [] 14 rfl (by kernel_rfl) (.inl ⟨rfl, rfl⟩) rfl (a1 := ?_) ?_ ?_
      rotate_left
      ·simp only [Act.put, List.setIfInBounds_toArray, List.set_cons_succ, List.set_cons_zero]; rfl
      refine hoist_skip [] [] 15 rfl (by kernel_rfl) (.inl ⟨rfl, rfl⟩) rfl (a1 := ?_) ?_ ?_
      rotate_left
      ·simp only [Act.put, List.setIfInBounds_toArray, List.set_cons_succ, List.set_cons_zero]; rfl
      refine hoist_skip [] [] 16 rfl (by kernel_rfl) (.inl ⟨rfl, rfl⟩) rfl (a1 := ?_) ?_ ?_
      rotate_left
      ·simp only [Act.put, List.setIfInBounds_toArray, List.set_cons_succ, List.set_cons_zero]; rfl
      refine hoist_skip [] [] 17 rfl (by kernel_rfl) (.inl ⟨rfl, rfl⟩) rfl (a1 := ?_) ?_ ?_
      rotate_left
      ·simp only [Act.put, List.setIfInBounds_toArray, List.set_cons_succ, List.set_cons_zero]; rfl
      refine hoist_skip [] [] 18 rfl (by kernel_rfl) (.inl ⟨rfl, rfl⟩) rfl (a1 := ?_) ?_ ?_
      rotate_left
      ·simp only [Act.put, List.setIfInBounds_toArray, List.set_cons_succ, List.set_cons_zero]; rfl
      refine hoist_skip [] [] 19 rfl (by kernel_rfl) (.inl ⟨rfl, rfl⟩) rfl (a1 := ?_) ?_ ?_
      rotate_left
      ·simp only [Act.put, List.setIfInBounds_toArray, List.set_cons_succ, List.set_cons_zero]; rfl
      refine hoist [] [] (a1 := ?_) 20 rfl (by kernel_rfl) (.inl ⟨rfl, rfl⟩) rfl rfl rfl (fun x K hK => ?_) ?_
      rotate_left
      ·go_big_quiet_op
       exact hK
      refine done (by kernel_rfl) (fun xr => ?_)
      have cC := key xr.now xr.bw
      clear d1 l0 l1 l2 l3 key
      go_wp2_with fail
      refine Calls.mono cC.out ?_
      rintro e w20 ⟨rfl, ⟨v20, H20, hF20⟩, T20⟩
      have TS20 := Lib.hid ((TS.out.trans (xr.bw.still _)).trans (T20.weaken (by simp)))
      have hF21 : ∀ k, v20.ownBlock = some k → (Value.slice sv L.length cv).ownBlock = some k ∨ w.heap.size ≤ k := fun k hk => .inr (Nat.le_trans (Nat.le_trans TS.out.size xr.bw.size) (hF20 k hk))
      replace hF21 := Lib.hid hF21
      replace H20 := Lib.hid H20
      clear cC hF20 T20
      dsimp only
      go_wp2_with fail
      go_roundg (L'.drop 1).length
      case measure => omega
      case rel => exact ⟨v20, L'.drop 1, rfl, hR5, by omega, by omega, H20, hF21, TS20⟩
     ·have d1 : decide (pk < (L'.length : Int)) = false := by simpa using hm1
      have d2 : decide (by_ < (lensL L' : Int)) = true := by simp; omega
      replace hm1 := Lib.hid hm1
      replace hmore := Lib.hid hmore
      go_upto_region 10 with (fail)
      refine wp_region_gg [] [] [] (by kernel_rfl) ?_
      refine hoist [] [] (a1 := ?_) 0 rfl (by kernel_rfl) (.inl ⟨rfl, rfl⟩) rfl rfl rfl (fun x K hK => ?_) ?_
      rotate_left
      ·go_big_quiet_op
       exact hK
      refine hoist [] [] (a1 := ?_) 1 rfl (by kernel_rfl) (.inl ⟨rfl, rfl⟩) rfl rfl rfl (fun x K hK => ?_) ?_
      rotate_left
      ·go_big_quiet_op
       exact hK
      refine hoist [] [] (a1 := ?_) 2 rfl (by kernel_rfl) (.inl ⟨rfl, rfl⟩) rfl rfl rfl (fun x K hK => ?_) ?_
      rotate_left
      ·go_big_quiet_op
       exact hK
      refine hoist [] [] (a1 := ?_) 3 rfl (by kernel_rfl) (.inl ⟨rfl, rfl⟩) rfl rfl rfl (fun x K hK => ?_) ?_
      rotate_left
      ·go_big_quiet_op
       exact hK
      refine hoist [] [] (a1 := ?_) 4 rfl (by kernel_rfl) (.inl ⟨rfl, rfl⟩) rfl rfl rfl (fun x K hK => ?_) ?_
      rotate_left
      ·go_big_quiet_op
       exact hK
      refine hoist [] [] (a1 := ?_) 5 rfl (by kernel_rfl) (.inl ⟨rfl, rfl⟩) rfl rfl rfl (fun x K hK => ?_) ?_
      rotate_left
      ·go_big_quiet_op
       exact hK
      refine hoist [] [] (a1 := ?_) 6 rfl (by kernel_rfl) (.inl ⟨rfl, rfl⟩) rfl rfl rfl (fun x K hK => ?_) ?_
      rotate_left
      ·go_big_quiet_op
       exact hK
      refine hoist [] [] (a1 := ?_) 7 rfl (by kernel_rfl) (.inl ⟨rfl, rfl⟩) rfl rfl rfl (fun x K hK => ?_) ?_
      rotate_left
      ·go_big_quiet_op
       exact hK
      refine hoist [] [] (a1 := ?_) 8 rfl (by kernel_rfl) (.inl ⟨rfl, rfl⟩) rfl rfl rfl (fun x K hK => ?_) ?_
      rotate_left
      ·go_big_quiet_op
       exact hK
      refine hoist [] [] (a1 := ?_) 9 rfl (by kernel_rfl) (.inl ⟨rfl, rfl⟩) rfl rfl rfl (fun x K hK => ?_) ?_
      rotate_left
      ·go_big_quiet_op
       exact hK
      refine hoist [] [] (a1 := ?_) 10 rfl (by kernel_rfl) (.inl ⟨rfl, rfl⟩) rfl rfl rfl (fun x K hK => ?_) ?_
      rotate_left
      ·go_big_quiet_op
       exact hK
      refine hoist [] [] (a1 := ?_) 11 rfl (by kernel_rfl) (.inl ⟨rfl, rfl⟩) rfl rfl rfl (fun x K hK => ?_) ?_
      rotate_left
      ·go_big_quiet_op
       exact hK
      refine hoist [] [] (a1 := ?_) 12 rfl (by kernel_rfl) (.inl ⟨rfl, rfl⟩) rfl rfl rfl (fun x K hK => ?_) ?_
      rotate_left
      ·go_big_quiet_op
       exact hK
      refine hoist [] [] (a1 := ?_) 13 rfl (by kernel_rfl) (.inl ⟨rfl, rfl⟩) rfl rfl rfl (fun x K hK => ?_) ?_
      rotate_left
      ·go_big_quiet_op
       exact hK
      refine hoist [] [] (a1 := ?_) 14 rfl (by kernel_rfl) (.inl ⟨rfl, rfl⟩) rfl rfl rfl (fun x K hK => ?_) ?_
      rotate_left
      ·go_big_quiet_op
       exact hK
      refine hoist [] [] (a1 := ?_) 15 rfl (by kernel_rfl) (.inl ⟨rfl, rfl⟩) rfl rfl rfl (fun x K hK => ?_) ?_
      rotate_left
      ·go_big_quiet_op
       exact hK
      refine hoist [] [] (a1 := ?_) 16 rfl (by kernel_rfl) (.inl ⟨rfl, rfl⟩) rfl rfl rfl (fun x K hK => ?_) ?_
      rotate_left
      ·go_big_quiet_op
       exact hK
      refine hoist [] [] (a1 := ?_) 17 rfl (by kernel_rfl) (.inl ⟨rfl, rfl⟩) rfl rfl rfl (fun x K hK => ?_) ?_
      rotate_left
      ·go_big_quiet_op
       exact hK
      refine hoist [] [] (a1 := ?_) 18 rfl (by kernel_rfl) (.inl ⟨rfl, rfl⟩) rfl rfl rfl (fun x K hK => ?_) ?_
      rotate_left
      ·go_big_quiet_op
       exact hK
      refine hoist [] [] (a1 := ?_) 19 rfl (by kernel_rfl) (.inl ⟨rfl, rfl⟩) rfl rfl rfl (fun x K hK => ?_) ?_
      rotate_left
      ·go_big_quiet_op
       exact hK
      refine hoist [] [] (a1 := ?_) 20 rfl (by kernel_rfl) (.inl ⟨rfl, rfl⟩) rfl rfl rfl (fun x K hK => ?_) ?_
      rotate_left
      ·go_big_quiet_op
       exact hK
      refine done (by kernel_rfl) (fun xr => ?_)
      clear d2
      have cC := key xr.now xr.bw
      clear d1 l0 l1 l2 l3 key
      go_wp2_with fail
      refine Calls.mono cC.out ?_
      rintro e w20 ⟨rfl, ⟨v20, H20, hF20⟩, T20⟩
      have TS20 := Lib.hid ((TS.out.trans (xr.bw.still _)).trans (T20.weaken (by simp)))
      have hF21 : ∀ k, v20.ownBlock = some k → (Value.slice sv L.length cv).ownBlock = some k ∨ w.heap.size ≤ k := fun k hk => .inr (Nat.le_trans (Nat.le_trans TS.out.size xr.bw.size) (hF20 k hk))
      replace hF21 := Lib.hid hF21
      replace H20 := Lib.hid H20
      clear cC hF20 T20
      dsimp only
      go_wp2_with fail
      go_roundg (L'.drop 1).length
      case measure => omega
      case rel => exact ⟨v20, L'.drop 1, rfl, hR5, by omega, by omega, H20, hF21, TS20⟩
    ·have d1 : decide (pk < (L'.length : Int)) = false := by simp; omega
     have d2 : decide (by_ < (lensL L' : Int)) = false := by simp; omega
     have hR5 : R = (0, L') := by
      rw [hR4.out]
      cases L' with
      | nil => rfl
      | cons p L' =>
       unfold trimN
       rw [if_neg (by simpa using hmore)]
     replace hR5 := Lib.hid hR5
     replace hR4 := Lib.hid hR4
     replace hmore := Lib.hid hmore
     go_upto_region 10 with (fail)
     refine wp_region_gg [] [] [] (by kernel_rfl) ?_
     refine hoist [] [] (a1 := ?_) 0 rfl (by kernel_rfl) (.inl ⟨rfl, rfl⟩) rfl rfl rfl (fun x K hK => ?_) ?_
     rotate_left
     ·go_big_quiet_op
      exact hK
     refine hoist [] [] (a1 := ?_) 1 rfl (by kernel_rfl) (.inl ⟨rfl, rfl⟩) rfl rfl rfl (fun x K hK => ?_) ?_
     rotate_left
     ·go_big_quiet_op
      exact hK
     refine hoist [] [] (a1 := ?_) 2 rfl (by kernel_rfl) (.inl ⟨rfl, rfl⟩) rfl rfl rfl (fun x K hK => ?_) ?_
     rotate_left
     ·go_big_quiet_op
      exact hK
     refine hoist [] [] (a1 := ?_) 3 rfl (by kernel_rfl) (.inl ⟨rfl, rfl⟩) rfl rfl rfl (fun x K hK => ?_) ?_
     rotate_left
     ·go_big_quiet_op
      exact hK
     refine hoist [] [] (a1 := ?_) 4 rfl (by kernel_rfl) (.inl ⟨rfl, rfl⟩) rfl rfl rfl (fun x K hK => ?_) ?_
     rotate_left
     ·go_big_quiet_op
      exact hK
     refine hoist [] [] (a1 := ?_) 5 rfl (by kernel_rfl) (.inl ⟨rfl, rfl⟩) rfl rfl rfl (fun x K hK => ?_) ?_
     rotate_left
     ·go_big_quiet_op
      exact hK
     refine hoist [] [] (a1 := ?_) 6 rfl (by kernel_rfl) (.inl ⟨rfl, rfl⟩) rfl rfl rfl (fun x K hK => ?_) ?_
     rotate_left
     ·go_big_quiet_op
      exact hK
     refine hoist [] [] (a1 := ?_) 7 rfl (by kernel_rfl) (.inl ⟨rfl, rfl⟩) rfl rfl rfl (fun x K hK => ?_) ?_
     rotate_left
     ·go_big_quiet_op
      exact hK
     refine hoist [] [] (a1 := ?_) 8 rfl (by kernel_rfl) (.inl ⟨rfl, rfl⟩) rfl rfl rfl (fun x K hK => ?_) ?_
     rotate_left
     ·go_big_quiet_op
      exact hK
     refine hoist [] [] (a1 := ?_) 9 rfl (by kernel_rfl) (.inl ⟨rfl, rfl⟩) rfl rfl rfl (fun x K hK => ?_) ?_
     rotate_left
     ·go_big_quiet_op
      exact hK
     refine hoist [] [] (a1 := ?_) 10 rfl (by kernel_rfl) (.inl ⟨rfl, rfl⟩) rfl rfl rfl (fun x K hK => ?_) ?_
     rotate_left
     ·go_big_quiet_op
      exact hK
     refine hoist [] [] (a1 := ?_) 11 rfl (by kernel_rfl) (.inl ⟨rfl, rfl⟩) rfl rfl rfl (fun x K hK => ?_) ?_
     rotate_left
     ·go_big_quiet_op
      exact hK
     refine hoist [] [] (a1 := ?_) 12 rfl (by kernel_rfl) (.inl ⟨rfl, rfl⟩) rfl rfl rfl (fun x K hK => ?_) ?_
     rotate_left
     ·go_big_quiet_op
      exact hK
     refine hoist [] [] (a1 := ?_) 13 rfl (by kernel_rfl) (.inl ⟨rfl, rfl⟩) rfl rfl rfl (fun x K hK => ?_) ?_
     rotate_left
     ·go_big_quiet_op
      exact hK
     refine hoist [] [] (a1 := ?_) 14 rfl (by kernel_rfl) (.inl ⟨rfl, rfl⟩) rfl rfl rfl (fun x K hK => ?_) ?_
     rotate_left
     ·go_big_quiet_op
      exact hK
     refine hoist [] [] (a1 := ?_) 15 rfl (by kernel_rfl) (.inl ⟨rfl, rfl⟩) rfl rfl rfl (fun x K hK => ?_) ?_
     rotate_left
     ·go_big_quiet_op
      exact hK
     refine hoist [] [] (a1 := ?_) 16 rfl (by kernel_rfl) (.inl ⟨rfl, rfl⟩) rfl rfl rfl (fun x K hK => ?_) ?_
     rotate_left
     ·go_big_quiet_op
      exact hK
     refine hoist [] [] (a1 := ?_) 17 rfl (by kernel_rfl) (.inl ⟨rfl, rfl⟩) rfl rfl rfl (fun x K hK => ?_) ?_
     rotate_left
     ·go_big_quiet_op
      exact hK
     refine hoist [] [] (a1 := ?_) 18 rfl (by kernel_rfl) (.inl ⟨rfl, rfl⟩) rfl rfl rfl (fun x K hK => ?_) ?_
     rotate_left
     ·go_big_quiet_op
      exact hK
     refine hoist [] [] (a1 := ?_) 19 rfl (by kernel_rfl) (.inl ⟨rfl, rfl⟩) rfl rfl rfl (fun x K hK => ?_) ?_
     rotate_left
     ·go_big_quiet_op
      exact hK
     refine hoist [] [] (a1 := ?_) 20 rfl (by kernel_rfl) (.inl ⟨rfl, rfl⟩) rfl rfl rfl (fun x K hK => ?_) ?_
     rotate_left
     ·go_big_quiet_op
      exact hK
     refine done (by kernel_rfl) (fun xr => ?_)
     go_wp2_with fail
     go_ret
     rw [hR5.out]
     exact ⟨rfl, ⟨_, HR.out.bw xr.bw, hF.out⟩, TS.out.trans (xr.bw.still _)⟩
end Go.Proofs.Ytojedpahaifjgaa

namespace Go.Proofs.Ytojedpahaifjgaa
open Go.RowKit
end Go.Proofs.Ytojedpahaifjgaa
