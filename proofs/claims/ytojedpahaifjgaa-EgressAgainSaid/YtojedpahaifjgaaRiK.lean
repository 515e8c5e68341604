/- Rings: cut (for seats that do not reach Indices and Forget). No condition but the sizes'. -/
import Derived.Test.YtojedpahaifjgaaRiC
namespace Go.Proofs.Ytojedpahaifjgaa
open Go.RowKit

theorem still_setR (w : World) (g o : Nat) (v : Value) : Still [g] w (w.setCell ⟨g, o, none⟩ v) :=
  ⟨rfl, rfl, rfl, by simp [World.setCell], fun k _ hk => hp_oth (by simpa using hk)⟩
theorem lensL_drop (L : PL) (k : Nat) (h : k < L.length) : lensL (L.drop k) = (L[k]).2.length + lensL (L.drop (k + 1)) := by
  rw [List.drop_eq_getElem_cons h]; rfl
theorem lensL_drop_le (L : PL) : ∀ k, lensL (L.drop k) ≤ lensL L := by
  intro k
  have h : lensL (L.take k) + lensL (L.drop k) = lensL L := by
    unfold lensL
    rw [List.map_take, List.map_drop, ← List.sum_append, List.take_append_drop]
  omega
theorem RingV.setV {w : World} {base g : Nat} {pk by_ : Int} {v : Value} {z : Nat} (h : HpB w g (.cells #[.int .i64 pk, .int .i64 by_, v, .int .i64 (z : Nat)] 140)) (v' : Value) (L : PL) (hz : z = lensL L) (hq : EQ IB 158 w base v' L.length L) : RingV (w.setCell ⟨g, 2, none⟩ v') base g pk by_ v' L := by
  subst hz
  exact ⟨hp_set h 2 v', hq.still (still_setR w g 2 v') (fun k hk => by obtain rfl : k = g := (by simpa using hk); exact .inr ⟨_, _, _, h, by decide⟩) (fun k hk => by have := hq.ne h (by decide) k hk; simpa using this)⟩
set_option maxRecDepth 100000 in
set_option maxHeartbeats 8000000 in
theorem cut_any (base g : Nat) (pk by_ : Int) (v : Value) (L : PL) (n : Nat) (w : World) (h : RingV w base g pk by_ v L) (hn : L.length ≤ 1000000) (hl : lensL L ≤ 1000000000) (hnl : n ≤ L.length) (hbase : base ≤ w.heap.size) :
    Calls Try.prog 81 #[.pointer (some ⟨g, 0, none⟩), .int .i64 (n : Nat)] w fun e w' => e = .returned (.tuple #[]) ∧ (∃ v', RingV w' base g pk by_ v' (L.drop n) ∧ ∀ k, v'.ownBlock = some k → w.heap.size ≤ k) ∧ Still [g] w w' := by
  obtain ⟨sv, cv, rfl, hnc, hmc⟩ := h.q.len
  have z2 : w.cell? ⟨g, 2, none⟩ = some (.slice sv L.length cv) := hp_cell h.cells 2
  have hQ := Lib.hid h.q
  have hC := Lib.hid h.cells
  have hgw := HpB.lt h.cells
  unfold maxLen at hmc
  have info : (Try.prog.info? 158).map (·.size) = some 2 := by kernel_rfl
  have hcu := fun w => run_cut_hm (P := Try.prog) Try.underlying138 info sv L.length cv n n (n : Int) (n : Int) rfl rfl .i64 .i64 (Nat.le_refl _) (by omega) w
  have hcl := fun w => run_cut_l (P := Try.prog) Try.underlying138 info sv L.length cv n (n : Int) rfl .i64 hnl w
  clear h
  generalize hlen : L.length = N at *
  have hdr := fun k => lensL_drop_le L k
  have hds := fun k hk => lensL_drop L k hk
  replace hlen := Lib.hid hlen
  replace hcl := Lib.hid hcl
  replace hdr := Lib.hid hdr
  replace hds := Lib.hid hds
  go_enter Try.func81, Try.ntmps81
  go_upto_region 1 with (fail)
  clear hcu z2
  go_loopg [14] n (fun m' i wx => ∃ k : Nat, m' = n - k ∧ k ≤ n ∧ i = .int .i64 (k : Nat) ∧ Hid (HpB wx g (.cells #[.int .i64 pk, .int .i64 by_, .slice sv N cv, .int .i64 (lensL (L.drop k) : Nat)] 140)) ∧ Hid (EQ IB 158 wx base (.slice sv N cv) N L) ∧ Hid (Still [g] w wx))
  case atStart => exact ⟨0, by omega, by omega, rfl, by rw [List.drop_zero]; exact hC, hQ, Still.refl _ _⟩
  case round =>
    clear hQ hC
    obtain ⟨k, rfl, hk, rfl, C, Q, TS⟩ := hrel
    by_cases hkn : k < n
    · have d : decide ((k : Int) < (n : Int)) = true := by simp; omega
      have hkL : k < L.length := by rw [hlen.out]; omega
      obtain ⟨g1, o1, rfl, hce⟩ := pk_form Q.out (by omega)
      obtain ⟨u, z0, z1, hu⟩ := hce k hkL
      obtain ⟨su, cu, rfl, hx1, hx2⟩ := hu.len
      have hd1 := hds.out k hkL
      have hd2 := hdr.out k
      clear hx1 hx2 hce hu
      generalize (L[k]'hkL).2.length = bl at *
      generalize cl L k = c at *
      generalize hl0 : lensL (L.drop k) = l0 at *
      generalize hl1 : lensL (L.drop (k + 1)) = l1 at *
      obtain ⟨wq, rfl⟩ : ∃ y, y = wr := ⟨_, rfl⟩
      replace hl0 := Lib.hid hl0
      replace hl1 := Lib.hid hl1
      go_upto_region 3 with (fail)
      obtain ⟨w2, hw2⟩ : ∃ w2, w2 = wq.alloc (.cells #[.int .i64 c, .slice su bl cu] 158) := ⟨_, rfl⟩
      have B2 : BW wq w2 := by rw [hw2]; exact (BW.refl wq).alloc
      have X2 : HpB w2 wq.heap.size (.cells #[.int .i64 c, .slice su bl cu] 158) := by rw [hw2]; exact HpB.new _ _
      have x1 : w2.cell? ⟨wq.heap.size, 1, none⟩ = some (.slice su bl cu) := hp_cell X2 1
      rw [← hw2]
      generalize wq.heap.size = xb at *
      have C2 := Lib.hid (C.out.bw B2)
      have y3 : w2.cell? ⟨g, 3, none⟩ = some (.int .i64 (l0 : Nat)) := hp_cell C2.out 3
      have lx := fun x : LaterS [] w2 => x.cell x1 (by simp)
      have ly := fun x : LaterS [] w2 => x.cell y3 (by simp)
      have q1 : IntKind.i64.wrap ((l0 : Int) - (bl : Int)) = (l1 : Int) := by rw [show (l0 : Int) - (bl : Int) = (l1 : Int) by omega]; exact IntWalk.i64_in _ (by omega)
      clear hw2 z0 z1 X2 x1 y3
      replace hd1 := Lib.hid hd1
      replace B2 := Lib.hid B2
      refine wp_region_gg [] [] [10] (by kernel_rfl) ?_
      refine hoist [] [] (a1 := ?_) 0 rfl (by kernel_rfl) (.inl ⟨rfl, rfl⟩) rfl rfl rfl (fun x K hK => ?_) ?_
      rotate_left
      · go_big_quiet_op
        exact hK
      refine hoist [] [] (a1 := ?_) 1 rfl (by kernel_rfl) (.inl ⟨rfl, rfl⟩) rfl rfl rfl (fun x K hK => ?_) ?_
      rotate_left
      · go_big_quiet_op
        exact hK
      refine hoist [] [] (a1 := ?_) 2 rfl (by kernel_rfl) (.inl ⟨rfl, rfl⟩) rfl rfl rfl (fun x K hK => ?_) ?_
      rotate_left
      · go_big_quiet_op
        exact hK
      refine hoist [] [] (a1 := ?_) 3 rfl (by kernel_rfl) (.inl ⟨rfl, rfl⟩) rfl rfl rfl (fun x K hK => ?_) ?_
      rotate_left
      · go_big_quiet_op
        exact hK
      refine hoist [] [] (a1 := ?_) 4 rfl (by kernel_rfl) (.inl ⟨rfl, rfl⟩) rfl rfl rfl (fun x K hK => ?_) ?_
      rotate_left
      · go_big_quiet_op
        exact hK
      refine hoist [] [] (a1 := ?_) 5 rfl (by kernel_rfl) (.inl ⟨rfl, rfl⟩) rfl rfl rfl (fun x K hK => ?_) ?_
      rotate_left
      · go_big_quiet_op
        exact hK
      refine hoist [] [] (a1 := ?_) 6 rfl (by kernel_rfl) (.inl ⟨rfl, rfl⟩) rfl rfl rfl (fun x K hK => ?_) ?_
      rotate_left
      · go_big_quiet_op
        exact hK
      refine hoist [] [] (a1 := ?_) 7 rfl (by kernel_rfl) (.inl ⟨rfl, rfl⟩) rfl rfl rfl (fun x K hK => ?_) ?_
      rotate_left
      · go_big_quiet_op
        exact hK
      refine hoist [] [] (a1 := ?_) 8 rfl (by kernel_rfl) (.inl ⟨rfl, rfl⟩) rfl rfl rfl (fun x K hK => ?_) ?_
      rotate_left
      · go_big_quiet_op
        exact hK
      refine hoist [] [] (a1 := ?_) 9 rfl (by kernel_rfl) (.inl ⟨rfl, rfl⟩) rfl rfl rfl (fun x K hK => ?_) ?_
      rotate_left
      · go_big_quiet_op
        exact hK
      refine tail 10 rfl (by kernel_rfl) rfl (fun xr => ?_)
      simp only [List.drop_succ_cons, List.drop_zero]
      have B3 := Lib.hid (B2.out.trans xr.bw)
      have C3 := Lib.hid (C.out.bw B3.out)
      have y3 := hp_frz C3.out 3
      have z3 : xr.now.cell? ⟨g, 3, none⟩ = some (.int .i64 (l0 : Nat)) := hp_cell C3.out 3
      have TT := still_setR xr.now g 3 (.int .i64 (l1 : Nat))
      have C4 : Hid (HpB (xr.now.setCell ⟨g, 3, none⟩ (.int .i64 (l1 : Nat))) g (.cells #[.int .i64 pk, .int .i64 by_, .slice (some ⟨g1, o1, none⟩) N cv, .int .i64 (l1 : Nat)] 140)) := Lib.hid (hp_set C3.out 3 _)
      have Q4 := Lib.hid ((Q.out.bw B3.out).still TT (fun j hj => by obtain rfl : j = g := (by simpa using hj); exact .inr ⟨_, _, _, C3.out, by decide⟩) (fun j hj => by have := (Q.out.bw B3.out).ne C3.out (by decide) j hj; simpa using this))
      have TS4 := Lib.hid ((TS.out.trans (B3.out.still [g])).trans TT)
      clear lx ly q1 TT C2 C3 B3 B2 d
      go_wp2_with fail
      go_roundg (n - (k + 1))
      case measure => omega
      case rel => exact ⟨k + 1, rfl, by omega, by push_cast; rfl, by rw [hl1.out]; exact C4, Q4, TS4⟩
    · obtain rfl : k = n := by omega
      have d : decide ((k : Int) < (k : Int)) = false := by simp
      have z2 : wr.cell? ⟨g, 2, none⟩ = some (.slice sv N cv) := hp_cell C.out 2
      have hcl2 := hcl.out
      have hQd := Q.out.dropN k (by omega)
      have e2 : IB.size = 2 := rfl
      rw [e2] at hQd
      clear e2
      have hb := Nat.le_trans hbase TS.out.size
      have cC := Lib.hid (clonePk_any base _ (N - k) (L.drop k) wr hQd (by omega) hb)
      clear hQd
      go_wp2_with fail
      refine Calls.mono cC.out ?_
      rintro e w5 ⟨v5, rfl, Q5, hF5, hb5⟩
      obtain ⟨s5, c5, rfl, _, _⟩ := Q5.len
      have C5 := Lib.hid (C.out.bw hb5)
      have y2 := hp_frz C5.out 2
      have z2 : w5.cell? ⟨g, 2, none⟩ = some (.slice sv N cv) := hp_cell C5.out 2
      have hQ6 : EQ IB 158 w5 base (.slice s5 (N - k) c5) (L.drop k).length (L.drop k) := Q5.full
      have R6 := Lib.hid (RingV.setV C5.out (.slice s5 (N - k) c5) (L.drop k) rfl hQ6)
      have T6 := Lib.hid ((TS.out.trans (hb5.still [g])).trans (still_setR w5 g 2 (.slice s5 (N - k) c5)))
      have hF6 : ∀ j, (Value.slice s5 (N - k) c5).ownBlock = some j → w.heap.size ≤ j := fun j hj => Nat.le_trans TS.out.size (hF5 j hj)
      clear cC Q5 hF5 hb5 hcl2 d
      replace hQ6 := Lib.hid hQ6
      replace hF6 := Lib.hid hF6
      dsimp only
      go_wp2_with fail
      go_end0
      exact ⟨rfl, ⟨_, R6.out, hF6.out⟩, T6.out⟩
end Go.Proofs.Ytojedpahaifjgaa
