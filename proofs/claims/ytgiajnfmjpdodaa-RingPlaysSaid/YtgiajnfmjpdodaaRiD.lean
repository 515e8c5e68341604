/- Rings: Indices, cut, Forget. No condition but the sizes'. -/
import Derived.Test.YtgiajnfmjpdodaaRiC
namespace Go.Proofs.Ytgiajnfmjpdodaa
open Go.RowKit

theorem still_setR (w : World) (g o : Nat) (v : Value) : Still [g] w (w.setCell ⟨g, o, none⟩ v) :=
  ⟨rfl, rfl, rfl, by simp [World.setCell], fun k _ hk => hp_oth (by simpa using hk)⟩
/-- Numbers of 64 bits. -/
def I1 : Elt Int where
  size := 1
  R := fun _ _ a c => c = [.int .i64 a]
  Ok := fun _ _ => True
  pos := by decide
  len := fun e => by rw [e]; rfl
  one := fun e u hu => by rw [e] at hu; simp at hu; rw [hu]; rfl
  bw := fun e _ => e
  up := fun e _ => e
  still := fun e _ _ => e
  old := fun e _ _ => e
theorem slI64 : SlTy Try.prog 77 2 1 8 := SlTy.mk' Try.underlying77 (by kernel_rfl) (by decide)
theorem i1_form {T : TypeId} {w : World} {base : Nat} {sv : Option Addr} {n cap : Nat} {L : List Int} (h : EQ I1 T w base (.slice sv n cap) n L) (h0 : 0 < n) :
    ∃ g o, sv = some ⟨g, o, none⟩ ∧ ∀ i (hi : i < L.length), w.cell? ⟨g, o + i, none⟩ = some (.int .i64 L[i]) := by
  obtain ⟨g, o, cap', hsl, _, _, _, _, hce⟩ := h.form h0
  simp only [Value.slice.injEq] at hsl
  refine ⟨g, o, hsl.1, fun i hi => ?_⟩
  obtain ⟨c, hc, hcc⟩ := hce i hi
  have hc' : c = [.int .i64 L[i]] := hc
  have z0 := hcc 0 (by decide)
  have e2 : I1.size = 1 := rfl
  rw [hc', e2, Nat.mul_one] at z0
  exact z0
theorem lensL_drop (L : PL) (k : Nat) (h : k < L.length) : lensL (L.drop k) = (L[k]).2.length + lensL (L.drop (k + 1)) := by
  rw [List.drop_eq_getElem_cons h]; rfl
theorem lensL_drop_le (L : PL) : ∀ k, lensL (L.drop k) ≤ lensL L := by
  intro k
  have h : lensL (L.take k) + lensL (L.drop k) = lensL L := by
    unfold lensL
    rw [List.map_take, List.map_drop, ← List.sum_append, List.take_append_drop]
  omega
set_option maxRecDepth 100000 in
set_option maxHeartbeats 8000000 in
theorem indices_any (base g : Nat) (pk by_ : Int) (v : Value) (L : PL) (w : World) (h : RingV w base g pk by_ v L) (hn : L.length ≤ 1000000) :
    Calls Try.prog 51 #[.pointer (some ⟨g, 0, none⟩)] w fun e w' => ∃ u, e = .returned u ∧ EQ I1 2 w' w.heap.size u L.length (L.map Prod.fst) ∧ BW w w' := by
  obtain ⟨sv, cv, rfl, hnc, hmc⟩ := h.q.len
  have z2 : w.cell? ⟨g, 2, none⟩ = some (.slice sv L.length cv) := hp_cell h.cells 2
  have hQ := Lib.hid h.q
  unfold maxLen at hmc
  clear h
  have hmk : ∀ k, k < L.length → (L.map Prod.fst).take (k + 1) = (L.map Prod.fst).take k ++ [cl L k] := fun k hk => by
    rw [List.take_succ_eq_append_getElem (by simpa using hk), List.getElem_map, cl_get hk]
  have hml : (L.map Prod.fst).length = L.length := by simp
  generalize hn' : L.length = n at *
  generalize L.map Prod.fst = M at *
  replace hn' := Lib.hid hn'
  replace hmk := Lib.hid hmk
  replace hml := Lib.hid hml
  go_enter Try.func51, Try.ntmps51
  go_upto_region 5 with (fail)
  clear z2
  go_loopg [3, 13] n (fun m' s i wx => ∃ (k : Nat) (so : Option Addr) (co : Nat), m' = n - k ∧ k ≤ n ∧ s = .slice so k co ∧ co ≤ 9223372036854775807 ∧ i = .int .i64 (k : Nat) ∧ Hid (EQ I1 2 wx w.heap.size (.slice so k co) k (M.take k)) ∧ Hid (BW w wx))
  case atStart => exact ⟨0, none, 0, by omega, by omega, rfl, by omega, rfl, EQ.nil _ _ _ _, BW.refl _⟩
  case round =>
    obtain ⟨k, so, co, rfl, hk, rfl, hco, rfl, O, B⟩ := hrel
    by_cases hkn : k < n
    · have d : decide ((k : Int) < (n : Int)) = true := by simp; omega
      obtain ⟨g1, o1, rfl, hce⟩ := pk_form (hQ.out.bw B.out) (by omega)
      obtain ⟨u, z0, z1, hu⟩ := hce k (by rw [hn'.out]; exact hkn)
      obtain ⟨su, cu, rfl, hx1, hx2⟩ := hu.len
      clear hx1 hx2 hce hu
      generalize (L[k]'(by rw [hn'.out]; exact hkn)).2.length = bl at *
      generalize hc : cl L k = c at *
      obtain ⟨wq, rfl⟩ : ∃ y, y = wr := ⟨_, rfl⟩
      go_upto_region 7 with (fail)
      obtain ⟨w2, hw2⟩ : ∃ w2, w2 = wq.alloc (.cells #[.int .i64 c, .slice su bl cu] 127) := ⟨_, rfl⟩
      have B2 : BW wq w2 := by rw [hw2]; exact (BW.refl wq).alloc
      have X2 : HpB w2 wq.heap.size (.cells #[.int .i64 c, .slice su bl cu] 127) := by rw [hw2]; exact HpB.new _ _
      have x0 : w2.cell? ⟨wq.heap.size, 0, none⟩ = some (.int .i64 c) := hp_cell X2 0
      rw [← hw2]
      generalize wq.heap.size = xb at *
      clear hw2 z0 z1 X2
      have BA : BW w2 (w2.alloc (.cells #[.int .i64 c] 2)) := (BW.refl _).alloc
      have L3 := Lib.hid (Sls.new1 (E := I1) w2 2 [.int .i64 c] rfl)
      have O3 := Lib.hid ((O.out.bw B2).bw BA)
      have B3 := Lib.hid ((B.out.trans B2).trans BA)
      have hz3 := B3.out.size
      replace B2 := Lib.hid B2
      replace BA := Lib.hid BA
      replace hc := Lib.hid hc
      go_wp2_with (at_builtin; go_must (refine wpList_apEQ slI64 rfl _ _ rfl w.heap.size (.slice so k co) k (M.take k) rfl O3.out _ rfl 1 [c] [.int .i64 c] L3.out (EL.single rfl) rfl (by omega) hz3 (fun _ _ => trivial) ?_; intro s6 c6 w6 hc6 hm6 O6 T6 hb6 G6; unfold maxLen at hm6; replace O6 := Lib.hid O6; replace T6 := Lib.hid T6; clear G6 hb6))
      have B6 := Lib.hid (BW.stP B3.out T6.out (fun j hj => O3.out.ge' j (by simpa using hj)))
      have O7 : Hid (EQ I1 2 w6 w.heap.size (.slice s6 (k + 1) c6) (k + 1) (M.take (k + 1))) := Lib.hid (by rw [hmk.out k hkn, hc.out]; exact O6.out)
      clear O6 T6 O3 B3 L3 x0 d
      go_wp2_with fail
      go_roundg (n - (k + 1))
      case measure => omega
      case rel => exact ⟨k + 1, s6, c6, rfl, by omega, rfl, hm6, by push_cast; rfl, O7, B6⟩
    · obtain rfl : k = n := by omega
      have d : decide ((k : Int) < (k : Int)) = false := by simp
      go_wp2_with fail
      go_ret
      refine ⟨_, rfl, ?_, B.out⟩
      have h1 := O.out
      rw [List.take_of_length_le (by rw [hml.out]; exact Nat.le_refl _)] at h1
      exact h1
theorem RingV.setV {w : World} {base g : Nat} {pk by_ : Int} {v : Value} {z : Nat} (h : HpB w g (.cells #[.int .i64 pk, .int .i64 by_, v, .int .i64 (z : Nat)] 123)) (v' : Value) (L : PL) (hz : z = lensL L) (hq : EQ IB 127 w base v' L.length L) : RingV (w.setCell ⟨g, 2, none⟩ v') base g pk by_ v' L := by
  subst hz
  exact ⟨hp_set h 2 v', hq.still (still_setR w g 2 v') (fun k hk => by obtain rfl : k = g := (by simpa using hk); exact .inr ⟨_, _, _, h, by decide⟩) (fun k hk => by have := hq.ne h (by decide) k hk; simpa using this)⟩
set_option maxRecDepth 100000 in
set_option maxHeartbeats 8000000 in
theorem cut_any (base g : Nat) (pk by_ : Int) (v : Value) (L : PL) (n : Nat) (w : World) (h : RingV w base g pk by_ v L) (hn : L.length ≤ 1000000) (hl : lensL L ≤ 1000000000) (hnl : n ≤ L.length) (hbase : base ≤ w.heap.size) :
    Calls Try.prog 83 #[.pointer (some ⟨g, 0, none⟩), .int .i64 (n : Nat)] w fun e w' => e = .returned (.tuple #[]) ∧ (∃ v', RingV w' base g pk by_ v' (L.drop n) ∧ ∀ k, v'.ownBlock = some k → w.heap.size ≤ k) ∧ Still [g] w w' := by
  obtain ⟨sv, cv, rfl, hnc, hmc⟩ := h.q.len
  have z2 : w.cell? ⟨g, 2, none⟩ = some (.slice sv L.length cv) := hp_cell h.cells 2
  have hQ := Lib.hid h.q
  have hC := Lib.hid h.cells
  have hgw := HpB.lt h.cells
  unfold maxLen at hmc
  have info : (Try.prog.info? 127).map (·.size) = some 2 := by kernel_rfl
  have hcu := fun w => run_cut_hm (P := Try.prog) Try.underlying121 info sv L.length cv n n (n : Int) (n : Int) rfl rfl .i64 .i64 (Nat.le_refl _) (by omega) w
  have hcl := fun w => run_cut_l (P := Try.prog) Try.underlying121 info sv L.length cv n (n : Int) rfl .i64 hnl w
  clear h
  generalize hlen : L.length = N at *
  have hdr := fun k => lensL_drop_le L k
  have hds := fun k hk => lensL_drop L k hk
  replace hlen := Lib.hid hlen
  replace hcl := Lib.hid hcl
  replace hdr := Lib.hid hdr
  replace hds := Lib.hid hds
  go_enter Try.func83, Try.ntmps83
  go_upto_region 1 with (fail)
  clear hcu z2
  go_loopg [14] n (fun m' i wx => ∃ k : Nat, m' = n - k ∧ k ≤ n ∧ i = .int .i64 (k : Nat) ∧ Hid (HpB wx g (.cells #[.int .i64 pk, .int .i64 by_, .slice sv N cv, .int .i64 (lensL (L.drop k) : Nat)] 123)) ∧ Hid (EQ IB 127 wx base (.slice sv N cv) N L) ∧ Hid (Still [g] w wx))
  case atStart => exact ⟨0, by omega, by omega, rfl, by rw [List.drop_zero]; exact hC, hQ, Still.refl _ _⟩
  case round =>
    clear hQ hC
    obtain ⟨k, rfl, hk, rfl, C, Q, TS⟩ := hrel
    by_cases hkn : k < n
    · have d : decide ((k : Int) < (n : Int)) = true := by simp; omega
      have hkL : k < L.length := by rw [hlen.out]; omega
      obtain ⟨g1, o1, rfl, hce⟩ := pk_form Q.out (by omega)
      obtain ⟨u, z0, z1, hu⟩ := hce k hkL
      obtain ⟨su, cu, rfl, hx1, hx2⟩ := hu.len
      have hd1 := hds.out k hkL
      have hd2 := hdr.out k
      clear hx1 hx2 hce hu
      generalize (L[k]'hkL).2.length = bl at *
      generalize cl L k = c at *
      generalize hl0 : lensL (L.drop k) = l0 at *
      generalize hl1 : lensL (L.drop (k + 1)) = l1 at *
      obtain ⟨wq, rfl⟩ : ∃ y, y = wr := ⟨_, rfl⟩
      replace hl0 := Lib.hid hl0
      replace hl1 := Lib.hid hl1
      go_upto_region 3 with (fail)
      obtain ⟨w2, hw2⟩ : ∃ w2, w2 = wq.alloc (.cells #[.int .i64 c, .slice su bl cu] 127) := ⟨_, rfl⟩
      have B2 : BW wq w2 := by rw [hw2]; exact (BW.refl wq).alloc
      have X2 : HpB w2 wq.heap.size (.cells #[.int .i64 c, .slice su bl cu] 127) := by rw [hw2]; exact HpB.new _ _
      have x1 : w2.cell? ⟨wq.heap.size, 1, none⟩ = some (.slice su bl cu) := hp_cell X2 1
      rw [← hw2]
      generalize wq.heap.size = xb at *
      have C2 := Lib.hid (C.out.bw B2)
      have y3 : w2.cell? ⟨g, 3, none⟩ = some (.int .i64 (l0 : Nat)) := hp_cell C2.out 3
      have lx := fun x : LaterS [] w2 => x.cell x1 (by simp)
      have ly := fun x : LaterS [] w2 => x.cell y3 (by simp)
      have q1 : IntKind.i64.wrap ((l0 : Int) - (bl : Int)) = (l1 : Int) := by rw [show (l0 : Int) - (bl : Int) = (l1 : Int) by omega]; exact IntWalk.i64_in _ (by omega)
      clear hw2 z0 z1 X2 x1 y3
      replace hd1 := Lib.hid hd1
      replace B2 := Lib.hid B2
      refine wp_region_gg [] [] [10] (by kernel_rfl) ?_
      refine hoist [] [] (a1 := ?_) 0 rfl (by kernel_rfl) (.inl ⟨rfl, rfl⟩) rfl rfl rfl (fun x K hK => ?_) ?_
      rotate_left
      · go_big_quiet_op
        exact hK
      refine hoist [] [] (a1 := ?_) 1 rfl (by kernel_rfl) (.inl ⟨rfl, rfl⟩) rfl rfl rfl (fun x K hK => ?_) ?_
      rotate_left
      · go_big_quiet_op
        exact hK
      refine hoist [] [] (a1 := ?_) 2 rfl (by kernel_rfl) (.inl ⟨rfl, rfl⟩) rfl rfl rfl (fun x K hK => ?_) ?_
      rotate_left
      · go_big_quiet_op
        exact hK
      refine hoist [] [] (a1 := ?_) 3 rfl (by kernel_rfl) (.inl ⟨rfl, rfl⟩) rfl rfl rfl (fun x K hK => ?_) ?_
      rotate_left
      · go_big_quiet_op
        exact hK
      refine hoist [] [] (a1 := ?_) 4 rfl (by kernel_rfl) (.inl ⟨rfl, rfl⟩) rfl rfl rfl (fun x K hK => ?_) ?_
      rotate_left
      · go_big_quiet_op
        exact hK
      refine hoist [] [] (a1 := ?_) 5 rfl (by kernel_rfl) (.inl ⟨rfl, rfl⟩) rfl rfl rfl (fun x K hK => ?_) ?_
      rotate_left
      · go_big_quiet_op
        exact hK
      refine hoist [] [] (a1 := ?_) 6 rfl (by kernel_rfl) (.inl ⟨rfl, rfl⟩) rfl rfl rfl (fun x K hK => ?_) ?_
      rotate_left
      · go_big_quiet_op
        exact hK
      refine hoist [] [] (a1 := ?_) 7 rfl (by kernel_rfl) (.inl ⟨rfl, rfl⟩) rfl rfl rfl (fun x K hK => ?_) ?_
      rotate_left
      · go_big_quiet_op
        exact hK
      refine hoist [] [] (a1 := ?_) 8 rfl (by kernel_rfl) (.inl ⟨rfl, rfl⟩) rfl rfl rfl (fun x K hK => ?_) ?_
      rotate_left
      · go_big_quiet_op
        exact hK
      refine hoist [] [] (a1 := ?_) 9 rfl (by kernel_rfl) (.inl ⟨rfl, rfl⟩) rfl rfl rfl (fun x K hK => ?_) ?_
      rotate_left
      · go_big_quiet_op
        exact hK
      refine tail 10 rfl (by kernel_rfl) rfl (fun xr => ?_)
      simp only [List.drop_succ_cons, List.drop_zero]
      have B3 := Lib.hid (B2.out.trans xr.bw)
      have C3 := Lib.hid (C.out.bw B3.out)
      have y3 := hp_frz C3.out 3
      have z3 : xr.now.cell? ⟨g, 3, none⟩ = some (.int .i64 (l0 : Nat)) := hp_cell C3.out 3
      have TT := still_setR xr.now g 3 (.int .i64 (l1 : Nat))
      have C4 : Hid (HpB (xr.now.setCell ⟨g, 3, none⟩ (.int .i64 (l1 : Nat))) g (.cells #[.int .i64 pk, .int .i64 by_, .slice (some ⟨g1, o1, none⟩) N cv, .int .i64 (l1 : Nat)] 123)) := Lib.hid (hp_set C3.out 3 _)
      have Q4 := Lib.hid ((Q.out.bw B3.out).still TT (fun j hj => by obtain rfl : j = g := (by simpa using hj); exact .inr ⟨_, _, _, C3.out, by decide⟩) (fun j hj => by have := (Q.out.bw B3.out).ne C3.out (by decide) j hj; simpa using this))
      have TS4 := Lib.hid ((TS.out.trans (B3.out.still [g])).trans TT)
      clear lx ly q1 TT C2 C3 B3 B2 d
      go_wp2_with fail
      go_roundg (n - (k + 1))
      case measure => omega
      case rel => exact ⟨k + 1, rfl, by omega, by push_cast; rfl, by rw [hl1.out]; exact C4, Q4, TS4⟩
    · obtain rfl : k = n := by omega
      have d : decide ((k : Int) < (k : Int)) = false := by simp
      have z2 : wr.cell? ⟨g, 2, none⟩ = some (.slice sv N cv) := hp_cell C.out 2
      have hcl2 := hcl.out
      have hQd := Q.out.dropN k (by omega)
      have e2 : IB.size = 2 := rfl
      rw [e2] at hQd
      clear e2
      have hb := Nat.le_trans hbase TS.out.size
      have cC := Lib.hid (clonePk_any base _ (N - k) (L.drop k) wr hQd (by omega) hb)
      clear hQd
      go_wp2_with fail
      refine Calls.mono cC.out ?_
      rintro e w5 ⟨v5, rfl, Q5, hF5, hb5⟩
      obtain ⟨s5, c5, rfl, _, _⟩ := Q5.len
      have C5 := Lib.hid (C.out.bw hb5)
      have y2 := hp_frz C5.out 2
      have z2 : w5.cell? ⟨g, 2, none⟩ = some (.slice sv N cv) := hp_cell C5.out 2
      have hQ6 : EQ IB 127 w5 base (.slice s5 (N - k) c5) (L.drop k).length (L.drop k) := Q5.full
      have R6 := Lib.hid (RingV.setV C5.out (.slice s5 (N - k) c5) (L.drop k) rfl hQ6)
      have T6 := Lib.hid ((TS.out.trans (hb5.still [g])).trans (still_setR w5 g 2 (.slice s5 (N - k) c5)))
      have hF6 : ∀ j, (Value.slice s5 (N - k) c5).ownBlock = some j → w.heap.size ≤ j := fun j hj => Nat.le_trans TS.out.size (hF5 j hj)
      clear cC Q5 hF5 hb5 hcl2 d
      replace hQ6 := Lib.hid hQ6
      replace hF6 := Lib.hid hF6
      dsimp only
      go_wp2_with fail
      go_end0
      exact ⟨rfl, ⟨_, R6.out, hF6.out⟩, T6.out⟩
set_option maxRecDepth 100000 in
set_option maxHeartbeats 8000000 in
theorem forget_any (base g : Nat) (pk by_ : Int) (v : Value) (L : PL) (x : Int) (w : World) (h : RingV w base g pk by_ v L) (hs : Srt L) (hn : L.length ≤ 1000000) (hl : lensL L ≤ 1000000000) (hk : lowN L x ≤ L.length) (hbase : base ≤ w.heap.size) :
    Calls Try.prog 44 #[.pointer (some ⟨g, 0, none⟩), .int .i64 x] w fun e w' => e = .returned (.int .i64 (lowN L x : Nat)) ∧ (∃ v', RingV w' base g pk by_ v' (L.drop (lowN L x)) ∧ ∀ k, v'.ownBlock = some k → w.heap.size ≤ k) ∧ Still [g] w w' := by
  have cF := Lib.hid (find_any base g pk by_ v L x w h hs hn)
  have hH := Lib.hid h
  clear h
  generalize lowN L x = k at *
  generalize isAt L x = b at *
  go_enter Try.func44, Try.ntmps44
  go_wp2_with fail
  refine Calls.mono cF.out ?_
  rintro e w1 ⟨rfl, hb⟩
  have cC := Lib.hid (cut_any base g pk by_ v L k w1 (hH.out.bw hb) hn hl hk (Nat.le_trans hbase hb.size))
  have B1 := Lib.hid hb
  clear hb cF
  dsimp only
  go_wp2_with fail
  refine Calls.mono cC.out ?_
  rintro e w2 ⟨rfl, ⟨v2, R2, hF⟩, TS⟩
  replace R2 := Lib.hid R2
  replace TS := Lib.hid TS
  have hsz := B1.out.size
  have hF2 : ∀ k, v2.ownBlock = some k → w.heap.size ≤ k := fun k hk => Nat.le_trans hsz (hF k hk)
  clear cC hF
  replace hF2 := Lib.hid hF2
  dsimp only
  go_wp2_with fail
  go_ret
  exact ⟨rfl, ⟨v2, R2.out, hF2.out⟩, (B1.out.still [g]).trans TS.out⟩
end Go.Proofs.Ytgiajnfmjpdodaa
