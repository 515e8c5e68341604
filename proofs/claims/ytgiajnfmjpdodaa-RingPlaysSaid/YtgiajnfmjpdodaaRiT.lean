/- The reference's ring: Sorted, Forget. No condition but the sizes'. -/
import Derived.Test.YtgiajnfmjpdodaaRiS
namespace Go.Proofs.Ytgiajnfmjpdodaa
open Go.RowKit

set_option maxRecDepth 100000 in
set_option maxHeartbeats 8000000 in
theorem rsorted_any (base g : Nat) (pk by_ : Int) (vi vb : Value) (M : PL) (w : World) (h : RefV w base g pk by_ vi vb M) (hl : M.length ≤ 1000000) (hbase : base ≤ w.heap.size) :
    Calls Try.prog 52 #[.pointer (some ⟨g, 0, none⟩)] w fun e w' => ∃ u, e = .returned u ∧ EQ I1 2 w' w.heap.size u (sortR M.length M).length (sortR M.length M) ∧ BW w w' := by
  obtain ⟨sv, cv, rfl, hnc, hmc⟩ := h.qi.len
  obtain ⟨sb, cb, rfl, hnb, hmb⟩ := h.qb.len
  unfold maxLen at hmc hmb
  have hH := Lib.hid h
  have hown := Lib.hid h.qi.lt'
  clear h
  generalize hR : sortR M.length M = R at *
  have z2 : w.cell? ⟨g, 2, none⟩ = some (.slice sv M.length cv) := hp_cell hH.out.cells 2
  have z3 : w.cell? ⟨g, 3, none⟩ = some (.slice sb M.length cb) := hp_cell hH.out.cells 3
  have l2 := fun y : LaterS [] w => y.cell z2 (by simp)
  have l3 := fun y : LaterS [] w => y.cell z3 (by simp)
  clear z2 z3
  replace hR := Lib.hid hR
  go_enter Try.func52, Try.ntmps52
  go_upto_region 2 with (fail)
  refine wp_region_gg [] [] [] (by kernel_rfl) ?_
  refine hoist [] [] (a1 := ?_) 0 rfl (by kernel_rfl) (.inl ⟨rfl, rfl⟩) rfl rfl rfl (fun x K hK => ?_) ?_
  rotate_left
  · go_big_quiet_op
    exact hK
  refine hoist [] [] (a1 := ?_) 1 rfl (by kernel_rfl) (.inl ⟨rfl, rfl⟩) rfl rfl rfl (fun x K hK => ?_) ?_
  rotate_left
  · go_big_quiet_op
    exact hK
  refine hoist [] [] (a1 := ?_) 2 rfl (by kernel_rfl) (.inl ⟨rfl, rfl⟩) rfl rfl rfl (fun x K hK => ?_) ?_
  rotate_left
  · go_big_quiet_op
    exact hK
  refine hoist [] [] (a1 := ?_) 3 rfl (by kernel_rfl) (.inl ⟨rfl, rfl⟩) rfl rfl rfl (fun x K hK => ?_) ?_
  rotate_left
  · go_big_quiet_op
    exact hK
  refine hoist [] [] (a1 := ?_) 4 rfl (by kernel_rfl) (.inl ⟨rfl, rfl⟩) rfl rfl rfl (fun x K hK => ?_) ?_
  rotate_left
  · go_big_quiet_op
    exact hK
  refine hoist [] [] (a1 := ?_) 5 rfl (by kernel_rfl) (.inl ⟨rfl, rfl⟩) rfl rfl rfl (fun x K hK => ?_) ?_
  rotate_left
  · go_big_quiet_op
    exact hK
  refine hoist [] [] (a1 := ?_) 6 rfl (by kernel_rfl) (.inl ⟨rfl, rfl⟩) rfl rfl rfl (fun x K hK => ?_) ?_
  rotate_left
  · go_big_quiet_op
    exact hK
  refine hoist [] [] (a1 := ?_) 7 rfl (by kernel_rfl) (.inl ⟨rfl, rfl⟩) rfl rfl rfl (fun x K hK => ?_) ?_
  rotate_left
  · go_big_quiet_op
    exact hK
  refine hoist [] [] (a1 := ?_) 8 rfl (by kernel_rfl) (.inl ⟨rfl, rfl⟩) rfl rfl rfl (fun x K hK => ?_) ?_
  rotate_left
  · go_big_quiet_op
    exact hK
  refine effect 9 rfl (by kernel_rfl) (by kernel_rfl) rfl (fun x9 K hK => ?_)
  go_simp
  refine hK _ _ (Still.of_below ((Below.refl _ _).alloc (Nat.le_refl _) _)) ?_
  clear hK K
  refine hoist [] [] (a1 := ?_) 10 rfl (by kernel_rfl) (.inl ⟨rfl, rfl⟩) rfl rfl rfl (fun x K hK => ?_) ?_
  rotate_left
  · go_big_quiet_op
    exact hK
  refine done (by kernel_rfl) (fun xr => ?_)
  have BA : BW w xr.now := (x9.bw.trans ((BW.refl x9.now).alloc (o := .cells #[.int .i64 0, .int .i64 0, .slice sv M.length cv, .slice sb M.length cb] 80))).trans xr.bw
  have TC : HpB xr.now x9.now.heap.size (.cells #[.int .i64 0, .int .i64 0, .slice sv M.length cv, .slice sb M.length cb] 80) := (HpB.new x9.now _).bw xr.bw
  have H2 : Hid (RefV xr.now base x9.now.heap.size 0 0 (.slice sv M.length cv) (.slice sb M.length cb) M) := Lib.hid ⟨TC, hH.out.qi.bw BA, hH.out.qb.bw BA⟩
  have hgc := x9.bw.size
  generalize x9.now.heap.size = gc at *
  clear l2 l3 TC
  replace BA := Lib.hid BA
  go_upto_region 3 with (fail)
  go_loopg [3] M.length (fun m' s wx => ∃ (v1 v2 : Value) (M' : PL) (P : List Int) (so : Option Addr) (n co : Nat), m' = M'.length ∧ s = .slice so n co ∧ co ≤ 9223372036854775807 ∧ n + M'.length = M.length ∧ Hid (P ++ sortR M'.length M' = R) ∧ Hid (EQ I1 2 wx w.heap.size (.slice so n co) n P) ∧ Hid (RefV wx base gc 0 0 v1 v2 M') ∧ Hid (Apt v1 (.slice so n co)) ∧ Hid (BW w wx))
  case atStart => exact ⟨_, _, M, [], none, 0, 0, rfl, rfl, by omega, by omega, hR, EQ.nil _ _ _ _, H2, (fun k _ h2 => by cases h2), BA⟩
  case round =>
    clear hR H2 BA
    obtain ⟨v1, v2, M', P, so, n, co, rfl, rfl, hco, hnm, hR, O, H, hA, B⟩ := hrel
    obtain ⟨s1, c1, rfl, hn1, hm1⟩ := H.out.qi.len
    unfold maxLen at hm1
    have z2 : wr.cell? ⟨gc, 2, none⟩ = some (.slice s1 M'.length c1) := hp_cell H.out.cells 2
    by_cases hne : 0 < M'.length
    · have d : decide ((0 : Int) < (M'.length : Int)) = true := decide_eq_true (by omega)
      obtain ⟨a, hla, haM⟩ := least_ex M' hne
      have hel : (M'.eraseIdx a).length + 1 = M'.length := by rw [List.length_eraseIdx, if_pos haM]; omega
      have hR2 : (P ++ [cl M' a]) ++ sortR (M'.eraseIdx a).length (M'.eraseIdx a) = R := by
        rw [← hR.out, List.append_assoc]
        conv => rhs; rw [← hel]
        conv => rhs; unfold sortR
        rw [hla]; rfl
      have cL := rleast_any base gc 0 0 _ v2 M' wr H.out
      rw [hla, show atI (some a) = (a : Nat) from rfl] at cL
      replace cL := Lib.hid cL
      replace hla := Lib.hid hla
      replace hel := Lib.hid hel
      replace hR2 := Lib.hid hR2
      go_wp2_with fail
      refine Calls.mono cL.out ?_
      rintro e w3 ⟨rfl, hb⟩
      have H3 := Lib.hid (H.out.bw hb)
      have O3 := Lib.hid (O.out.bw hb)
      have B3 := Lib.hid (B.out.trans hb)
      clear cL hb H O B z2 d
      have z2 : w3.cell? ⟨gc, 2, none⟩ = some (.slice s1 M'.length c1) := hp_cell H3.out.cells 2
      obtain ⟨b1, o1, rfl, hc1⟩ := H3.out.i_form rfl hne
      have y1 := hc1 a haM
      clear hc1
      generalize cl M' a = cx at *
      have BA : BW w3 (w3.alloc (.cells #[.int .i64 cx] 2)) := (BW.refl _).alloc
      have L4 := Lib.hid (Sls.new1 (E := I1) w3 2 [.int .i64 cx] rfl)
      have O4 := Lib.hid (O3.out.bw BA)
      have H4 := Lib.hid (H3.out.bw BA)
      have B4 := Lib.hid (B3.out.trans BA)
      have hz4 := B4.out.size
      replace BA := Lib.hid BA
      dsimp only
      go_upto_region 6 with (at_builtin; go_must (refine wpList_apEQ slI64 rfl _ _ rfl w.heap.size (.slice so n co) n _ rfl O4.out _ rfl 1 [cx] [.int .i64 cx] L4.out (EL.single rfl) rfl (by omega) hz4 (fun _ _ => trivial) ?_; intro s6 c6 w6 hc6 hm6 O6 T6 hb6 G6; unfold maxLen at hm6; replace O6 := Lib.hid O6; replace T6 := Lib.hid T6; replace G6 := Lib.hid G6; clear hb6))
      have hge := Lib.hid O4.out.ge'
      have B6 := Lib.hid (BW.stP B4.out T6.out (fun j hj => hge.out j (by simpa using hj)))
      have hgn : gc ∉ (Value.slice so n co).ownBlock.toList := fun hm => O4.out.ne H4.out.cells (by decide) gc (by simpa using hm) rfl
      have H6 : Hid (RefV w6 base gc 0 0 (.slice (some ⟨b1, o1, none⟩) M'.length c1) v2 M') := Lib.hid ⟨H4.out.cells.st T6.out hgn, H4.out.qi.still T6.out (fun _ _ => trivial) (fun k hk hm => hA.out k hk (by simpa using hm)), H4.out.qb.still T6.out (fun _ _ => trivial) (H4.out.qb.sep O4.out (by decide))⟩
      have cD := rdrp_any base gc 0 0 _ v2 M' a w6 H6.out (by omega) (Nat.le_trans hbase B6.out.size) haM
      clear y1 z2 O3 H3 B3 L4 H4 B4 hz4 G6 T6 hge hgn
      replace cD := Lib.hid cD
      go_wp2_with fail
      refine Calls.mono cD.out ?_
      rintro e w7 ⟨rfl, ⟨v3, v4, H7, F3, F4⟩, T7⟩
      have O7 := Lib.hid (O6.out.still T7 (fun _ _ => trivial) (fun k hk => by have := O6.out.ne H6.out.cells (by decide) k hk; simpa using this))
      have B7 := Lib.hid (BW.stP B6.out T7 (by simpa using hgc))
      have hA7 : Apt v3 (.slice s6 (n + 1) c6) := fun k h2 h3 => by have := F3 k h2; have := O6.out.lt' k h3; omega
      have hml : (M'.eraseIdx a).length < M'.length := by have := hel.out; omega
      have hnm7 : n + 1 + (M'.eraseIdx a).length = M.length := by have := hel.out; omega
      replace H7 := Lib.hid H7
      replace hA7 := Lib.hid hA7
      clear cD T7 F3 F4 O6 H6 B6
      dsimp only
      go_wp2_with fail
      go_roundg (M'.eraseIdx a).length
      case measure => omega
      case rel => exact ⟨v3, v4, M'.eraseIdx a, P ++ [cx], s6, n + 1, c6, rfl, rfl, hm6, hnm7, hR2, O7, H7, hA7, B7⟩
    · have d : decide ((0 : Int) < (M'.length : Int)) = false := decide_eq_false (by omega)
      have hRR : P = R := by
        have hM : M' = [] := List.eq_nil_of_length_eq_zero (by omega)
        rw [← hR.out, hM]; simp [sortR]
      replace hRR := Lib.hid hRR
      go_wp2_with fail
      go_ret
      refine ⟨_, rfl, ?_, B.out⟩
      rw [← hRR.out]
      exact O.out.full
def FgPost (base g : Nat) (pk by_ : Int) (R : Nat × PL) (vi vb : Value) (w : World) (e : Ending) (w' : World) : Prop :=
  e = .returned (.int .i64 (R.1 : Nat)) ∧ (∃ vi' vb', RefV w' base g pk by_ vi' vb' R.2 ∧ (∀ k, vi'.ownBlock = some k → vi.ownBlock = some k ∨ w.heap.size ≤ k) ∧ ∀ k, vb'.ownBlock = some k → vb.ownBlock = some k ∨ w.heap.size ≤ k) ∧ Still [g] w w'
set_option maxRecDepth 100000 in
set_option maxHeartbeats 8000000 in
theorem rforget_any (base g : Nat) (pk by_ : Int) (vi vb : Value) (M : PL) (x : Int) (w : World) (h : RefV w base g pk by_ vi vb M) (hl : M.length ≤ 1000000) (hbase : base ≤ w.heap.size) :
    Calls Try.prog 45 #[.pointer (some ⟨g, 0, none⟩), .int .i64 x] w (FgPost base g pk by_ (forgetR x M.length M 0) vi vb w) := by
  have hH := Lib.hid h
  clear h
  generalize hR : forgetR x M.length M 0 = R at *
  replace hR := Lib.hid hR
  go_enter Try.func45, Try.ntmps45
  go_upto_region 2 with (fail)
  go_loopg [5] M.length (fun m' i wx => ∃ (v1 v2 : Value) (M' : PL) (n : Nat), m' = M'.length ∧ i = .int .i64 (n : Nat) ∧ n + M'.length = M.length ∧ Hid (forgetR x M'.length M' n = R) ∧ Hid (RefV wx base g pk by_ v1 v2 M') ∧ Hid (∀ k, v1.ownBlock = some k → vi.ownBlock = some k ∨ w.heap.size ≤ k) ∧ Hid (∀ k, v2.ownBlock = some k → vb.ownBlock = some k ∨ w.heap.size ≤ k) ∧ Hid (Still [g] w wx))
  case atStart => exact ⟨vi, vb, M, 0, rfl, rfl, by omega, hR, hH, (fun k hk => .inl hk), (fun k hk => .inl hk), Still.refl _ _⟩
  case round =>
    clear hR hH
    obtain ⟨v1, v2, M', n, rfl, rfl, hnm, hR, H, F1, F2, TS⟩ := hrel
    obtain ⟨s1, c1, rfl, hn1, hm1⟩ := H.out.qi.len
    unfold maxLen at hm1
    have z2 : wr.cell? ⟨g, 2, none⟩ = some (.slice s1 M'.length c1) := hp_cell H.out.cells 2
    have l2 := fun y : LaterS [] wr => y.cell z2 (by simp)
    clear z2
    by_cases hne : 0 < M'.length
    · have d : decide ((0 : Int) < (M'.length : Int)) = true := decide_eq_true (by omega)
      obtain ⟨a, hla, haM⟩ := least_ex M' hne
      have hel : (M'.eraseIdx a).length + 1 = M'.length := by rw [List.length_eraseIdx, if_pos haM]; omega
      have hR2 : (if cl M' a < x then forgetR x (M'.eraseIdx a).length (M'.eraseIdx a) (n + 1) else (n, M')) = R := by
        rw [← hR.out]
        conv => rhs; rw [← hel]
        conv => rhs; unfold forgetR
        rw [hla]
      have cL := fun wz (hb : BW wr wz) => Lib.hid (rleast_any base g pk by_ _ v2 M' wz (H.out.bw hb))
      rw [hla, show atI (some a) = (a : Nat) from rfl] at cL
      obtain ⟨b1, o1, rfl, hc1⟩ := H.out.i_form rfl hne
      have y1 := hc1 a haM
      clear hc1
      generalize cl M' a = cx at *
      replace y1 := Lib.hid y1
      replace hla := Lib.hid hla
      replace hel := Lib.hid hel
      by_cases hcx : cx < x
      · have d2 : decide (cx < x) = true := by simpa using hcx
        rw [if_pos hcx] at hR2
        replace hR2 := Lib.hid hR2
        replace hcx := Lib.hid hcx
        go_upto_region 2 with (fail)
        refine wp_region_gg [] [] [] (by kernel_rfl) ?_
        refine hoist [] [] (a1 := ?_) 0 rfl (by kernel_rfl) (.inl ⟨rfl, rfl⟩) rfl rfl rfl (fun x K hK => ?_) ?_
        rotate_left
        · go_big_quiet_op
          exact hK
        refine hoist [] [] (a1 := ?_) 1 rfl (by kernel_rfl) (.inl ⟨rfl, rfl⟩) rfl rfl rfl (fun x K hK => ?_) ?_
        rotate_left
        · go_big_quiet_op
          exact hK
        refine hoist [] [] (a1 := ?_) 2 rfl (by kernel_rfl) (.inl ⟨rfl, rfl⟩) rfl rfl rfl (fun x K hK => ?_) ?_
        rotate_left
        · go_big_quiet_op
          exact hK
        refine hoist [] [] (a1 := ?_) 3 rfl (by kernel_rfl) (.inl ⟨rfl, rfl⟩) rfl rfl rfl (fun x K hK => ?_) ?_
        rotate_left
        · go_big_quiet_op
          exact hK
        refine hoist [] [] (a1 := ?_) 4 rfl (by kernel_rfl) (.inl ⟨rfl, rfl⟩) rfl rfl rfl (fun x K hK => ?_) ?_
        rotate_left
        · go_big_quiet_op
          exact hK
        refine hoist [] [] (a1 := ?_) 5 rfl (by kernel_rfl) (.inl ⟨rfl, rfl⟩) rfl rfl rfl (fun x K hK => ?_) ?_
        rotate_left
        · go_big_quiet_op
          exact hK
        refine hoist [] [] (a1 := ?_) 6 rfl (by kernel_rfl) (.inl ⟨rfl, rfl⟩) rfl rfl rfl (fun x K hK => ?_) ?_
        rotate_left
        · go_big_quiet_op
          exact hK
        refine hoist [] [] (a1 := ?_) 7 rfl (by kernel_rfl) (.inl ⟨rfl, rfl⟩) rfl rfl rfl (fun x K hK => ?_) ?_
        rotate_left
        · go_big_quiet_op
          exact hK
        refine hoist [] [] (a1 := ?_) 8 rfl (by kernel_rfl) (.inl ⟨rfl, rfl⟩) rfl rfl rfl (fun x K hK => ?_) ?_
        rotate_left
        · go_big_quiet_op
          exact hK
        refine hoist [] [] (a1 := ?_) 9 rfl (by kernel_rfl) (.inl ⟨rfl, rfl⟩) rfl rfl rfl (fun x K hK => ?_) ?_
        rotate_left
        · go_big_quiet_op
          exact hK
        refine hoist [] [] (a1 := ?_) 10 rfl (by kernel_rfl) (.inl ⟨rfl, rfl⟩) rfl rfl rfl (fun x K hK => ?_) ?_
        rotate_left
        · go_big_quiet_op
          exact hK
        refine hoist [] [] (a1 := ?_) 11 rfl (by kernel_rfl) (.inl ⟨rfl, rfl⟩) rfl rfl rfl (fun x K hK => ?_) ?_
        rotate_left
        · go_big_quiet_op
          exact hK
        refine hoist [] [] (a1 := ?_) 15 rfl (by kernel_rfl) (.inl ⟨rfl, rfl⟩) rfl rfl rfl (fun x K hK => ?_) ?_
        rotate_left
        · go_big_quiet_op
          exact hK
        refine effect 12 rfl (by kernel_rfl) (by kernel_rfl) rfl (fun x12 K hK => ?_)
        go_simp
        refine Calls.mono (cL x12.now x12.bw).out ?_
        rintro e wa ⟨rfl, hb⟩
        refine hK _ _ (Still.of_below hb) ?_
        clear hK K
        have Wa := Lib.hid (x12.bw.trans hb)
        have l3 := fun y : LaterS [] wa => y.cell (Wa.out.cell y1.out) (by simp)
        clear hb
        try simp only [Act.put, List.setIfInBounds_toArray, List.set_cons_succ, List.set_cons_zero]
        refine hoist [] [] (a1 := ?_) 13 rfl (by kernel_rfl) (.inl ⟨rfl, rfl⟩) rfl rfl rfl (fun x K hK => ?_) ?_
        rotate_left
        · go_big_quiet_op
          exact hK
        refine hoist [] [] (a1 := ?_) 14 rfl (by kernel_rfl) (.inl ⟨rfl, rfl⟩) rfl rfl rfl (fun x K hK => ?_) ?_
        rotate_left
        · go_big_quiet_op
          exact hK
        refine hoist [] [] (a1 := ?_) 16 rfl (by kernel_rfl) (.inl ⟨rfl, rfl⟩) rfl rfl rfl (fun x K hK => ?_) ?_
        rotate_left
        · go_big_quiet_op
          exact hK
        refine hoist [] [] (a1 := ?_) 17 rfl (by kernel_rfl) (.inl ⟨rfl, rfl⟩) rfl rfl rfl (fun x K hK => ?_) ?_
        rotate_left
        · go_big_quiet_op
          exact hK
        refine done (by kernel_rfl) (fun xr => ?_)
        have W2 := Lib.hid (Wa.out.trans xr.bw)
        have cL2 := cL xr.now W2.out
        have hbR := Nat.le_trans hbase TS.out.size
        clear l2 l3 d d2
        go_wp2_with fail
        refine Calls.mono cL2.out ?_
        rintro e w19 ⟨rfl, hb⟩
        have cD := Lib.hid (rdrp_any base g pk by_ _ v2 M' a w19 (H.out.bw (W2.out.trans hb)) (by omega) (Nat.le_trans hbR (W2.out.trans hb).size) haM)
        have W19 := Lib.hid (W2.out.trans hb)
        clear cL cL2 hb
        dsimp only
        go_wp2_with fail
        refine Calls.mono cD.out ?_
        rintro e w20 ⟨rfl, ⟨v3, v4, H20, F3, F4⟩, T20⟩
        have TS20 := Lib.hid ((TS.out.trans (W19.out.still _)).trans T20)
        have F5 : ∀ k, v3.ownBlock = some k → vi.ownBlock = some k ∨ w.heap.size ≤ k := fun k hk => .inr (Nat.le_trans (Nat.le_trans TS.out.size W19.out.size) (F3 k hk))
        have F6 : ∀ k, v4.ownBlock = some k → vb.ownBlock = some k ∨ w.heap.size ≤ k := fun k hk => .inr (Nat.le_trans (Nat.le_trans TS.out.size W19.out.size) (F4 k hk))
        have hml : (M'.eraseIdx a).length < M'.length := by have := hel.out; omega
        have hnm2 : n + 1 + (M'.eraseIdx a).length = M.length := by have := hel.out; omega
        replace F5 := Lib.hid F5
        replace F6 := Lib.hid F6
        replace H20 := Lib.hid H20
        clear cD F3 F4 T20
        dsimp only
        go_wp2_with fail
        go_roundg (M'.eraseIdx a).length
        case measure => omega
        case rel => exact ⟨v3, v4, M'.eraseIdx a, n + 1, rfl, by push_cast; rfl, hnm2, hR2, H20, F5, F6, TS20⟩
      · have d2 : decide (cx < x) = false := by simpa using hcx
        rw [if_neg hcx] at hR2
        have hRR : R = (n, M') := hR2.symm
        replace hR2 := Lib.hid hR2
        replace hcx := Lib.hid hcx
        replace hRR := Lib.hid hRR
        go_upto_region 2 with (fail)
        refine wp_region_gg [] [] [] (by kernel_rfl) ?_
        refine hoist [] [] (a1 := ?_) 0 rfl (by kernel_rfl) (.inl ⟨rfl, rfl⟩) rfl rfl rfl (fun x K hK => ?_) ?_
        rotate_left
        · go_big_quiet_op
          exact hK
        refine hoist [] [] (a1 := ?_) 1 rfl (by kernel_rfl) (.inl ⟨rfl, rfl⟩) rfl rfl rfl (fun x K hK => ?_) ?_
        rotate_left
        · go_big_quiet_op
          exact hK
        refine hoist [] [] (a1 := ?_) 2 rfl (by kernel_rfl) (.inl ⟨rfl, rfl⟩) rfl rfl rfl (fun x K hK => ?_) ?_
        rotate_left
        · go_big_quiet_op
          exact hK
        refine hoist [] [] (a1 := ?_) 3 rfl (by kernel_rfl) (.inl ⟨rfl, rfl⟩) rfl rfl rfl (fun x K hK => ?_) ?_
        rotate_left
        · go_big_quiet_op
          exact hK
        refine hoist [] [] (a1 := ?_) 4 rfl (by kernel_rfl) (.inl ⟨rfl, rfl⟩) rfl rfl rfl (fun x K hK => ?_) ?_
        rotate_left
        · go_big_quiet_op
          exact hK
        refine hoist [] [] (a1 := ?_) 5 rfl (by kernel_rfl) (.inl ⟨rfl, rfl⟩) rfl rfl rfl (fun x K hK => ?_) ?_
        rotate_left
        · go_big_quiet_op
          exact hK
        refine hoist [] [] (a1 := ?_) 6 rfl (by kernel_rfl) (.inl ⟨rfl, rfl⟩) rfl rfl rfl (fun x K hK => ?_) ?_
        rotate_left
        · go_big_quiet_op
          exact hK
        refine hoist [] [] (a1 := ?_) 7 rfl (by kernel_rfl) (.inl ⟨rfl, rfl⟩) rfl rfl rfl (fun x K hK => ?_) ?_
        rotate_left
        · go_big_quiet_op
          exact hK
        refine hoist [] [] (a1 := ?_) 8 rfl (by kernel_rfl) (.inl ⟨rfl, rfl⟩) rfl rfl rfl (fun x K hK => ?_) ?_
        rotate_left
        · go_big_quiet_op
          exact hK
        refine hoist [] [] (a1 := ?_) 9 rfl (by kernel_rfl) (.inl ⟨rfl, rfl⟩) rfl rfl rfl (fun x K hK => ?_) ?_
        rotate_left
        · go_big_quiet_op
          exact hK
        refine hoist [] [] (a1 := ?_) 10 rfl (by kernel_rfl) (.inl ⟨rfl, rfl⟩) rfl rfl rfl (fun x K hK => ?_) ?_
        rotate_left
        · go_big_quiet_op
          exact hK
        refine hoist [] [] (a1 := ?_) 11 rfl (by kernel_rfl) (.inl ⟨rfl, rfl⟩) rfl rfl rfl (fun x K hK => ?_) ?_
        rotate_left
        · go_big_quiet_op
          exact hK
        refine hoist [] [] (a1 := ?_) 15 rfl (by kernel_rfl) (.inl ⟨rfl, rfl⟩) rfl rfl rfl (fun x K hK => ?_) ?_
        rotate_left
        · go_big_quiet_op
          exact hK
        refine effect 12 rfl (by kernel_rfl) (by kernel_rfl) rfl (fun x12 K hK => ?_)
        go_simp
        refine Calls.mono (cL x12.now x12.bw).out ?_
        rintro e wa ⟨rfl, hb⟩
        refine hK _ _ (Still.of_below hb) ?_
        clear hK K
        have Wa := Lib.hid (x12.bw.trans hb)
        have l3 := fun y : LaterS [] wa => y.cell (Wa.out.cell y1.out) (by simp)
        clear hb
        try simp only [Act.put, List.setIfInBounds_toArray, List.set_cons_succ, List.set_cons_zero]
        refine hoist [] [] (a1 := ?_) 13 rfl (by kernel_rfl) (.inl ⟨rfl, rfl⟩) rfl rfl rfl (fun x K hK => ?_) ?_
        rotate_left
        · go_big_quiet_op
          exact hK
        refine hoist [] [] (a1 := ?_) 14 rfl (by kernel_rfl) (.inl ⟨rfl, rfl⟩) rfl rfl rfl (fun x K hK => ?_) ?_
        rotate_left
        · go_big_quiet_op
          exact hK
        refine hoist [] [] (a1 := ?_) 16 rfl (by kernel_rfl) (.inl ⟨rfl, rfl⟩) rfl rfl rfl (fun x K hK => ?_) ?_
        rotate_left
        · go_big_quiet_op
          exact hK
        refine hoist [] [] (a1 := ?_) 17 rfl (by kernel_rfl) (.inl ⟨rfl, rfl⟩) rfl rfl rfl (fun x K hK => ?_) ?_
        rotate_left
        · go_big_quiet_op
          exact hK
        refine done (by kernel_rfl) (fun xr => ?_)
        have W2 := Lib.hid (Wa.out.trans xr.bw)
        go_wp2_with fail
        go_ret
        rw [hRR.out]
        exact ⟨rfl, ⟨_, _, H.out.bw W2.out, F1.out, F2.out⟩, TS.out.trans (W2.out.still _)⟩
    · have d : decide ((0 : Int) < (M'.length : Int)) = false := decide_eq_false (by omega)
      have hRR : R = (n, M') := by
        rw [← hR.out, show M'.length = 0 by omega]; rfl
      replace hRR := Lib.hid hRR
      go_upto_region 2 with (fail)
      refine wp_region_gg [] [] [] (by kernel_rfl) ?_
      refine hoist [] [] (a1 := ?_) 0 rfl (by kernel_rfl) (.inl ⟨rfl, rfl⟩) rfl rfl rfl (fun x K hK => ?_) ?_
      rotate_left
      · go_big_quiet_op
        exact hK
      refine hoist [] [] (a1 := ?_) 1 rfl (by kernel_rfl) (.inl ⟨rfl, rfl⟩) rfl rfl rfl (fun x K hK => ?_) ?_
      rotate_left
      · go_big_quiet_op
        exact hK
      refine hoist [] [] (a1 := ?_) 2 rfl (by kernel_rfl) (.inl ⟨rfl, rfl⟩) rfl rfl rfl (fun x K hK => ?_) ?_
      rotate_left
      · go_big_quiet_op
        exact hK
      refine hoist [] [] (a1 := ?_) 3 rfl (by kernel_rfl) (.inl ⟨rfl, rfl⟩) rfl rfl rfl (fun x K hK => ?_) ?_
      rotate_left
      · go_big_quiet_op
        exact hK
      refine hoist [] [] (a1 := ?_) 4 rfl (by kernel_rfl) (.inl ⟨rfl, rfl⟩) rfl rfl rfl (fun x K hK => ?_) ?_
      rotate_left
      · go_big_quiet_op
        exact hK
      refine hoist [] [] (a1 := ?_) 5 rfl (by kernel_rfl) (.inl ⟨rfl, rfl⟩) rfl rfl rfl (fun x K hK => ?_) ?_
      rotate_left
      · go_big_quiet_op
        exact hK
      refine hoist [] [] (a1 := ?_) 6 rfl (by kernel_rfl) (.inl ⟨rfl, rfl⟩) rfl rfl rfl (fun x K hK => ?_) ?_
      rotate_left
      · go_big_quiet_op
        exact hK
      refine hoist_skip [] [] 7 rfl (by kernel_rfl) (.inl ⟨rfl, rfl⟩) rfl (a1 := ?_) ?_ ?_
      rotate_left
      · simp only [Act.put, List.setIfInBounds_toArray, List.set_cons_succ, List.set_cons_zero]; rfl
      refine hoist_skip [] [] 8 rfl (by kernel_rfl) (.inl ⟨rfl, rfl⟩) rfl (a1 := ?_) ?_ ?_
      rotate_left
      · simp only [Act.put, List.setIfInBounds_toArray, List.set_cons_succ, List.set_cons_zero]; rfl
      refine hoist_skip [] [] 9 rfl (by kernel_rfl) (.inl ⟨rfl, rfl⟩) rfl (a1 := ?_) ?_ ?_
      rotate_left
      · simp only [Act.put, List.setIfInBounds_toArray, List.set_cons_succ, List.set_cons_zero]; rfl
      refine hoist_skip [] [] 10 rfl (by kernel_rfl) (.inl ⟨rfl, rfl⟩) rfl (a1 := ?_) ?_ ?_
      rotate_left
      · simp only [Act.put, List.setIfInBounds_toArray, List.set_cons_succ, List.set_cons_zero]; rfl
      refine hoist_skip [] [] 11 rfl (by kernel_rfl) (.inl ⟨rfl, rfl⟩) rfl (a1 := ?_) ?_ ?_
      rotate_left
      · simp only [Act.put, List.setIfInBounds_toArray, List.set_cons_succ, List.set_cons_zero]; rfl
      refine hoist_skip [] [] 12 rfl (by kernel_rfl) (.inl ⟨rfl, rfl⟩) rfl (a1 := ?_) ?_ ?_
      rotate_left
      · simp only [Act.put, List.setIfInBounds_toArray, List.set_cons_succ, List.set_cons_zero]; rfl
      refine hoist_skip [] [] 13 rfl (by kernel_rfl) (.inl ⟨rfl, rfl⟩) rfl (a1 := ?_) ?_ ?_
      rotate_left
      · simp only [Act.put, List.setIfInBounds_toArray, List.set_cons_succ, List.set_cons_zero]; rfl
      refine hoist_skip [] [] 14 rfl (by kernel_rfl) (.inl ⟨rfl, rfl⟩) rfl (a1 := ?_) ?_ ?_
      rotate_left
      · simp only [Act.put, List.setIfInBounds_toArray, List.set_cons_succ, List.set_cons_zero]; rfl
      refine hoist_skip [] [] 15 rfl (by kernel_rfl) (.inl ⟨rfl, rfl⟩) rfl (a1 := ?_) ?_ ?_
      rotate_left
      · simp only [Act.put, List.setIfInBounds_toArray, List.set_cons_succ, List.set_cons_zero]; rfl
      refine hoist_skip [] [] 16 rfl (by kernel_rfl) (.inl ⟨rfl, rfl⟩) rfl (a1 := ?_) ?_ ?_
      rotate_left
      · simp only [Act.put, List.setIfInBounds_toArray, List.set_cons_succ, List.set_cons_zero]; rfl
      refine hoist [] [] (a1 := ?_) 17 rfl (by kernel_rfl) (.inl ⟨rfl, rfl⟩) rfl rfl rfl (fun x K hK => ?_) ?_
      rotate_left
      · go_big_quiet_op
        exact hK
      refine done (by kernel_rfl) (fun xr => ?_)
      go_wp2_with fail
      go_ret
      rw [hRR.out]
      exact ⟨rfl, ⟨_, _, H.out.bw xr.bw, F1.out, F2.out⟩, TS.out.trans (xr.bw.still _)⟩
end Go.Proofs.Ytgiajnfmjpdodaa
