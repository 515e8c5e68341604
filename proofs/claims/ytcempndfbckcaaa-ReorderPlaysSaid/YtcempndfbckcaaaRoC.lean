/- The reference's buffer: Tick. No condition but the sizes'. -/
import Derived.Test.YtcempndfbckcaaaRoB
namespace Go.Proofs.Ytcempndfbckcaaa
open Go.RowKit

theorem any_take {α : Type} (p : α → Bool) (L : List α) (k : Nat) (h : k < L.length) : (L.take (k + 1)).any p = ((L.take k).any p || p L[k]) := by
  rw [List.take_succ_eq_append_getElem h, List.any_append]
  simp
theorem RoI.still {w w' : World} {base g0 sl cl_ sc cc S} (h : RoI w base g0 sl cl_ sc cc S) {T : List Nat} (hs : Still T w w') (hN : ∀ k ∈ T, NoB w k) (h0 : g0 ∉ T) (hl : ∀ k, (Value.slice sl S.L.length cl_).ownBlock = some k → k ∉ T) (hc : ∀ k, (Value.slice sc S.L.length cc).ownBlock = some k → k ∉ T) : RoI w' base g0 sl cl_ sc cc S :=
  ⟨h.hp.st hs h0, h.l.still hs hN hl, h.c.still hs (fun _ _ => trivial) hc⟩
set_option maxRecDepth 100000 in
set_option maxHeartbeats 8000000 in
theorem rtick_any (base g0 : Nat) (sl : Option Addr) (cl_ : Nat) (sc : Option Addr) (cc : Nat) (S : BS) (tick : Int) (ht : -1152921504606846976 ≤ tick ∧ tick ≤ 1152921504606846976) (hn : S.L.length ≤ 1000) (w : World) (hb0 : base ≤ w.heap.size) (h : RoI w base g0 sl cl_ sc cc S) (hok : BOk S) :
    Calls Try.prog 45 #[.pointer (some ⟨g0, 0, none⟩), .int .i64 tick] w fun e w' => ∃ sl2 cl2 sc2 cc2 so co, e = .returned (.slice so (tickS tick S.L.length S).2.length co) ∧ EQ IB 70 w' base (.slice so (tickS tick S.L.length S).2.length co) (tickS tick S.L.length S).2.length (tickS tick S.L.length S).2 ∧ RoI w' base g0 sl2 cl2 sc2 cc2 (tickS tick S.L.length S).1 ∧ Still [g0] w w' := by
  obtain ⟨R, hR⟩ : ∃ R, tickS tick S.L.length S = R := ⟨_, rfl⟩
  rw [hR]
  have hI := Lib.hid h
  have hok' := Lib.hid hok
  clear h hok
  replace hb0 := Lib.hid hb0
  replace hR := Lib.hid hR
  go_enter Try.func45, Try.ntmps45
  go_upto_region 2 with (fail)
  go_loopg [5] S.L.length (fun m' out wx => ∃ (S' : BS) (sl : Option Addr) (cl_ : Nat) (sc : Option Addr) (cc : Nat) (so : Option Addr) (co : Nat) (dn : List (Int × List Nat)) (nd : Nat), S'.L.length = m' ∧ dn.length = nd ∧ nd + m' ≤ 1000 ∧ out = .slice so nd co ∧ co ≤ 9223372036854775807 ∧ Hid (R = ((tickS tick m' S').1, dn ++ (tickS tick m' S').2)) ∧ Hid (BOk S') ∧ Hid (RoI wx base g0 sl cl_ sc cc S') ∧ Hid (EQ IB 70 wx base (.slice so nd co) nd dn) ∧ Hid (∀ j, (Value.slice so nd co).ownBlock = some j → w.heap.size ≤ j) ∧ Hid (∀ j, (Value.slice so nd co).ownBlock = some j → (Value.slice sl S'.L.length cl_).ownBlock ≠ some j) ∧ Hid (Still [g0] w wx))
  case atStart => exact ⟨S, sl, cl_, sc, cc, none, 0, [], 0, rfl, rfl, by omega, rfl, by omega, Lib.hid (by rw [← hR.out]; rfl), hok', hI, EQ.nil _ _ _ _, (fun j hj => by cases hj), (fun j hj => by cases hj), Still.refl _ _⟩
  case round =>
    clear hI hR hn hok'
    obtain ⟨S', sl, cl_, sc, cc, so, co, dn, nd, rfl, hnd, hns, rfl, hco, hR, hok, hI, hO, hG, hX, hT⟩ := hrel
    have m1 : wr.cell? ⟨g0, 3, none⟩ = some (.slice sl S'.L.length cl_) := (hp_cell hI.out.hp 3).trans rfl
    obtain ⟨_, _, he, hl1, hl2⟩ := hI.out.l.len
    cases he
    unfold maxLen at hl2
    by_cases he : S'.L.length = 0
    · have d0 : decide ((0 : Int) < (S'.L.length : Nat)) = false := decide_eq_false (by omega)
      have hR0 : Hid (mayS S' tick = false → R = (S', dn)) := Lib.hid (fun _ => by rw [hR.out, he]; simp [tickS])
      have hmay : Hid (mayS S' tick = false) := Lib.hid (by unfold mayS; simp [he])
      have hT5 := hT
      have hO5 := hO
      have hI5 := hI
      clear hT hO hI
      generalize hln : S'.L.length = ln at *
      replace hln := Lib.hid hln
      go_wp2_with fail
      go_ret
      have hRR := hR0.out hmay.out
      obtain ⟨ka, kb, kc, kd, hI5⟩ : ∃ ka kb kc kd, Hid (RoI wr base g0 ka kb kc kd S') := ⟨_, _, _, _, hI5⟩
      refine ⟨ka, kb, kc, kd, so, co, by rw [hRR]; show _ = Ending.returned (.slice so dn.length co); rw [hnd]; rfl, ?_, ?_, hT5.out⟩
      · rw [hRR]
        show EQ IB _ wr base (.slice so dn.length co) dn.length dn
        rw [hnd]
        exact hO5.out
      · rw [hRR]; exact hI5.out
    · have h0 : 0 < S'.L.length := by omega
      have d0 : decide ((0 : Int) < (S'.L.length : Nat)) = true := decide_eq_true (by omega)
      obtain ⟨g, o, rfl, -, -, hcc⟩ := hI.out.lform h0
      have hat := leastI_lt h0
      obtain ⟨_, _, z0, -⟩ := hcc (leastI S'.L) hat
      have htop : S'.top = S'.L[leastI S'.L] := by
        unfold BS.top
        simp [List.getD_eq_getElem?_getD, hat]
      rw [← htop] at z0
      have m0 : ∀ y : LaterS [] wr, _ := fun y => y.bw.cell z0
      have m2 : ∀ y : LaterS [] wr, y.now.cell? ⟨g0, 2, none⟩ = some (.int .i64 S'.next) := fun y => y.bw.cell ((hp_cell hI.out.hp 2).trans rfl)
      have m3 : ∀ y : LaterS [] wr, _ := fun y => y.bw.cell m1
      have m4 : ∀ y : LaterS [] wr, y.now.cell? ⟨g0, 0, none⟩ = some (.int .i64 S'.many) := fun y => y.bw.cell ((hp_cell hI.out.hp 0).trans rfl)
      have hR1 : mayS S' tick = true → R = ((tickS tick (takeS S').L.length (takeS S')).1, (dn ++ [(S'.top.i, S'.top.b)]) ++ (tickS tick (takeS S').L.length (takeS S')).2) := fun e => by
        rw [hR.out, ← take_len h0, tickS, if_pos e]
        simp
      have hR0 : mayS S' tick = false → R = (S', dn) := fun e => by
        rw [hR.out, ← take_len h0, tickS, if_neg (by simp [e])]
        simp
      have htl := Lib.hid (take_len h0)
      have hmS : Hid (∀ b0, b0 = (S'.top.i == S'.next || decide (S'.many < (S'.L.length : Nat))) → (b0 || S'.L.any fun E => decide (S'.wait < tick - E.c)) = mayS S' tick) := Lib.hid (fun b0 e => by
        unfold mayS lateS
        rw [e, decide_eq_true h0, Bool.true_and, Bool.or_assoc])
      have cL := Lib.hid (fun (y : World) (Y : BW wr y) => rleast_any base g0 (some ⟨g, o, none⟩) cl_ sc cc S' h0 (by omega) y (hI.out.bw Y))
      have hlal := hat
      clear hcc htop hR
      have zl := Lib.hid z0
      clear z0
      replace hR1 := Lib.hid hR1
      replace hR0 := Lib.hid hR0
      obtain ⟨ln, hln⟩ : ∃ ln, S'.L.length = ln := ⟨_, rfl⟩
      rw [hln] at m1 d0 htl hmS hns hl1 h0 hat hlal
      have m3' := m3
      rw [hln] at m3'
      clear m3
      generalize leastI S'.L = at_ at *
      cases hq : (S'.top.i == S'.next) with
      | true =>
        rw [hq] at hmS
        generalize hti : S'.top.i = ti at *
        replace hti := Lib.hid hti
        replace hln := Lib.hid hln
        go_upto_region 3 with (fail)
        refine wp_region_gg [] [] [] (by kernel_rfl) ?_
        refine hoist [] [] (a1 := ?_) 0 rfl (by kernel_rfl) (.inl ⟨rfl, rfl⟩) rfl rfl rfl (fun x K hK => ?_) ?_
        rotate_left
        · go_big_quiet_op
          exact hK
        refine hoist [] [] (a1 := ?_) 1 rfl (by kernel_rfl) (.inl ⟨rfl, rfl⟩) rfl rfl rfl (fun x K hK => ?_) ?_
        rotate_left
        · go_big_quiet_op
          exact hK
        refine hoist [] [] (a1 := ?_) 2 rfl (by kernel_rfl) (.inl ⟨rfl, rfl⟩) rfl rfl rfl (fun x K hK => ?_) ?_
        rotate_left
        · go_big_quiet_op
          exact hK
        refine hoist [] [] (a1 := ?_) 3 rfl (by kernel_rfl) (.inl ⟨rfl, rfl⟩) rfl rfl rfl (fun x K hK => ?_) ?_
        rotate_left
        · go_big_quiet_op
          exact hK
        refine hoist [] [] (a1 := ?_) 4 rfl (by kernel_rfl) (.inl ⟨rfl, rfl⟩) rfl rfl rfl (fun x K hK => ?_) ?_
        rotate_left
        · go_big_quiet_op
          exact hK
        refine hoist [] [] (a1 := ?_) 9 rfl (by kernel_rfl) (.inl ⟨rfl, rfl⟩) rfl rfl rfl (fun x K hK => ?_) ?_
        rotate_left
        · go_big_quiet_op
          exact hK
        refine hoist [] [] (a1 := ?_) 10 rfl (by kernel_rfl) (.inl ⟨rfl, rfl⟩) rfl rfl rfl (fun x K hK => ?_) ?_
        rotate_left
        · go_big_quiet_op
          exact hK
        refine hoist [] [] (a1 := ?_) 11 rfl (by kernel_rfl) (.inl ⟨rfl, rfl⟩) rfl rfl rfl (fun x K hK => ?_) ?_
        rotate_left
        · go_big_quiet_op
          exact hK
        refine hoist [] [] (a1 := ?_) 12 rfl (by kernel_rfl) (.inl ⟨rfl, rfl⟩) rfl rfl rfl (fun x K hK => ?_) ?_
        rotate_left
        · go_big_quiet_op
          exact hK
        refine effect 5 rfl (by kernel_rfl) (by kernel_rfl) rfl (fun x5 K hK => ?_)
        go_simp
        refine Calls.mono (cL.out x5.now x5.bw) ?_
        rintro e w6 ⟨rfl, hb⟩
        refine hK _ _ (hb.still []) ?_
        clear hK K
        have B5 := Lib.hid (x5.bw.trans hb)
        have m0b : ∀ y : LaterS [] w6, _ := fun y => y.bw.cell (B5.out.cell zl.out)
        clear hb
        try simp only [Act.put, List.setIfInBounds_toArray, List.set_cons_succ, List.set_cons_zero]
        refine hoist [] [] (a1 := ?_) 6 rfl (by kernel_rfl) (.inl ⟨rfl, rfl⟩) rfl rfl rfl (fun x K hK => ?_) ?_
        rotate_left
        · go_big_quiet_op
          exact hK
        refine hoist [] [] (a1 := ?_) 7 rfl (by kernel_rfl) (.inl ⟨rfl, rfl⟩) rfl rfl rfl (fun x K hK => ?_) ?_
        rotate_left
        · go_big_quiet_op
          exact hK
        refine hoist [] [] (a1 := ?_) 8 rfl (by kernel_rfl) (.inl ⟨rfl, rfl⟩) rfl rfl rfl (fun x K hK => ?_) ?_
        rotate_left
        · go_big_quiet_op
          exact hK
        refine hoist [] [] (a1 := ?_) 13 rfl (by kernel_rfl) (.inl ⟨rfl, rfl⟩) rfl rfl rfl (fun x K hK => ?_) ?_
        rotate_left
        · go_big_quiet_op
          exact hK
        refine hoist [] [] (a1 := ?_) 14 rfl (by kernel_rfl) (.inl ⟨rfl, rfl⟩) rfl rfl rfl (fun x K hK => ?_) ?_
        rotate_left
        · go_big_quiet_op
          exact hK
        refine hoist_skip [] [] 15 rfl (by kernel_rfl) (.inl ⟨rfl, rfl⟩) rfl (a1 := ?_) ?_ ?_
        rotate_left
        · simp only [Act.put, List.setIfInBounds_toArray, List.set_cons_succ, List.set_cons_zero]; rfl
        refine hoist_skip [] [] 16 rfl (by kernel_rfl) (.inl ⟨rfl, rfl⟩) rfl (a1 := ?_) ?_ ?_
        rotate_left
        · simp only [Act.put, List.setIfInBounds_toArray, List.set_cons_succ, List.set_cons_zero]; rfl
        refine hoist_skip [] [] 17 rfl (by kernel_rfl) (.inl ⟨rfl, rfl⟩) rfl (a1 := ?_) ?_ ?_
        rotate_left
        · simp only [Act.put, List.setIfInBounds_toArray, List.set_cons_succ, List.set_cons_zero]; rfl
        refine hoist_skip [] [] 18 rfl (by kernel_rfl) (.inl ⟨rfl, rfl⟩) rfl (a1 := ?_) ?_ ?_
        rotate_left
        · simp only [Act.put, List.setIfInBounds_toArray, List.set_cons_succ, List.set_cons_zero]; rfl
        refine hoist_skip [] [] 19 rfl (by kernel_rfl) (.inl ⟨rfl, rfl⟩) rfl (a1 := ?_) ?_ ?_
        rotate_left
        · simp only [Act.put, List.setIfInBounds_toArray, List.set_cons_succ, List.set_cons_zero]; rfl
        refine hoist_skip [] [] 20 rfl (by kernel_rfl) (.inl ⟨rfl, rfl⟩) rfl (a1 := ?_) ?_ ?_
        rotate_left
        · simp only [Act.put, List.setIfInBounds_toArray, List.set_cons_succ, List.set_cons_zero]; rfl
        refine hoist_skip [] [] 21 rfl (by kernel_rfl) (.inl ⟨rfl, rfl⟩) rfl (a1 := ?_) ?_ ?_
        rotate_left
        · simp only [Act.put, List.setIfInBounds_toArray, List.set_cons_succ, List.set_cons_zero]; rfl
        refine hoist_skip [] [] 22 rfl (by kernel_rfl) (.inl ⟨rfl, rfl⟩) rfl (a1 := ?_) ?_ ?_
        rotate_left
        · simp only [Act.put, List.setIfInBounds_toArray, List.set_cons_succ, List.set_cons_zero]; rfl
        refine hoist_skip [] [] 23 rfl (by kernel_rfl) (.inl ⟨rfl, rfl⟩) rfl (a1 := ?_) ?_ ?_
        rotate_left
        · simp only [Act.put, List.setIfInBounds_toArray, List.set_cons_succ, List.set_cons_zero]; rfl
        refine hoist_skip [] [] 24 rfl (by kernel_rfl) (.inl ⟨rfl, rfl⟩) rfl (a1 := ?_) ?_ ?_
        rotate_left
        · simp only [Act.put, List.setIfInBounds_toArray, List.set_cons_succ, List.set_cons_zero]; rfl
        refine hoist [] [] (a1 := ?_) 25 rfl (by kernel_rfl) (.inl ⟨rfl, rfl⟩) rfl rfl rfl (fun x K hK => ?_) ?_
        rotate_left
        · go_big_quiet_op
          exact hK
        refine hoist [] [] (a1 := ?_) 26 rfl (by kernel_rfl) (.inl ⟨rfl, rfl⟩) rfl rfl rfl (fun x K hK => ?_) ?_
        rotate_left
        · go_big_quiet_op
          exact hK
        refine done (by kernel_rfl) (fun xr => ?_)
        have B4 := Lib.hid (B5.out.trans xr.bw)
        have I4 := Lib.hid (hI.out.bw B4.out)
        clear m0 m2 m3' m4 cL B5 m0b zl
        generalize xr.now = w4 at *
        obtain ⟨b0, hb0'⟩ : ∃ b0, b0 = true := ⟨_, rfl⟩
        replace hmS := Lib.hid (hmS.out b0 (by rw [hb0']; rfl))
        replace hb0' := Lib.hid hb0'
        replace hq := Lib.hid hq
        go_upto_region 5 with (fail)
        go_loopg [6, 7] ln (fun m' mv i wx => ∃ k : Nat, m' = ln - k ∧ k ≤ ln ∧ mv = .bool (b0 || (S'.L.take k).any fun E => decide (S'.wait < tick - E.c)) ∧ i = .int .i64 (k : Nat) ∧ Hid (BW w4 wx))
        case atStart => exact ⟨0, by omega, by omega, by simp [hb0'.out], rfl, BW.refl _⟩
        case round =>
          obtain ⟨k, rfl, hk, rfl, rfl, BQ⟩ := hrel
          have I5 := Lib.hid (I4.out.bw BQ.out)
          have z4 : wr.cell? ⟨g0, 4, none⟩ = some (.slice sc ln cc) := by
            have := hp_cell I5.out.hp 4
            rw [hln.out] at this
            exact this
          have zw : wr.cell? ⟨g0, 1, none⟩ = some (.int .i64 S'.wait) := (hp_cell I5.out.hp 1).trans rfl
          by_cases hkn : k < ln
          · have e1 : decide ((k : Int) < (ln : Int)) = true := by simp; omega
            obtain ⟨gc, oc, rfl, hcl⟩ := I5.out.cform (by rw [hln.out]; omega)
            have y0 := hcl k (by rw [hln.out]; exact hkn)
            obtain ⟨_, _, hec, hc1, hc2⟩ := I5.out.c.len
            cases hec
            rw [hln.out] at hc1
            unfold maxLen at hc2
            have hEc := hok.out.ca _ (List.getElem_mem (l := S'.L) (show k < S'.L.length by rw [hln.out]; exact hkn))
            have hA := any_take (fun E : Ent => decide (S'.wait < tick - E.c)) S'.L k (by rw [hln.out]; exact hkn)
            have n0 : ∀ y : LaterS [] wr, _ := fun y => y.bw.cell y0
            have n4 : ∀ y : LaterS [] wr, _ := fun y => y.bw.cell z4
            have nw : ∀ y : LaterS [] wr, _ := fun y => y.bw.cell zw
            clear hcl y0
            generalize (S'.L[k]'(by rw [hln.out]; exact hkn)).c = c at *
            have q1 : IntKind.i64.wrap (tick - c) = tick - c := IntWalk.i64_in _ (by omega)
            cases hbk : (b0 || (S'.L.take k).any fun E => decide (S'.wait < tick - E.c)) with
            | true =>
              have hnx : (b0 || (S'.L.take (k + 1)).any fun E => decide (S'.wait < tick - E.c)) = true := by rw [hA, ← Bool.or_assoc, hbk]; rfl
              replace hA := Lib.hid hA
              replace hbk := Lib.hid hbk
              replace hnx := Lib.hid hnx
              go_upto_region 7 with (fail)
              refine wp_region_gg [] [] [] (by kernel_rfl) ?_
              refine hoist [] [] (a1 := ?_) 0 rfl (by kernel_rfl) (.inl ⟨rfl, rfl⟩) rfl rfl rfl (fun x K hK => ?_) ?_
              rotate_left
              · go_big_quiet_op
                exact hK
              refine hoist [] [] (a1 := ?_) 1 rfl (by kernel_rfl) (.inl ⟨rfl, rfl⟩) rfl rfl rfl (fun x K hK => ?_) ?_
              rotate_left
              · go_big_quiet_op
                exact hK
              refine hoist_skip [] [] 2 rfl (by kernel_rfl) (.inl ⟨rfl, rfl⟩) rfl (a1 := ?_) ?_ ?_
              rotate_left
              · simp only [Act.put, List.setIfInBounds_toArray, List.set_cons_succ, List.set_cons_zero]; rfl
              refine hoist_skip [] [] 3 rfl (by kernel_rfl) (.inl ⟨rfl, rfl⟩) rfl (a1 := ?_) ?_ ?_
              rotate_left
              · simp only [Act.put, List.setIfInBounds_toArray, List.set_cons_succ, List.set_cons_zero]; rfl
              refine hoist_skip [] [] 4 rfl (by kernel_rfl) (.inl ⟨rfl, rfl⟩) rfl (a1 := ?_) ?_ ?_
              rotate_left
              · simp only [Act.put, List.setIfInBounds_toArray, List.set_cons_succ, List.set_cons_zero]; rfl
              refine hoist_skip [] [] 5 rfl (by kernel_rfl) (.inl ⟨rfl, rfl⟩) rfl (a1 := ?_) ?_ ?_
              rotate_left
              · simp only [Act.put, List.setIfInBounds_toArray, List.set_cons_succ, List.set_cons_zero]; rfl
              refine hoist_skip [] [] 6 rfl (by kernel_rfl) (.inl ⟨rfl, rfl⟩) rfl (a1 := ?_) ?_ ?_
              rotate_left
              · simp only [Act.put, List.setIfInBounds_toArray, List.set_cons_succ, List.set_cons_zero]; rfl
              refine hoist_skip [] [] 7 rfl (by kernel_rfl) (.inl ⟨rfl, rfl⟩) rfl (a1 := ?_) ?_ ?_
              rotate_left
              · simp only [Act.put, List.setIfInBounds_toArray, List.set_cons_succ, List.set_cons_zero]; rfl
              refine hoist_skip [] [] 8 rfl (by kernel_rfl) (.inl ⟨rfl, rfl⟩) rfl (a1 := ?_) ?_ ?_
              rotate_left
              · simp only [Act.put, List.setIfInBounds_toArray, List.set_cons_succ, List.set_cons_zero]; rfl
              refine hoist_skip [] [] 9 rfl (by kernel_rfl) (.inl ⟨rfl, rfl⟩) rfl (a1 := ?_) ?_ ?_
              rotate_left
              · simp only [Act.put, List.setIfInBounds_toArray, List.set_cons_succ, List.set_cons_zero]; rfl
              refine hoist_skip [] [] 10 rfl (by kernel_rfl) (.inl ⟨rfl, rfl⟩) rfl (a1 := ?_) ?_ ?_
              rotate_left
              · simp only [Act.put, List.setIfInBounds_toArray, List.set_cons_succ, List.set_cons_zero]; rfl
              refine hoist_skip [] [] 11 rfl (by kernel_rfl) (.inl ⟨rfl, rfl⟩) rfl (a1 := ?_) ?_ ?_
              rotate_left
              · simp only [Act.put, List.setIfInBounds_toArray, List.set_cons_succ, List.set_cons_zero]; rfl
              refine hoist_skip [] [] 12 rfl (by kernel_rfl) (.inl ⟨rfl, rfl⟩) rfl (a1 := ?_) ?_ ?_
              rotate_left
              · simp only [Act.put, List.setIfInBounds_toArray, List.set_cons_succ, List.set_cons_zero]; rfl
              refine hoist_skip [] [] 13 rfl (by kernel_rfl) (.inl ⟨rfl, rfl⟩) rfl (a1 := ?_) ?_ ?_
              rotate_left
              · simp only [Act.put, List.setIfInBounds_toArray, List.set_cons_succ, List.set_cons_zero]; rfl
              refine hoist_skip [] [] 14 rfl (by kernel_rfl) (.inl ⟨rfl, rfl⟩) rfl (a1 := ?_) ?_ ?_
              rotate_left
              · simp only [Act.put, List.setIfInBounds_toArray, List.set_cons_succ, List.set_cons_zero]; rfl
              refine hoist_skip [] [] 15 rfl (by kernel_rfl) (.inl ⟨rfl, rfl⟩) rfl (a1 := ?_) ?_ ?_
              rotate_left
              · simp only [Act.put, List.setIfInBounds_toArray, List.set_cons_succ, List.set_cons_zero]; rfl
              refine hoist [] [] (a1 := ?_) 16 rfl (by kernel_rfl) (.inl ⟨rfl, rfl⟩) rfl rfl rfl (fun x K hK => ?_) ?_
              rotate_left
              · go_big_quiet_op
                exact hK
              refine hoist [] [] (a1 := ?_) 17 rfl (by kernel_rfl) (.inl ⟨rfl, rfl⟩) rfl rfl rfl (fun x K hK => ?_) ?_
              rotate_left
              · go_big_quiet_op
                exact hK
              refine done (by kernel_rfl) (fun xr => ?_)
              have B6 := Lib.hid (BQ.out.trans xr.bw)
              clear n0 n4 nw q1 I5 BQ z4 zw
              generalize xr.now = w6 at *
              go_wp2_with fail
              go_roundg (ln - (k + 1))
              case measure => omega
              case rel => exact ⟨k + 1, rfl, by omega, by rw [hnx.out], by push_cast; rfl, B6⟩
            | false =>
              have hnx : (b0 || (S'.L.take (k + 1)).any fun E => decide (S'.wait < tick - E.c)) = decide (S'.wait < tick - c) := by rw [hA, ← Bool.or_assoc, hbk]; rfl
              replace hA := Lib.hid hA
              replace hbk := Lib.hid hbk
              replace hnx := Lib.hid hnx
              go_upto_region 7 with (fail)
              refine wp_region_gg [] [] [] (by kernel_rfl) ?_
              refine hoist [] [] (a1 := ?_) 0 rfl (by kernel_rfl) (.inl ⟨rfl, rfl⟩) rfl rfl rfl (fun x K hK => ?_) ?_
              rotate_left
              · go_big_quiet_op
                exact hK
              refine hoist [] [] (a1 := ?_) 1 rfl (by kernel_rfl) (.inl ⟨rfl, rfl⟩) rfl rfl rfl (fun x K hK => ?_) ?_
              rotate_left
              · go_big_quiet_op
                exact hK
              refine hoist [] [] (a1 := ?_) 2 rfl (by kernel_rfl) (.inl ⟨rfl, rfl⟩) rfl rfl rfl (fun x K hK => ?_) ?_
              rotate_left
              · go_big_quiet_op
                exact hK
              refine hoist [] [] (a1 := ?_) 3 rfl (by kernel_rfl) (.inl ⟨rfl, rfl⟩) rfl rfl rfl (fun x K hK => ?_) ?_
              rotate_left
              · go_big_quiet_op
                exact hK
              refine hoist [] [] (a1 := ?_) 4 rfl (by kernel_rfl) (.inl ⟨rfl, rfl⟩) rfl rfl rfl (fun x K hK => ?_) ?_
              rotate_left
              · go_big_quiet_op
                exact hK
              refine hoist [] [] (a1 := ?_) 5 rfl (by kernel_rfl) (.inl ⟨rfl, rfl⟩) rfl rfl rfl (fun x K hK => ?_) ?_
              rotate_left
              · go_big_quiet_op
                exact hK
              refine hoist [] [] (a1 := ?_) 6 rfl (by kernel_rfl) (.inl ⟨rfl, rfl⟩) rfl rfl rfl (fun x K hK => ?_) ?_
              rotate_left
              · go_big_quiet_op
                exact hK
              refine hoist [] [] (a1 := ?_) 7 rfl (by kernel_rfl) (.inl ⟨rfl, rfl⟩) rfl rfl rfl (fun x K hK => ?_) ?_
              rotate_left
              · go_big_quiet_op
                exact hK
              refine hoist [] [] (a1 := ?_) 8 rfl (by kernel_rfl) (.inl ⟨rfl, rfl⟩) rfl rfl rfl (fun x K hK => ?_) ?_
              rotate_left
              · go_big_quiet_op
                exact hK
              refine hoist [] [] (a1 := ?_) 9 rfl (by kernel_rfl) (.inl ⟨rfl, rfl⟩) rfl rfl rfl (fun x K hK => ?_) ?_
              rotate_left
              · go_big_quiet_op
                exact hK
              refine hoist [] [] (a1 := ?_) 10 rfl (by kernel_rfl) (.inl ⟨rfl, rfl⟩) rfl rfl rfl (fun x K hK => ?_) ?_
              rotate_left
              · go_big_quiet_op
                exact hK
              refine hoist [] [] (a1 := ?_) 11 rfl (by kernel_rfl) (.inl ⟨rfl, rfl⟩) rfl rfl rfl (fun x K hK => ?_) ?_
              rotate_left
              · go_big_quiet_op
                exact hK
              refine hoist [] [] (a1 := ?_) 12 rfl (by kernel_rfl) (.inl ⟨rfl, rfl⟩) rfl rfl rfl (fun x K hK => ?_) ?_
              rotate_left
              · go_big_quiet_op
                exact hK
              refine hoist [] [] (a1 := ?_) 13 rfl (by kernel_rfl) (.inl ⟨rfl, rfl⟩) rfl rfl rfl (fun x K hK => ?_) ?_
              rotate_left
              · go_big_quiet_op
                exact hK
              refine hoist [] [] (a1 := ?_) 14 rfl (by kernel_rfl) (.inl ⟨rfl, rfl⟩) rfl rfl rfl (fun x K hK => ?_) ?_
              rotate_left
              · go_big_quiet_op
                exact hK
              refine hoist [] [] (a1 := ?_) 15 rfl (by kernel_rfl) (.inl ⟨rfl, rfl⟩) rfl rfl rfl (fun x K hK => ?_) ?_
              rotate_left
              · go_big_quiet_op
                exact hK
              refine hoist [] [] (a1 := ?_) 16 rfl (by kernel_rfl) (.inl ⟨rfl, rfl⟩) rfl rfl rfl (fun x K hK => ?_) ?_
              rotate_left
              · go_big_quiet_op
                exact hK
              refine hoist [] [] (a1 := ?_) 17 rfl (by kernel_rfl) (.inl ⟨rfl, rfl⟩) rfl rfl rfl (fun x K hK => ?_) ?_
              rotate_left
              · go_big_quiet_op
                exact hK
              refine done (by kernel_rfl) (fun xr => ?_)
              have B6 := Lib.hid (BQ.out.trans xr.bw)
              clear n0 n4 nw q1 I5 BQ z4 zw
              generalize xr.now = w6 at *
              go_wp2_with fail
              go_roundg (ln - (k + 1))
              case measure => omega
              case rel => exact ⟨k + 1, rfl, by omega, by rw [hnx.out], by push_cast; rfl, B6⟩
          · obtain rfl : k = ln := by omega
            have e1 : decide ((k : Int) < (k : Int)) = false := by simp
            have hmm := hmS.out
            rw [show (S'.L.take k) = S'.L from List.take_of_length_le (by rw [hln.out]; exact Nat.le_refl _), hmm]
            have hT5 := Lib.hid (hT.out.trans ((B4.out.trans BQ.out).still [g0]))
            have hO5 := Lib.hid (hO.out.bw (B4.out.trans BQ.out))
            have hI5 := Lib.hid (hI.out.bw (B4.out.trans BQ.out))
            clear I5 I4 hO hI hT B4 BQ hmm
            cases hmay : mayS S' tick with
            | false =>
              replace hmay := Lib.hid hmay
              clear hR1
              go_wp2_with fail
              go_ret
              have hRR := hR0.out hmay.out
              obtain ⟨ka, kb, kc, kd, hI5⟩ : ∃ ka kb kc kd, Hid (RoI wr base g0 ka kb kc kd S') := ⟨_, _, _, _, hI5⟩
              refine ⟨ka, kb, kc, kd, so, co, by rw [hRR]; show _ = Ending.returned (.slice so dn.length co); rw [hnd]; rfl, ?_, ?_, hT5.out⟩
              · rw [hRR]
                show EQ IB _ wr base (.slice so dn.length co) dn.length dn
                rw [hnd]
                exact hO5.out
              · rw [hRR]; exact hI5.out
            | true =>
              have hRR := hR1.out hmay
              replace hmay := Lib.hid hmay
              replace hRR := Lib.hid hRR
              clear hR1 hR0
              have htk := Lib.hid (rtake_any base g0 _ _ _ _ S' (by rw [hln.out]; exact h0) (by rw [hln.out]; omega) wr (Nat.le_trans hb0.out hT5.out.size) hI5.out hok.out)
              have hX5 := hX.out
              have htl' := htl.out
              generalize hto : S'.top = E at *
              replace hto := Lib.hid hto
              generalize hT1 : takeS S' = S1 at *
              replace hT1 := Lib.hid hT1
              replace hX5 := Lib.hid hX5
              have hk1 : Hid (BOk S1) := Lib.hid (by rw [← hT1.out]; exact take_ok (by rw [hln.out]; exact h0) hok.out)
              obtain ⟨l1, hl1⟩ : ∃ l1, S1.L.length = l1 := ⟨_, rfl⟩
              rw [hl1] at htk htl' hRR
              replace hl1 := Lib.hid hl1
              go_wp2_with fail
              refine htk.out.mono ?_
              rintro e w5 ⟨s, cb, sl2, cl2, sc2, cc2, rfl, O5, I5, T5, G5, J5⟩
              have B6 := Lib.hid (show BW w5 (w5.alloc (.cells #[.int .i64 E.i, .slice s E.b.length cb] 70)) from (BW.refl w5).alloc)
              have L6 := Lib.hid (Sls.new1 (E := IB) w5 70 [.int .i64 E.i, .slice s E.b.length cb] rfl)
              have Q5 := Lib.hid ((hO5.out.still T5 (fun k hk => (by simpa using hk : k = g0) ▸ .inr ⟨_, _, _, hI5.out.hp, by decide⟩) (fun j hj => by have := hO5.out.ne hI5.out.hp (by decide) j hj; simpa using this)).bw B6.out)
              have S6 : Hid (∀ j, (Value.slice so nd co).ownBlock = some j → (Value.slice sl2 l1 cl2).ownBlock ≠ some j) := Lib.hid (fun j hj e => by have h1 := hO5.out.lt' j hj; have h2 := G5 j (by rw [← e]); omega)
              have T6 := Lib.hid ((hT5.out.trans T5).trans (B6.out.still [g0]))
              have R6 : Hid (IB.R (w5.alloc (.cells #[.int .i64 E.i, .slice s E.b.length cb] 70)) base (E.i, E.b) [.int .i64 E.i, .slice s E.b.length cb]) := Lib.hid ⟨_, rfl, O5.bw B6.out⟩
              have I6 := Lib.hid (I5.bw B6.out)
              have hz6 := Lib.hid (Nat.le_trans hb0.out T6.out.size)
              clear O5 I5 T5 B6 G5 J5 htk
              dsimp only
              go_wp2_with (at_builtin; go_must (refine wpList_apEQ slKp rfl _ _ rfl base (.slice so nd co) nd dn rfl Q5.out _ rfl 1 [(E.i, E.b)] [.int .i64 E.i, .slice s E.b.length cb] L6.out (EL.single R6.out) rfl (by omega) hz6.out (Q5.out.noB (by decide)) ?_; intro s7 c7 w7 hc7 hm7 Q7 T7 B7 G7; unfold maxLen at hm7; replace Q7 := Lib.hid Q7; replace T7 := Lib.hid T7; replace G7 := Lib.hid G7; clear B7))
              have I7 := Lib.hid (I6.out.still T7.out (Q5.out.noB (by decide)) (fun hm => Q5.out.ne I6.out.hp (by decide) _ (by simpa using hm) rfl) (fun j hj hm => S6.out j (by simpa using hm) (by rw [hl1.out] at hj; exact hj)) (I6.out.c.sep Q5.out (by decide)))
              have G8 : Hid (∀ j, (Value.slice s7 (nd + 1) c7).ownBlock = some j → w.heap.size ≤ j) := Lib.hid (fun j hj => (G7.out j hj).elim (fun h => hG.out j h) (fun h => Nat.le_trans T6.out.size h))
              have T8 := Lib.hid (T6.out.transF T7.out (fun j hj => .inr (hG.out j (by simpa using hj))))
              have X8 : Hid (∀ j, (Value.slice s7 (nd + 1) c7).ownBlock = some j → (Value.slice sl2 l1 cl2).ownBlock ≠ some j) := Lib.hid (fun j hj e => by
                rcases G7.out j hj with h | h
                · exact S6.out j h e
                · have := I6.out.l.lt' j (by rw [hl1.out]; exact e)
                  omega)
              go_roundg l1
              case measure => have := hln.out; omega
              case rel => exact ⟨S1, sl2, cl2, sc2, cc2, s7, c7, dn ++ [(E.i, E.b)], nd + 1, hl1.out, by simp [hnd], by omega, rfl, hm7, Lib.hid (by rw [hti.out]; exact hRR.out), hk1, I7, Q7, G8, by rw [hl1.out]; exact X8, T8⟩
      | false =>
        rw [hq] at hmS
        generalize hti : S'.top.i = ti at *
        generalize hb0' : decide (S'.many < (ln : Nat)) = b0 at *
        have z3l := Lib.hid m1
        have z4l : Hid (wr.cell? ⟨g0, 0, none⟩ = some (.int .i64 S'.many)) := Lib.hid ((hp_cell hI.out.hp 0).trans rfl)
        replace hti := Lib.hid hti
        replace hln := Lib.hid hln
        replace hb0' := Lib.hid hb0'
        go_upto_region 3 with (fail)
        refine wp_region_gg [] [] [] (by kernel_rfl) ?_
        refine hoist [] [] (a1 := ?_) 0 rfl (by kernel_rfl) (.inl ⟨rfl, rfl⟩) rfl rfl rfl (fun x K hK => ?_) ?_
        rotate_left
        · go_big_quiet_op
          exact hK
        refine hoist [] [] (a1 := ?_) 1 rfl (by kernel_rfl) (.inl ⟨rfl, rfl⟩) rfl rfl rfl (fun x K hK => ?_) ?_
        rotate_left
        · go_big_quiet_op
          exact hK
        refine hoist [] [] (a1 := ?_) 2 rfl (by kernel_rfl) (.inl ⟨rfl, rfl⟩) rfl rfl rfl (fun x K hK => ?_) ?_
        rotate_left
        · go_big_quiet_op
          exact hK
        refine hoist [] [] (a1 := ?_) 3 rfl (by kernel_rfl) (.inl ⟨rfl, rfl⟩) rfl rfl rfl (fun x K hK => ?_) ?_
        rotate_left
        · go_big_quiet_op
          exact hK
        refine hoist [] [] (a1 := ?_) 4 rfl (by kernel_rfl) (.inl ⟨rfl, rfl⟩) rfl rfl rfl (fun x K hK => ?_) ?_
        rotate_left
        · go_big_quiet_op
          exact hK
        refine hoist [] [] (a1 := ?_) 9 rfl (by kernel_rfl) (.inl ⟨rfl, rfl⟩) rfl rfl rfl (fun x K hK => ?_) ?_
        rotate_left
        · go_big_quiet_op
          exact hK
        refine hoist [] [] (a1 := ?_) 10 rfl (by kernel_rfl) (.inl ⟨rfl, rfl⟩) rfl rfl rfl (fun x K hK => ?_) ?_
        rotate_left
        · go_big_quiet_op
          exact hK
        refine hoist [] [] (a1 := ?_) 11 rfl (by kernel_rfl) (.inl ⟨rfl, rfl⟩) rfl rfl rfl (fun x K hK => ?_) ?_
        rotate_left
        · go_big_quiet_op
          exact hK
        refine hoist [] [] (a1 := ?_) 12 rfl (by kernel_rfl) (.inl ⟨rfl, rfl⟩) rfl rfl rfl (fun x K hK => ?_) ?_
        rotate_left
        · go_big_quiet_op
          exact hK
        refine effect 5 rfl (by kernel_rfl) (by kernel_rfl) rfl (fun x5 K hK => ?_)
        go_simp
        refine Calls.mono (cL.out x5.now x5.bw) ?_
        rintro e w6 ⟨rfl, hb⟩
        refine hK _ _ (hb.still []) ?_
        clear hK K
        have B5 := Lib.hid (x5.bw.trans hb)
        have m0b : ∀ y : LaterS [] w6, _ := fun y => y.bw.cell (B5.out.cell zl.out)
        have m3b : ∀ y : LaterS [] w6, _ := fun y => y.bw.cell (B5.out.cell z3l.out)
        have m4b : ∀ y : LaterS [] w6, _ := fun y => y.bw.cell (B5.out.cell z4l.out)
        clear hb
        try simp only [Act.put, List.setIfInBounds_toArray, List.set_cons_succ, List.set_cons_zero]
        refine hoist [] [] (a1 := ?_) 6 rfl (by kernel_rfl) (.inl ⟨rfl, rfl⟩) rfl rfl rfl (fun x K hK => ?_) ?_
        rotate_left
        · go_big_quiet_op
          exact hK
        refine hoist [] [] (a1 := ?_) 7 rfl (by kernel_rfl) (.inl ⟨rfl, rfl⟩) rfl rfl rfl (fun x K hK => ?_) ?_
        rotate_left
        · go_big_quiet_op
          exact hK
        refine hoist [] [] (a1 := ?_) 8 rfl (by kernel_rfl) (.inl ⟨rfl, rfl⟩) rfl rfl rfl (fun x K hK => ?_) ?_
        rotate_left
        · go_big_quiet_op
          exact hK
        refine hoist [] [] (a1 := ?_) 13 rfl (by kernel_rfl) (.inl ⟨rfl, rfl⟩) rfl rfl rfl (fun x K hK => ?_) ?_
        rotate_left
        · go_big_quiet_op
          exact hK
        refine hoist [] [] (a1 := ?_) 14 rfl (by kernel_rfl) (.inl ⟨rfl, rfl⟩) rfl rfl rfl (fun x K hK => ?_) ?_
        rotate_left
        · go_big_quiet_op
          exact hK
        refine hoist [] [] (a1 := ?_) 15 rfl (by kernel_rfl) (.inl ⟨rfl, rfl⟩) rfl rfl rfl (fun x K hK => ?_) ?_
        rotate_left
        · go_big_quiet_op
          exact hK
        refine hoist [] [] (a1 := ?_) 16 rfl (by kernel_rfl) (.inl ⟨rfl, rfl⟩) rfl rfl rfl (fun x K hK => ?_) ?_
        rotate_left
        · go_big_quiet_op
          exact hK
        refine hoist [] [] (a1 := ?_) 17 rfl (by kernel_rfl) (.inl ⟨rfl, rfl⟩) rfl rfl rfl (fun x K hK => ?_) ?_
        rotate_left
        · go_big_quiet_op
          exact hK
        refine hoist [] [] (a1 := ?_) 18 rfl (by kernel_rfl) (.inl ⟨rfl, rfl⟩) rfl rfl rfl (fun x K hK => ?_) ?_
        rotate_left
        · go_big_quiet_op
          exact hK
        refine hoist [] [] (a1 := ?_) 19 rfl (by kernel_rfl) (.inl ⟨rfl, rfl⟩) rfl rfl rfl (fun x K hK => ?_) ?_
        rotate_left
        · go_big_quiet_op
          exact hK
        refine hoist [] [] (a1 := ?_) 20 rfl (by kernel_rfl) (.inl ⟨rfl, rfl⟩) rfl rfl rfl (fun x K hK => ?_) ?_
        rotate_left
        · go_big_quiet_op
          exact hK
        refine hoist [] [] (a1 := ?_) 21 rfl (by kernel_rfl) (.inl ⟨rfl, rfl⟩) rfl rfl rfl (fun x K hK => ?_) ?_
        rotate_left
        · go_big_quiet_op
          exact hK
        refine hoist [] [] (a1 := ?_) 22 rfl (by kernel_rfl) (.inl ⟨rfl, rfl⟩) rfl rfl rfl (fun x K hK => ?_) ?_
        rotate_left
        · go_big_quiet_op
          exact hK
        refine hoist [] [] (a1 := ?_) 23 rfl (by kernel_rfl) (.inl ⟨rfl, rfl⟩) rfl rfl rfl (fun x K hK => ?_) ?_
        rotate_left
        · go_big_quiet_op
          exact hK
        refine hoist [] [] (a1 := ?_) 24 rfl (by kernel_rfl) (.inl ⟨rfl, rfl⟩) rfl rfl rfl (fun x K hK => ?_) ?_
        rotate_left
        · go_big_quiet_op
          exact hK
        refine hoist [] [] (a1 := ?_) 25 rfl (by kernel_rfl) (.inl ⟨rfl, rfl⟩) rfl rfl rfl (fun x K hK => ?_) ?_
        rotate_left
        · go_big_quiet_op
          exact hK
        refine hoist [] [] (a1 := ?_) 26 rfl (by kernel_rfl) (.inl ⟨rfl, rfl⟩) rfl rfl rfl (fun x K hK => ?_) ?_
        rotate_left
        · go_big_quiet_op
          exact hK
        refine done (by kernel_rfl) (fun xr => ?_)
        have B4 := Lib.hid (B5.out.trans xr.bw)
        have I4 := Lib.hid (hI.out.bw B4.out)
        clear m0 m2 m3' m4 cL B5 m0b zl m3b m4b z3l z4l
        generalize xr.now = w4 at *
        replace hmS := Lib.hid (hmS.out b0 rfl)
        replace hq := Lib.hid hq
        go_upto_region 5 with (fail)
        go_loopg [6, 7] ln (fun m' mv i wx => ∃ k : Nat, m' = ln - k ∧ k ≤ ln ∧ mv = .bool (b0 || (S'.L.take k).any fun E => decide (S'.wait < tick - E.c)) ∧ i = .int .i64 (k : Nat) ∧ Hid (BW w4 wx))
        case atStart => exact ⟨0, by omega, by omega, by simp [hb0'.out], rfl, BW.refl _⟩
        case round =>
          obtain ⟨k, rfl, hk, rfl, rfl, BQ⟩ := hrel
          have I5 := Lib.hid (I4.out.bw BQ.out)
          have z4 : wr.cell? ⟨g0, 4, none⟩ = some (.slice sc ln cc) := by
            have := hp_cell I5.out.hp 4
            rw [hln.out] at this
            exact this
          have zw : wr.cell? ⟨g0, 1, none⟩ = some (.int .i64 S'.wait) := (hp_cell I5.out.hp 1).trans rfl
          by_cases hkn : k < ln
          · have e1 : decide ((k : Int) < (ln : Int)) = true := by simp; omega
            obtain ⟨gc, oc, rfl, hcl⟩ := I5.out.cform (by rw [hln.out]; omega)
            have y0 := hcl k (by rw [hln.out]; exact hkn)
            obtain ⟨_, _, hec, hc1, hc2⟩ := I5.out.c.len
            cases hec
            rw [hln.out] at hc1
            unfold maxLen at hc2
            have hEc := hok.out.ca _ (List.getElem_mem (l := S'.L) (show k < S'.L.length by rw [hln.out]; exact hkn))
            have hA := any_take (fun E : Ent => decide (S'.wait < tick - E.c)) S'.L k (by rw [hln.out]; exact hkn)
            have n0 : ∀ y : LaterS [] wr, _ := fun y => y.bw.cell y0
            have n4 : ∀ y : LaterS [] wr, _ := fun y => y.bw.cell z4
            have nw : ∀ y : LaterS [] wr, _ := fun y => y.bw.cell zw
            clear hcl y0
            generalize (S'.L[k]'(by rw [hln.out]; exact hkn)).c = c at *
            have q1 : IntKind.i64.wrap (tick - c) = tick - c := IntWalk.i64_in _ (by omega)
            cases hbk : (b0 || (S'.L.take k).any fun E => decide (S'.wait < tick - E.c)) with
            | true =>
              have hnx : (b0 || (S'.L.take (k + 1)).any fun E => decide (S'.wait < tick - E.c)) = true := by rw [hA, ← Bool.or_assoc, hbk]; rfl
              replace hA := Lib.hid hA
              replace hbk := Lib.hid hbk
              replace hnx := Lib.hid hnx
              go_upto_region 7 with (fail)
              refine wp_region_gg [] [] [] (by kernel_rfl) ?_
              refine hoist [] [] (a1 := ?_) 0 rfl (by kernel_rfl) (.inl ⟨rfl, rfl⟩) rfl rfl rfl (fun x K hK => ?_) ?_
              rotate_left
              · go_big_quiet_op
                exact hK
              refine hoist [] [] (a1 := ?_) 1 rfl (by kernel_rfl) (.inl ⟨rfl, rfl⟩) rfl rfl rfl (fun x K hK => ?_) ?_
              rotate_left
              · go_big_quiet_op
                exact hK
              refine hoist_skip [] [] 2 rfl (by kernel_rfl) (.inl ⟨rfl, rfl⟩) rfl (a1 := ?_) ?_ ?_
              rotate_left
              · simp only [Act.put, List.setIfInBounds_toArray, List.set_cons_succ, List.set_cons_zero]; rfl
              refine hoist_skip [] [] 3 rfl (by kernel_rfl) (.inl ⟨rfl, rfl⟩) rfl (a1 := ?_) ?_ ?_
              rotate_left
              · simp only [Act.put, List.setIfInBounds_toArray, List.set_cons_succ, List.set_cons_zero]; rfl
              refine hoist_skip [] [] 4 rfl (by kernel_rfl) (.inl ⟨rfl, rfl⟩) rfl (a1 := ?_) ?_ ?_
              rotate_left
              · simp only [Act.put, List.setIfInBounds_toArray, List.set_cons_succ, List.set_cons_zero]; rfl
              refine hoist_skip [] [] 5 rfl (by kernel_rfl) (.inl ⟨rfl, rfl⟩) rfl (a1 := ?_) ?_ ?_
              rotate_left
              · simp only [Act.put, List.setIfInBounds_toArray, List.set_cons_succ, List.set_cons_zero]; rfl
              refine hoist_skip [] [] 6 rfl (by kernel_rfl) (.inl ⟨rfl, rfl⟩) rfl (a1 := ?_) ?_ ?_
              rotate_left
              · simp only [Act.put, List.setIfInBounds_toArray, List.set_cons_succ, List.set_cons_zero]; rfl
              refine hoist_skip [] [] 7 rfl (by kernel_rfl) (.inl ⟨rfl, rfl⟩) rfl (a1 := ?_) ?_ ?_
              rotate_left
              · simp only [Act.put, List.setIfInBounds_toArray, List.set_cons_succ, List.set_cons_zero]; rfl
              refine hoist_skip [] [] 8 rfl (by kernel_rfl) (.inl ⟨rfl, rfl⟩) rfl (a1 := ?_) ?_ ?_
              rotate_left
              · simp only [Act.put, List.setIfInBounds_toArray, List.set_cons_succ, List.set_cons_zero]; rfl
              refine hoist_skip [] [] 9 rfl (by kernel_rfl) (.inl ⟨rfl, rfl⟩) rfl (a1 := ?_) ?_ ?_
              rotate_left
              · simp only [Act.put, List.setIfInBounds_toArray, List.set_cons_succ, List.set_cons_zero]; rfl
              refine hoist_skip [] [] 10 rfl (by kernel_rfl) (.inl ⟨rfl, rfl⟩) rfl (a1 := ?_) ?_ ?_
              rotate_left
              · simp only [Act.put, List.setIfInBounds_toArray, List.set_cons_succ, List.set_cons_zero]; rfl
              refine hoist_skip [] [] 11 rfl (by kernel_rfl) (.inl ⟨rfl, rfl⟩) rfl (a1 := ?_) ?_ ?_
              rotate_left
              · simp only [Act.put, List.setIfInBounds_toArray, List.set_cons_succ, List.set_cons_zero]; rfl
              refine hoist_skip [] [] 12 rfl (by kernel_rfl) (.inl ⟨rfl, rfl⟩) rfl (a1 := ?_) ?_ ?_
              rotate_left
              · simp only [Act.put, List.setIfInBounds_toArray, List.set_cons_succ, List.set_cons_zero]; rfl
              refine hoist_skip [] [] 13 rfl (by kernel_rfl) (.inl ⟨rfl, rfl⟩) rfl (a1 := ?_) ?_ ?_
              rotate_left
              · simp only [Act.put, List.setIfInBounds_toArray, List.set_cons_succ, List.set_cons_zero]; rfl
              refine hoist_skip [] [] 14 rfl (by kernel_rfl) (.inl ⟨rfl, rfl⟩) rfl (a1 := ?_) ?_ ?_
              rotate_left
              · simp only [Act.put, List.setIfInBounds_toArray, List.set_cons_succ, List.set_cons_zero]; rfl
              refine hoist_skip [] [] 15 rfl (by kernel_rfl) (.inl ⟨rfl, rfl⟩) rfl (a1 := ?_) ?_ ?_
              rotate_left
              · simp only [Act.put, List.setIfInBounds_toArray, List.set_cons_succ, List.set_cons_zero]; rfl
              refine hoist [] [] (a1 := ?_) 16 rfl (by kernel_rfl) (.inl ⟨rfl, rfl⟩) rfl rfl rfl (fun x K hK => ?_) ?_
              rotate_left
              · go_big_quiet_op
                exact hK
              refine hoist [] [] (a1 := ?_) 17 rfl (by kernel_rfl) (.inl ⟨rfl, rfl⟩) rfl rfl rfl (fun x K hK => ?_) ?_
              rotate_left
              · go_big_quiet_op
                exact hK
              refine done (by kernel_rfl) (fun xr => ?_)
              have B6 := Lib.hid (BQ.out.trans xr.bw)
              clear n0 n4 nw q1 I5 BQ z4 zw
              generalize xr.now = w6 at *
              go_wp2_with fail
              go_roundg (ln - (k + 1))
              case measure => omega
              case rel => exact ⟨k + 1, rfl, by omega, by rw [hnx.out], by push_cast; rfl, B6⟩
            | false =>
              have hnx : (b0 || (S'.L.take (k + 1)).any fun E => decide (S'.wait < tick - E.c)) = decide (S'.wait < tick - c) := by rw [hA, ← Bool.or_assoc, hbk]; rfl
              replace hA := Lib.hid hA
              replace hbk := Lib.hid hbk
              replace hnx := Lib.hid hnx
              go_upto_region 7 with (fail)
              refine wp_region_gg [] [] [] (by kernel_rfl) ?_
              refine hoist [] [] (a1 := ?_) 0 rfl (by kernel_rfl) (.inl ⟨rfl, rfl⟩) rfl rfl rfl (fun x K hK => ?_) ?_
              rotate_left
              · go_big_quiet_op
                exact hK
              refine hoist [] [] (a1 := ?_) 1 rfl (by kernel_rfl) (.inl ⟨rfl, rfl⟩) rfl rfl rfl (fun x K hK => ?_) ?_
              rotate_left
              · go_big_quiet_op
                exact hK
              refine hoist [] [] (a1 := ?_) 2 rfl (by kernel_rfl) (.inl ⟨rfl, rfl⟩) rfl rfl rfl (fun x K hK => ?_) ?_
              rotate_left
              · go_big_quiet_op
                exact hK
              refine hoist [] [] (a1 := ?_) 3 rfl (by kernel_rfl) (.inl ⟨rfl, rfl⟩) rfl rfl rfl (fun x K hK => ?_) ?_
              rotate_left
              · go_big_quiet_op
                exact hK
              refine hoist [] [] (a1 := ?_) 4 rfl (by kernel_rfl) (.inl ⟨rfl, rfl⟩) rfl rfl rfl (fun x K hK => ?_) ?_
              rotate_left
              · go_big_quiet_op
                exact hK
              refine hoist [] [] (a1 := ?_) 5 rfl (by kernel_rfl) (.inl ⟨rfl, rfl⟩) rfl rfl rfl (fun x K hK => ?_) ?_
              rotate_left
              · go_big_quiet_op
                exact hK
              refine hoist [] [] (a1 := ?_) 6 rfl (by kernel_rfl) (.inl ⟨rfl, rfl⟩) rfl rfl rfl (fun x K hK => ?_) ?_
              rotate_left
              · go_big_quiet_op
                exact hK
              refine hoist [] [] (a1 := ?_) 7 rfl (by kernel_rfl) (.inl ⟨rfl, rfl⟩) rfl rfl rfl (fun x K hK => ?_) ?_
              rotate_left
              · go_big_quiet_op
                exact hK
              refine hoist [] [] (a1 := ?_) 8 rfl (by kernel_rfl) (.inl ⟨rfl, rfl⟩) rfl rfl rfl (fun x K hK => ?_) ?_
              rotate_left
              · go_big_quiet_op
                exact hK
              refine hoist [] [] (a1 := ?_) 9 rfl (by kernel_rfl) (.inl ⟨rfl, rfl⟩) rfl rfl rfl (fun x K hK => ?_) ?_
              rotate_left
              · go_big_quiet_op
                exact hK
              refine hoist [] [] (a1 := ?_) 10 rfl (by kernel_rfl) (.inl ⟨rfl, rfl⟩) rfl rfl rfl (fun x K hK => ?_) ?_
              rotate_left
              · go_big_quiet_op
                exact hK
              refine hoist [] [] (a1 := ?_) 11 rfl (by kernel_rfl) (.inl ⟨rfl, rfl⟩) rfl rfl rfl (fun x K hK => ?_) ?_
              rotate_left
              · go_big_quiet_op
                exact hK
              refine hoist [] [] (a1 := ?_) 12 rfl (by kernel_rfl) (.inl ⟨rfl, rfl⟩) rfl rfl rfl (fun x K hK => ?_) ?_
              rotate_left
              · go_big_quiet_op
                exact hK
              refine hoist [] [] (a1 := ?_) 13 rfl (by kernel_rfl) (.inl ⟨rfl, rfl⟩) rfl rfl rfl (fun x K hK => ?_) ?_
              rotate_left
              · go_big_quiet_op
                exact hK
              refine hoist [] [] (a1 := ?_) 14 rfl (by kernel_rfl) (.inl ⟨rfl, rfl⟩) rfl rfl rfl (fun x K hK => ?_) ?_
              rotate_left
              · go_big_quiet_op
                exact hK
              refine hoist [] [] (a1 := ?_) 15 rfl (by kernel_rfl) (.inl ⟨rfl, rfl⟩) rfl rfl rfl (fun x K hK => ?_) ?_
              rotate_left
              · go_big_quiet_op
                exact hK
              refine hoist [] [] (a1 := ?_) 16 rfl (by kernel_rfl) (.inl ⟨rfl, rfl⟩) rfl rfl rfl (fun x K hK => ?_) ?_
              rotate_left
              · go_big_quiet_op
                exact hK
              refine hoist [] [] (a1 := ?_) 17 rfl (by kernel_rfl) (.inl ⟨rfl, rfl⟩) rfl rfl rfl (fun x K hK => ?_) ?_
              rotate_left
              · go_big_quiet_op
                exact hK
              refine done (by kernel_rfl) (fun xr => ?_)
              have B6 := Lib.hid (BQ.out.trans xr.bw)
              clear n0 n4 nw q1 I5 BQ z4 zw
              generalize xr.now = w6 at *
              go_wp2_with fail
              go_roundg (ln - (k + 1))
              case measure => omega
              case rel => exact ⟨k + 1, rfl, by omega, by rw [hnx.out], by push_cast; rfl, B6⟩
          · obtain rfl : k = ln := by omega
            have e1 : decide ((k : Int) < (k : Int)) = false := by simp
            have hmm := hmS.out
            rw [show (S'.L.take k) = S'.L from List.take_of_length_le (by rw [hln.out]; exact Nat.le_refl _), hmm]
            have hT5 := Lib.hid (hT.out.trans ((B4.out.trans BQ.out).still [g0]))
            have hO5 := Lib.hid (hO.out.bw (B4.out.trans BQ.out))
            have hI5 := Lib.hid (hI.out.bw (B4.out.trans BQ.out))
            clear I5 I4 hO hI hT B4 BQ hmm
            cases hmay : mayS S' tick with
            | false =>
              replace hmay := Lib.hid hmay
              clear hR1
              go_wp2_with fail
              go_ret
              have hRR := hR0.out hmay.out
              obtain ⟨ka, kb, kc, kd, hI5⟩ : ∃ ka kb kc kd, Hid (RoI wr base g0 ka kb kc kd S') := ⟨_, _, _, _, hI5⟩
              refine ⟨ka, kb, kc, kd, so, co, by rw [hRR]; show _ = Ending.returned (.slice so dn.length co); rw [hnd]; rfl, ?_, ?_, hT5.out⟩
              · rw [hRR]
                show EQ IB _ wr base (.slice so dn.length co) dn.length dn
                rw [hnd]
                exact hO5.out
              · rw [hRR]; exact hI5.out
            | true =>
              have hRR := hR1.out hmay
              replace hmay := Lib.hid hmay
              replace hRR := Lib.hid hRR
              clear hR1 hR0
              have htk := Lib.hid (rtake_any base g0 _ _ _ _ S' (by rw [hln.out]; exact h0) (by rw [hln.out]; omega) wr (Nat.le_trans hb0.out hT5.out.size) hI5.out hok.out)
              have hX5 := hX.out
              have htl' := htl.out
              generalize hto : S'.top = E at *
              replace hto := Lib.hid hto
              generalize hT1 : takeS S' = S1 at *
              replace hT1 := Lib.hid hT1
              replace hX5 := Lib.hid hX5
              have hk1 : Hid (BOk S1) := Lib.hid (by rw [← hT1.out]; exact take_ok (by rw [hln.out]; exact h0) hok.out)
              obtain ⟨l1, hl1⟩ : ∃ l1, S1.L.length = l1 := ⟨_, rfl⟩
              rw [hl1] at htk htl' hRR
              replace hl1 := Lib.hid hl1
              go_wp2_with fail
              refine htk.out.mono ?_
              rintro e w5 ⟨s, cb, sl2, cl2, sc2, cc2, rfl, O5, I5, T5, G5, J5⟩
              have B6 := Lib.hid (show BW w5 (w5.alloc (.cells #[.int .i64 E.i, .slice s E.b.length cb] 70)) from (BW.refl w5).alloc)
              have L6 := Lib.hid (Sls.new1 (E := IB) w5 70 [.int .i64 E.i, .slice s E.b.length cb] rfl)
              have Q5 := Lib.hid ((hO5.out.still T5 (fun k hk => (by simpa using hk : k = g0) ▸ .inr ⟨_, _, _, hI5.out.hp, by decide⟩) (fun j hj => by have := hO5.out.ne hI5.out.hp (by decide) j hj; simpa using this)).bw B6.out)
              have S6 : Hid (∀ j, (Value.slice so nd co).ownBlock = some j → (Value.slice sl2 l1 cl2).ownBlock ≠ some j) := Lib.hid (fun j hj e => by have h1 := hO5.out.lt' j hj; have h2 := G5 j (by rw [← e]); omega)
              have T6 := Lib.hid ((hT5.out.trans T5).trans (B6.out.still [g0]))
              have R6 : Hid (IB.R (w5.alloc (.cells #[.int .i64 E.i, .slice s E.b.length cb] 70)) base (E.i, E.b) [.int .i64 E.i, .slice s E.b.length cb]) := Lib.hid ⟨_, rfl, O5.bw B6.out⟩
              have I6 := Lib.hid (I5.bw B6.out)
              have hz6 := Lib.hid (Nat.le_trans hb0.out T6.out.size)
              clear O5 I5 T5 B6 G5 J5 htk
              dsimp only
              go_wp2_with (at_builtin; go_must (refine wpList_apEQ slKp rfl _ _ rfl base (.slice so nd co) nd dn rfl Q5.out _ rfl 1 [(E.i, E.b)] [.int .i64 E.i, .slice s E.b.length cb] L6.out (EL.single R6.out) rfl (by omega) hz6.out (Q5.out.noB (by decide)) ?_; intro s7 c7 w7 hc7 hm7 Q7 T7 B7 G7; unfold maxLen at hm7; replace Q7 := Lib.hid Q7; replace T7 := Lib.hid T7; replace G7 := Lib.hid G7; clear B7))
              have I7 := Lib.hid (I6.out.still T7.out (Q5.out.noB (by decide)) (fun hm => Q5.out.ne I6.out.hp (by decide) _ (by simpa using hm) rfl) (fun j hj hm => S6.out j (by simpa using hm) (by rw [hl1.out] at hj; exact hj)) (I6.out.c.sep Q5.out (by decide)))
              have G8 : Hid (∀ j, (Value.slice s7 (nd + 1) c7).ownBlock = some j → w.heap.size ≤ j) := Lib.hid (fun j hj => (G7.out j hj).elim (fun h => hG.out j h) (fun h => Nat.le_trans T6.out.size h))
              have T8 := Lib.hid (T6.out.transF T7.out (fun j hj => .inr (hG.out j (by simpa using hj))))
              have X8 : Hid (∀ j, (Value.slice s7 (nd + 1) c7).ownBlock = some j → (Value.slice sl2 l1 cl2).ownBlock ≠ some j) := Lib.hid (fun j hj e => by
                rcases G7.out j hj with h | h
                · exact S6.out j h e
                · have := I6.out.l.lt' j (by rw [hl1.out]; exact e)
                  omega)
              go_roundg l1
              case measure => have := hln.out; omega
              case rel => exact ⟨S1, sl2, cl2, sc2, cc2, s7, c7, dn ++ [(E.i, E.b)], nd + 1, hl1.out, by simp [hnd], by omega, rfl, hm7, Lib.hid (by rw [hti.out]; exact hRR.out), hk1, I7, Q7, G8, by rw [hl1.out]; exact X8, T8⟩
end Go.Proofs.Ytcempndfbckcaaa
