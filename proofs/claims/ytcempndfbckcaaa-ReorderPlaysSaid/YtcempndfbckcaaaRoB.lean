/- The reference's buffer: take. No condition but the sizes'. -/
import Derived.Test.YtcempndfbckcaaaRoA
namespace Go.Proofs.Ytcempndfbckcaaa
open Go.RowKit

theorem er_suc {α : Type} (L : List α) (at_ k : Nat) (h : k < L.length) : (L.take (k + 1)).eraseIdx at_ = if k = at_ then (L.take k).eraseIdx at_ else (L.take k).eraseIdx at_ ++ [L[k]] := by
  rw [List.take_succ_eq_append_getElem h]
  have hl : (L.take k).length = k := by rw [List.length_take]; omega
  by_cases h1 : at_ < k
  · rw [if_neg (by omega), List.eraseIdx_append_of_lt_length (by omega)]
  · rw [List.eraseIdx_append_of_length_le (by omega), hl, List.eraseIdx_of_length_le (l := L.take k) (by omega)]
    by_cases e : k = at_
    · subst e; rw [if_pos rfl, Nat.sub_self]; simp
    · rw [if_neg e, List.eraseIdx_of_length_le (by simp; omega)]
theorem EQ.sep {α β : Type} {E : Elt α} {F : Elt β} {T U : TypeId} {w : World} {b1 b2 : Nat} {v u : Value} {n m : Nat} {l : List α} {k : List β} (h : EQ E T w b1 v n l) (g : EQ F U w b2 u m k) (ht : T ≠ U) : ∀ j, v.ownBlock = some j → j ∉ u.ownBlock.toList := fun j hj hm => by
  obtain ⟨cs, hr⟩ := g.row j (by simpa using hm)
  exact h.ne hr ht.symm j hj rfl
theorem map_eraseIdx' {α β : Type} (f : α → β) : ∀ (l : List α) (i : Nat), (l.eraseIdx i).map f = (l.map f).eraseIdx i
  | [], _ => rfl
  | _ :: _, 0 => rfl
  | a :: l, i + 1 => by simp [map_eraseIdx' f l i]
set_option maxRecDepth 100000 in
set_option maxHeartbeats 8000000 in
theorem rtake_any (base g0 : Nat) (sl : Option Addr) (cl_ : Nat) (sc : Option Addr) (cc : Nat) (S : BS) (h0 : 0 < S.L.length) (hn : S.L.length ≤ 1000) (w : World) (hb0 : base ≤ w.heap.size) (h : RoI w base g0 sl cl_ sc cc S) (hk : BOk S) :
    Calls Try.prog 80 #[.pointer (some ⟨g0, 0, none⟩)] w fun e w' => ∃ s cb sl2 cl2 sc2 cc2, e = .returned (.agg #[.int .i64 S.top.i, .slice s S.top.b.length cb]) ∧ OB w' base 5 (.slice s S.top.b.length cb) S.top.b.length S.top.b ∧ RoI w' base g0 sl2 cl2 sc2 cc2 (takeS S) ∧ Still [g0] w w' ∧ (∀ j, (Value.slice sl2 (takeS S).L.length cl2).ownBlock = some j → w.heap.size ≤ j) ∧ (∀ j, (Value.slice sc2 (takeS S).L.length cc2).ownBlock = some j → w.heap.size ≤ j) := by
  have hat := leastI_lt h0
  have htop : S.top = S.L[leastI S.L] := by
    unfold BS.top
    simp [List.getD_eq_getElem?_getD, hat]
  have B1 : BW w (w.alloc (.cells #[.int .i64 0, .slice none 0 0] 70)) := (BW.refl w).alloc
  have X1 := HpB.new w (.cells #[.int .i64 0, .slice none 0 0] 70)
  have h1 := h.bw B1
  have cL := Lib.hid (rleast_any base g0 sl cl_ sc cc S h0 hn _ h1)
  have hlt := h.hp.lt
  have hbx : g0 ≠ w.heap.size := Nat.ne_of_lt hlt
  have hH := Lib.hid h1
  have ix := hk.ix _ (top_mem h0)
  have hpa := hk.pa
  have hnx := hk.nx
  replace X1 := Lib.hid X1
  replace B1 := Lib.hid B1
  clear h h1
  go_enter Try.func80, Try.ntmps80
  go_upto_region 1 with (fail)
  generalize w.alloc (.cells #[.int .i64 0, .slice none 0 0] 70) = w1 at *
  generalize hbe : w.heap.size = bx at *
  replace hbe := Lib.hid hbe
  go_wp2_with fail
  refine Calls.mono cL.out ?_
  rintro e w2 ⟨rfl, hb⟩
  have H2 := Lib.hid (hH.out.bw hb)
  have B2 := Lib.hid (B1.out.trans hb)
  have X2 := Lib.hid (X1.out.bw hb)
  clear cL hb hH B1 X1
  obtain ⟨g, o, rfl, hc1, hc2, hcc⟩ := H2.out.lform h0
  obtain ⟨s, cb, z0, z1, OT⟩ := hcc (leastI S.L) hat
  rw [← htop] at z0 z1 OT
  unfold maxLen at hc2
  have z3 : w2.cell? ⟨g0, 3, none⟩ = some (.slice (some ⟨g, o, none⟩) S.L.length cl_) := hp_cell H2.out.hp 3
  have hTL : (takeS S).L = S.L.eraseIdx (leastI S.L) := rfl
  have hTN : (takeS S).next = S.top.i + 1 := rfl
  have hTP : (takeS S).passed = S.passed + (S.top.i - S.next) := rfl
  have hxb := X2.out.lt
  have hgb := H2.out.hp.lt
  clear hcc
  dsimp only
  generalize hla : leastI S.L = at_ at *
  generalize hbl : S.top.b.length = bl at *
  generalize hti : S.top.i = ti at *
  replace OT := Lib.hid OT
  replace htop := Lib.hid htop
  replace hTL := Lib.hid hTL
  replace hTN := Lib.hid hTN
  replace hTP := Lib.hid hTP
  replace hla := Lib.hid hla
  replace hti := Lib.hid hti
  replace hbl := Lib.hid hbl
  go_upto_region 6 with (fail)
  have W3 : BW w2 (w2.alloc (.cells #[.int .i64 ti, .slice s bl cb] 70)) := (BW.refl w2).alloc
  have X4 := Lib.hid (HpB.new w2 (.cells #[.int .i64 ti, .slice s bl cb] 70))
  have H3 := Lib.hid (H2.out.bw W3)
  have B3 := Lib.hid (B2.out.trans W3)
  have X3 := Lib.hid (X2.out.bw W3)
  have OT3 := Lib.hid (OT.out.bw W3)
  have hb4 : bx < w2.heap.size := hxb
  have hg4 : g0 ≠ w2.heap.size := Nat.ne_of_lt hgb
  have hx3 : bx < (w2.alloc (.cells #[.int .i64 ti, .slice s bl cb] 70)).heap.size := X3.out.lt
  clear z0 z1 z3 H2 B2 X2 OT W3 hxb hgb
  generalize w2.alloc (.cells #[.int .i64 ti, .slice s bl cb] 70) = w3 at *
  generalize w2.heap.size = b4 at *
  have hfi : (S.L.map prE).length = S.L.length := by simp
  have hfb : (S.L.map Ent.c).length = S.L.length := by simp
  have her1 := fun k hk => er_suc (S.L.map prE) at_ k hk
  have her2 := fun k hk => er_suc (S.L.map Ent.c) at_ k hk
  have hbw := Nat.le_trans hb0 (Nat.le_of_eq hbe.out.symm)
  obtain ⟨n, hnn⟩ : ∃ n, S.L.length = n := ⟨_, rfl⟩
  rw [hnn] at h0 hn hc1 hat hfi hfb
  replace hnn := Lib.hid hnn
  replace hfi := Lib.hid hfi
  replace hfb := Lib.hid hfb
  replace her1 := Lib.hid her1
  replace her2 := Lib.hid her2
  replace hbw := Lib.hid hbw
  replace hb0 := Lib.hid hb0
  replace hx3 := Lib.hid hx3
  replace hb4 := Lib.hid hb4
  replace hg4 := Lib.hid hg4
  go_loopg [5, 6, 7] n (fun m' s t i wx => ∃ (k m : Nat) (s4 : Option Addr) (c4 : Nat) (s5 : Option Addr) (c5 : Nat), m' = n - k ∧ k ≤ n ∧ s = .slice s4 m c4 ∧ t = .slice s5 m c5 ∧ c4 ≤ 9223372036854775807 ∧ c5 ≤ 9223372036854775807 ∧ m ≤ k ∧ i = .int .i64 (k : Nat) ∧ Hid (EQ IB 70 wx base (.slice s4 m c4) m (((S.L.map prE).take k).eraseIdx at_)) ∧ Hid (EQ I1 2 wx base (.slice s5 m c5) m (((S.L.map Ent.c).take k).eraseIdx at_)) ∧ Hid (∀ j, (Value.slice s4 m c4).ownBlock = some j → w3.heap.size ≤ j) ∧ Hid (∀ j, (Value.slice s5 m c5).ownBlock = some j → w3.heap.size ≤ j) ∧ Hid (BW w3 wx))
  case atStart => exact ⟨0, 0, none, 0, none, 0, by omega, by omega, rfl, rfl, by omega, by omega, by omega, rfl, EQ.nil _ _ _ _, EQ.nil _ _ _ _, (fun j hj => by cases hj), (fun j hj => by cases hj), BW.refl _⟩
  case round =>
    obtain ⟨k, m, s4, c4, s5, c5, rfl, hk, rfl, rfl, hc4, hc5, hmk, rfl, Q4, Q5, F4, F5, B⟩ := hrel
    have hHr := Lib.hid (H3.out.bw B.out)
    have z3 : wr.cell? ⟨g0, 3, none⟩ = some (.slice (some ⟨g, o, none⟩) n cl_) := by
      have := hp_cell hHr.out.hp 3
      rw [hnn.out] at this
      exact this
    have z4 : wr.cell? ⟨g0, 4, none⟩ = some (.slice sc n cc) := by
      have := hp_cell hHr.out.hp 4
      rw [hnn.out] at this
      exact this
    by_cases hkn : k < n
    · have d : decide ((k : Int) < (n : Int)) = true := by simp; omega
      have h1 := her1.out k (by rw [hfi.out]; exact hkn)
      have h2 := her2.out k (by rw [hfb.out]; exact hkn)
      by_cases hka : k = at_
      · have d2 : ((k : Int) != (at_ : Int)) = false := by simp; omega
        rw [if_pos hka] at h1 h2
        rw [← h1] at Q4
        rw [← h2] at Q5
        replace h1 := Lib.hid h1
        replace h2 := Lib.hid h2
        replace hka := Lib.hid hka
        go_wp2_with fail
        go_roundg (n - (k + 1))
        case measure => omega
        case rel => exact ⟨k + 1, m, s4, c4, s5, c5, rfl, by omega, rfl, rfl, hc4, hc5, by omega, by push_cast; rfl, Q4, Q5, F4, F5, B⟩
      · have d2 : ((k : Int) != (at_ : Int)) = true := by simp; omega
        rw [if_neg hka] at h1 h2
        obtain ⟨_, _, he, -, -, hcl⟩ := hHr.out.lform (by rw [hnn.out]; omega)
        cases he
        obtain ⟨sk, ck, y0, y1, OK⟩ := hcl k (by rw [hnn.out]; exact hkn)
        obtain ⟨g5, o5, rfl, hcl2⟩ := hHr.out.cform (by rw [hnn.out]; omega)
        have y2 := hcl2 k (by rw [hnn.out]; exact hkn)
        obtain ⟨_, _, he5, hn5, hm5⟩ := hHr.out.c.len
        cases he5
        rw [hnn.out] at hn5
        unfold maxLen at hm5
        rw [List.getElem_map] at h1 h2
        clear hcl hcl2
        generalize hEk : S.L[k]'(by rw [hnn.out]; exact hkn) = E at *
        have hel := Lib.hid (rfl : E.b.length = E.b.length)
        have BA : BW wr (wr.alloc (.cells #[.int .i64 E.i, .slice sk E.b.length ck] 70)) := (BW.refl _).alloc
        have L4 := Lib.hid (Sls.new1 (E := IB) wr 70 [.int .i64 E.i, .slice sk E.b.length ck] rfl)
        have Q4a := Lib.hid (Q4.out.bw BA)
        have Q5a := Lib.hid (Q5.out.bw BA)
        have Ba := Lib.hid (B.out.trans BA)
        have hza := Nat.le_trans hbw.out (Nat.le_trans B3.out.size Ba.out.size)
        have R4 : Hid (IB.R (wr.alloc (.cells #[.int .i64 E.i, .slice sk E.b.length ck] 70)) base (prE E) [.int .i64 E.i, .slice sk E.b.length ck]) := Lib.hid ⟨_, rfl, OK.bw BA⟩
        replace h1 := Lib.hid h1
        replace h2 := Lib.hid h2
        replace hka := Lib.hid hka
        replace BA := Lib.hid BA
        replace hEk := Lib.hid hEk
        clear z4 y2 OK
        go_upto_region 10 with (at_builtin; go_must (refine wpList_apEQ slKp rfl _ _ rfl base (.slice s4 m c4) m _ rfl Q4a.out _ rfl 1 [prE E] [.int .i64 E.i, .slice sk E.b.length ck] L4.out (EL.single R4.out) rfl (by omega) hza (Q4a.out.noB (by decide)) ?_; intro s6 c6 w6 hc6 hm6 O6 T6 hb6 G6; unfold maxLen at hm6; replace O6 := Lib.hid O6; replace T6 := Lib.hid T6; replace G6 := Lib.hid G6; clear hb6))
        have hzw := Nat.le_refl w3.heap.size
        have F6 : ∀ j, (Value.slice s6 (m + 1) c6).ownBlock = some j → w3.heap.size ≤ j := fun j h1 => by
          rcases G6.out j h1 with h2 | h2
          · exact F4.out j h2
          · exact Nat.le_trans Ba.out.size h2
        have B6 := Lib.hid (BW.stP Ba.out T6.out (fun j hj => F4.out j (by simpa using hj)))
        have Q5b := Lib.hid (Q5a.out.still T6.out (fun _ _ => trivial) (Q5a.out.sep Q4a.out (by decide)))
        have hH6 := Lib.hid (H3.out.bw B6.out)
        have z4 : w6.cell? ⟨g0, 4, none⟩ = some (.slice (some ⟨g5, o5, none⟩) n cc) := by
          have := hp_cell hH6.out.hp 4
          rw [hnn.out] at this
          exact this
        obtain ⟨b3, o3, he3, hc3⟩ := hH6.out.cform (by rw [hnn.out]; omega)
        simp only [Option.some.injEq, Addr.mk.injEq, and_true] at he3
        obtain ⟨rfl, rfl⟩ := he3
        have y2 := hc3 k (by rw [hnn.out]; exact hkn)
        rw [hEk.out] at y2
        have BB : BW w6 (w6.alloc (.cells #[.int .i64 E.c] 2)) := (BW.refl _).alloc
        have L5 := Lib.hid (Sls.new1 (E := I1) w6 2 [.int .i64 E.c] rfl)
        have Q5c := Lib.hid (Q5b.out.bw BB)
        have O6c := Lib.hid (O6.out.bw BB)
        have Bc := Lib.hid (B6.out.trans BB)
        have hzc := Nat.le_trans hbw.out (Nat.le_trans B3.out.size Bc.out.size)
        clear hc3 Q5b O6 B6 T6 G6 Q4a Q5a L4 Ba hza y0 y1 z3 hHr hH6 R4
        replace F6 := Lib.hid F6
        replace BB := Lib.hid BB
        go_wp2_with (at_builtin; go_must (refine wpList_apEQ slI64 rfl _ _ rfl base (.slice s5 m c5) m _ rfl Q5c.out _ rfl 1 [E.c] [.int .i64 E.c] L5.out (EL.single rfl) rfl (by omega) hzc (fun _ _ => trivial) ?_; intro s7 c7 w7 hc7 hm7 O7 T7 hb7 G7; unfold maxLen at hm7; replace O7 := Lib.hid O7; replace T7 := Lib.hid T7; replace G7 := Lib.hid G7; clear hb7))
        have F7 : ∀ j, (Value.slice s7 (m + 1) c7).ownBlock = some j → w3.heap.size ≤ j := fun j h1 => by
          rcases G7.out j h1 with h2 | h2
          · exact F5.out j h2
          · exact Nat.le_trans Bc.out.size h2
        have B7 := Lib.hid (BW.stP Bc.out T7.out (fun j hj => F5.out j (by simpa using hj)))
        have O6d := Lib.hid (O6c.out.still T7.out (Q5c.out.noB (by decide)) (O6c.out.sep Q5c.out (by decide)))
        have P6 : Hid (EQ IB 70 w7 base (.slice s6 (m + 1) c6) (m + 1) (((S.L.map prE).take (k + 1)).eraseIdx at_)) := Lib.hid (by rw [h1.out]; exact O6d.out)
        have P7 : Hid (EQ I1 2 w7 base (.slice s7 (m + 1) c7) (m + 1) (((S.L.map Ent.c).take (k + 1)).eraseIdx at_)) := Lib.hid (by rw [h2.out]; exact O7.out)
        clear O6c O7 T7 G7 Q5c L5 Bc hzc y2 z4 O6d d d2
        replace F7 := Lib.hid F7
        go_wp2_with fail
        go_roundg (n - (k + 1))
        case measure => omega
        case rel => exact ⟨k + 1, m + 1, s6, c6, s7, c7, rfl, by omega, rfl, rfl, hm6, hm7, by omega, by push_cast; rfl, P6, P7, F6, F7, B7⟩
    · obtain rfl : k = n := by omega
      have d : decide ((k : Int) < (k : Int)) = false := by simp
      rw [List.take_of_length_le (by rw [hfi.out]; exact Nat.le_refl _), ← map_eraseIdx', ← hTL.out] at Q4
      rw [List.take_of_length_le (by rw [hfb.out]; exact Nat.le_refl _), ← map_eraseIdx', ← hTL.out] at Q5
      have hle : (takeS S).L.length = m := by have := Q4.out.1; simpa using this
      have y3 := hp_frz hHr.out.hp 3
      have P4 : HpB (wr.setCell ⟨g0, 3, none⟩ (.slice s4 m c4)) g0 (.cells #[.int .i64 S.many, .int .i64 S.wait, .int .i64 S.next, .slice s4 m c4, .slice sc S.L.length cc, .int .i64 S.passed, .int .i64 S.dropped] 86) := hp_set hHr.out.hp 3 _
      have y4 := hp_frz P4 4
      have P5 : HpB ((wr.setCell ⟨g0, 3, none⟩ (.slice s4 m c4)).setCell ⟨g0, 4, none⟩ (.slice s5 m c5)) g0 (.cells #[.int .i64 S.many, .int .i64 S.wait, .int .i64 S.next, .slice s4 m c4, .slice s5 m c5, .int .i64 S.passed, .int .i64 S.dropped] 86) := hp_set P4 4 _
      have TS := (still_sc wr g0 3 (.slice s4 m c4)).trans (still_sc (wr.setCell ⟨g0, 3, none⟩ (.slice s4 m c4)) g0 4 (.slice s5 m c5))
      have NG : ∀ j ∈ [g0], NoB wr j := fun j hj => (by simpa using hj : j = g0) ▸ .inr ⟨_, _, _, hHr.out.hp, by decide⟩
      have ql5 := Lib.hid (Q4.out.still TS NG (fun j hj => by have := Q4.out.ne hHr.out.hp (by decide) j hj; simpa using this))
      have qc5 := Lib.hid (Q5.out.still TS (fun _ _ => trivial) (fun j hj => by have := Q5.out.ne hHr.out.hp (by decide) j hj; simpa using this))
      have X5 := Lib.hid ((X4.out.bw B.out).st TS (by simpa using fun e => hg4.out e.symm))
      have XX5 := Lib.hid ((X3.out.bw B.out).st TS (by simpa using fun e => hbx e.symm))
      have OT5 := Lib.hid ((OT3.out.bw B.out).still TS (NoB.ob (OT3.out.bw B.out) NG))
      have T5 := Lib.hid (((B3.out.trans B.out).still [g0]).trans TS)
      have hG4 := hg4.out
      clear TS NG Q4 Q5 X4 X3 OT3 B3 P4 hb4 hg4
      replace hle := Lib.hid hle
      replace hG4 := Lib.hid hG4
      replace P5 := Lib.hid P5
      go_upto_region 13 with (fail)
      generalize (wr.setCell ⟨g0, 3, none⟩ (.slice s4 m c4)).setCell ⟨g0, 4, none⟩ (.slice s5 m c5) = w5 at *
      clear z3 z4 y3 y4 hHr B
      have z5 := (hp_cell P5.out 5).trans (show _ = some (.int .i64 S.passed) from rfl)
      have z2 := (hp_cell P5.out 2).trans (show _ = some (.int .i64 S.next) from rfl)
      have z0 := (hp_cell X5.out 0).trans (show _ = some (.int .i64 ti) from rfl)
      have n5 : ∀ y : LaterS [] w5, _ := fun y => y.bw.cell z5
      have n2 : ∀ y : LaterS [] w5, _ := fun y => y.bw.cell z2
      have n0 : ∀ y : LaterS [] w5, _ := fun y => y.bw.cell z0
      clear z5 z2 z0
      refine wp_region_gg [] [] [13] (by kernel_rfl) ?_
      refine hoist [] [] (a1 := ?_) 0 rfl (by kernel_rfl) (.inl ⟨rfl, rfl⟩) rfl rfl rfl (fun x K hK => ?_) ?_
      rotate_left
      · go_big_quiet_op
        exact hK
      refine hoist [] [] (a1 := ?_) 1 rfl (by kernel_rfl) (.inl ⟨rfl, rfl⟩) rfl rfl rfl (fun x K hK => ?_) ?_
      rotate_left
      · go_big_quiet_op
        exact hK
      refine hoist [] [] (a1 := ?_) 2 rfl (by kernel_rfl) (.inl ⟨rfl, rfl⟩) rfl rfl rfl (fun x K hK => ?_) ?_
      rotate_left
      · go_big_quiet_op
        exact hK
      refine hoist [] [] (a1 := ?_) 3 rfl (by kernel_rfl) (.inl ⟨rfl, rfl⟩) rfl rfl rfl (fun x K hK => ?_) ?_
      rotate_left
      · go_big_quiet_op
        exact hK
      refine hoist [] [] (a1 := ?_) 4 rfl (by kernel_rfl) (.inl ⟨rfl, rfl⟩) rfl rfl rfl (fun x K hK => ?_) ?_
      rotate_left
      · go_big_quiet_op
        exact hK
      refine hoist [] [] (a1 := ?_) 5 rfl (by kernel_rfl) (.inl ⟨rfl, rfl⟩) rfl rfl rfl (fun x K hK => ?_) ?_
      rotate_left
      · go_big_quiet_op
        exact hK
      refine hoist [] [] (a1 := ?_) 6 rfl (by kernel_rfl) (.inl ⟨rfl, rfl⟩) rfl rfl rfl (fun x K hK => ?_) ?_
      rotate_left
      · go_big_quiet_op
        exact hK
      refine hoist [] [] (a1 := ?_) 7 rfl (by kernel_rfl) (.inl ⟨rfl, rfl⟩) rfl rfl rfl (fun x K hK => ?_) ?_
      rotate_left
      · go_big_quiet_op
        exact hK
      refine hoist [] [] (a1 := ?_) 8 rfl (by kernel_rfl) (.inl ⟨rfl, rfl⟩) rfl rfl rfl (fun x K hK => ?_) ?_
      rotate_left
      · go_big_quiet_op
        exact hK
      refine hoist [] [] (a1 := ?_) 9 rfl (by kernel_rfl) (.inl ⟨rfl, rfl⟩) rfl rfl rfl (fun x K hK => ?_) ?_
      rotate_left
      · go_big_quiet_op
        exact hK
      refine hoist [] [] (a1 := ?_) 10 rfl (by kernel_rfl) (.inl ⟨rfl, rfl⟩) rfl rfl rfl (fun x K hK => ?_) ?_
      rotate_left
      · go_big_quiet_op
        exact hK
      refine hoist [] [] (a1 := ?_) 11 rfl (by kernel_rfl) (.inl ⟨rfl, rfl⟩) rfl rfl rfl (fun x K hK => ?_) ?_
      rotate_left
      · go_big_quiet_op
        exact hK
      refine hoist [] [] (a1 := ?_) 12 rfl (by kernel_rfl) (.inl ⟨rfl, rfl⟩) rfl rfl rfl (fun x K hK => ?_) ?_
      rotate_left
      · go_big_quiet_op
        exact hK
      refine tail 13 rfl (by kernel_rfl) rfl (fun xr => ?_)
      simp only [List.drop_succ_cons, List.drop_zero]
      have P6 := Lib.hid (P5.out.bw xr.bw)
      have ql6 := Lib.hid (ql5.out.bw xr.bw)
      have qc6 := Lib.hid (qc5.out.bw xr.bw)
      have X6 := Lib.hid (X5.out.bw xr.bw)
      have XX6 := Lib.hid (XX5.out.bw xr.bw)
      have OT6 := Lib.hid (OT5.out.bw xr.bw)
      have T6 := Lib.hid (T5.out.trans (xr.bw.still [g0]))
      clear n5 n2 n0 P5 ql5 qc5 X5 XX5 OT5 T5
      generalize xr.now = w6 at *
      have y5 := hp_frz P6.out 5
      have z5 := (hp_cell P6.out 5).trans (show _ = some (.int .i64 S.passed) from rfl)
      have z2 := (hp_cell P6.out 2).trans (show _ = some (.int .i64 S.next) from rfl)
      have P7 : HpB (w6.setCell ⟨g0, 5, none⟩ (.int .i64 (S.passed + ti - S.next))) g0 (.cells #[.int .i64 S.many, .int .i64 S.wait, .int .i64 S.next, .slice s4 m c4, .slice s5 m c5, .int .i64 (S.passed + ti - S.next), .int .i64 S.dropped] 86) := hp_set P6.out 5 _
      have P8 : HpB ((w6.setCell ⟨g0, 5, none⟩ (.int .i64 (S.passed + ti - S.next))).setCell ⟨g0, 2, none⟩ (.int .i64 (ti + 1))) g0 (.cells #[.int .i64 S.many, .int .i64 S.wait, .int .i64 (ti + 1), .slice s4 m c4, .slice s5 m c5, .int .i64 (S.passed + ti - S.next), .int .i64 S.dropped] 86) := hp_set P7 2 _
      have z0 := (hp_cell (X6.out.st (still_sc w6 g0 5 (.int .i64 (S.passed + ti - S.next))) (by simpa using fun e => hG4.out e.symm)) 0).trans (show _ = some (.int .i64 ti) from rfl)
      have y2 := hp_frz P7 2
      have TS := (still_sc w6 g0 5 (.int .i64 (S.passed + ti - S.next))).trans (still_sc (w6.setCell ⟨g0, 5, none⟩ (.int .i64 (S.passed + ti - S.next))) g0 2 (.int .i64 (ti + 1)))
      have NG : ∀ j ∈ [g0], NoB w6 j := fun j hj => (by simpa using hj : j = g0) ▸ .inr ⟨_, _, _, P6.out, by decide⟩
      have ql8 := Lib.hid (ql6.out.still TS NG (fun j hj => by have := ql6.out.ne P6.out (by decide) j hj; simpa using this))
      have qc8 := Lib.hid (qc6.out.still TS (fun _ _ => trivial) (fun j hj => by have := qc6.out.ne P6.out (by decide) j hj; simpa using this))
      have X8 := Lib.hid (X6.out.st TS (by simpa using fun e => hG4.out e.symm))
      have XX8 := Lib.hid (XX6.out.st TS (by simpa using fun e => hbx e.symm))
      have OT8 := Lib.hid (OT6.out.still TS (NoB.ob OT6.out NG))
      have T8 := Lib.hid (T6.out.trans TS)
      clear TS NG ql6 qc6 XX6 X6 OT6 T6 P7
      replace P8 := Lib.hid P8
      go_upto_region 15 with (fail)
      generalize (w6.setCell ⟨g0, 5, none⟩ (.int .i64 (S.passed + ti - S.next))).setCell ⟨g0, 2, none⟩ (.int .i64 (ti + 1)) = w8 at *
      clear P6 y5 y2 z0 z5 z2
      have k0 := (hp_cell X8.out 0).trans (show _ = some (.int .i64 ti) from rfl)
      have k1 := (hp_cell X8.out 1).trans (show _ = some (.slice s bl cb) from rfl)
      have f0 := hp_frz XX8.out 0
      have f1 := hp_frz XX8.out 1
      have l0 := (hp_cell XX8.out 0).trans (show _ = some (.int .i64 0) from rfl)
      have l1 := (hp_cell XX8.out 1).trans (show _ = some (.slice none 0 0) from rfl)
      have st8 := still_st2 w8 bx (.int .i64 ti) (.slice s bl cb)
      have hR1 := OT8.out.still st8 (NoB.ob OT8.out (fun j hj => (by simpa using hj : j = bx) ▸ .inr ⟨_, _, _, XX8.out, by decide⟩))
      have hR2 : HpB ((w8.setCell ⟨bx, 0, none⟩ (.int .i64 ti)).setCell ⟨bx, 1, none⟩ (.slice s bl cb)) g0 _ := P8.out.st st8 (by simpa using hbx)
      have hR3 := ql8.out.still st8 (fun j hj => (by simpa using hj : j = bx) ▸ .inr ⟨_, _, _, XX8.out, by decide⟩) (fun j hj hm => by obtain rfl : j = bx := (by simpa using hm); have := F4.out j hj; have := hx3.out; omega)
      have hR4 := qc8.out.still st8 (fun _ _ => trivial) (fun j hj hm => by obtain rfl : j = bx := (by simpa using hm); have := F5.out j hj; have := hx3.out; omega)
      have hR5 := T8.out.transF st8 (fun j hj => .inr (by obtain rfl : j = bx := (by simpa using hj); exact Nat.le_of_eq hbe.out))
      have XX9 := XX8.out.st2 rfl (.int .i64 ti) (.slice s bl cb)
      replace hR1 := Lib.hid hR1
      replace hR2 := Lib.hid hR2
      replace hR3 := Lib.hid hR3
      replace hR4 := Lib.hid hR4
      replace hR5 := Lib.hid hR5
      replace XX9 := Lib.hid XX9
      clear st8
      go_wp2_with fail
      generalize (w8.setCell ⟨bx, 0, none⟩ (.int .i64 ti)).setCell ⟨bx, 1, none⟩ (.slice s bl cb) = w9 at *
      clear k0 k1 f0 f1 l0 l1
      have k0 := (hp_cell XX9.out 0).trans (show _ = some (.int .i64 ti) from rfl)
      have k1 := (hp_cell XX9.out 1).trans (show _ = some (.slice s bl cb) from rfl)
      refine bodyPost_ret (v := .agg #[.int .i64 ti, .slice s bl cb]) (by simp [results, Try.results80, go_sem, k0, k1]) rfl ⟨s, cb, s4, c4, s5, c5, ?_, ?_, ⟨?_, ?_, ?_⟩, hR5.out, fun j hj => ?_, fun j hj => ?_⟩
      · rw [hti.out, hbl.out]
      · rw [hbl.out]; exact hR1.out
      · have h2 := hR2.out
        rw [hle.out, hTN.out, hTP.out, show S.passed + (ti - S.next) = S.passed + ti - S.next by omega]
        exact h2
      · rw [hle.out]; exact hR3.out
      · rw [hle.out]; exact hR4.out
      · have := F4.out j (by rw [hle.out] at hj; exact hj)
        have := hx3.out
        have := hbe.out
        omega
      · have := F5.out j (by rw [hle.out] at hj; exact hj)
        have := hx3.out
        have := hbe.out
        omega
end Go.Proofs.Ytcempndfbckcaaa
