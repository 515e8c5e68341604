/- The reference's buffer: Flush, New; Same. No condition but the sizes'. -/
import Derived.Test.YtcempndfbckcaaaRoC
import Derived.Test.YtcempndfbckcaaaBst
namespace Go.Proofs.Ytcempndfbckcaaa
open Go.RowKit

set_option maxRecDepth 100000 in
set_option maxHeartbeats 8000000 in
theorem rflush_any (base g0 : Nat) (sl : Option Addr) (cl_ : Nat) (sc : Option Addr) (cc : Nat) (S : BS) (hn : S.L.length ≤ 1000) (w : World) (hb0 : base ≤ w.heap.size) (h : RoI w base g0 sl cl_ sc cc S) (hok : BOk S) :
    Calls Try.prog 46 #[.pointer (some ⟨g0, 0, none⟩)] w fun e w' => ∃ sl2 cl2 sc2 cc2 so co, e = .returned (.slice so (flushS S.L.length S).2.length co) ∧ EQ IB 70 w' base (.slice so (flushS S.L.length S).2.length co) (flushS S.L.length S).2.length (flushS S.L.length S).2 ∧ RoI w' base g0 sl2 cl2 sc2 cc2 (flushS S.L.length S).1 ∧ Still [g0] w w' := by
  obtain ⟨R, hR⟩ : ∃ R, flushS S.L.length S = R := ⟨_, rfl⟩
  rw [hR]
  have hI := Lib.hid h
  have hok' := Lib.hid hok
  clear h hok
  replace hb0 := Lib.hid hb0
  replace hR := Lib.hid hR
  go_enter Try.func46, Try.ntmps46
  go_upto_region 2 with (fail)
  go_loopg [3] S.L.length (fun m' out wx => ∃ (S' : BS) (sl : Option Addr) (cl_ : Nat) (sc : Option Addr) (cc : Nat) (so : Option Addr) (co : Nat) (dn : List (Int × List Nat)) (nd : Nat), S'.L.length = m' ∧ dn.length = nd ∧ nd + m' ≤ 1000 ∧ out = .slice so nd co ∧ co ≤ 9223372036854775807 ∧ Hid (R = ((flushS m' S').1, dn ++ (flushS m' S').2)) ∧ Hid (BOk S') ∧ Hid (RoI wx base g0 sl cl_ sc cc S') ∧ Hid (EQ IB 70 wx base (.slice so nd co) nd dn) ∧ Hid (∀ j, (Value.slice so nd co).ownBlock = some j → w.heap.size ≤ j) ∧ Hid (∀ j, (Value.slice so nd co).ownBlock = some j → (Value.slice sl S'.L.length cl_).ownBlock ≠ some j) ∧ Hid (Still [g0] w wx))
  case atStart => exact ⟨S, sl, cl_, sc, cc, none, 0, [], 0, rfl, rfl, by omega, rfl, by omega, Lib.hid (by rw [← hR.out]; rfl), hok', hI, EQ.nil _ _ _ _, (fun j hj => by cases hj), (fun j hj => by cases hj), Still.refl _ _⟩
  case round =>
    clear hI hR hn hok'
    obtain ⟨S', sl, cl_, sc, cc, so, co, dn, nd, rfl, hnd, hns, rfl, hco, hR, hok, hI5, hO5, hG, hX, hT5⟩ := hrel
    have m1 : wr.cell? ⟨g0, 3, none⟩ = some (.slice sl S'.L.length cl_) := (hp_cell hI5.out.hp 3).trans rfl
    obtain ⟨_, _, he, hl1, hl2⟩ := hI5.out.l.len
    cases he
    unfold maxLen at hl2
    by_cases he : S'.L.length = 0
    · have d0 : decide ((0 : Int) < (S'.L.length : Nat)) = false := decide_eq_false (by omega)
      have hRR : R = (S', dn) := by rw [hR.out, he]; simp [flushS]
      generalize hln : S'.L.length = ln at *
      have d0n : decide (0 < ln) = false := decide_eq_false (by omega)
      replace hRR := Lib.hid hRR
      replace he := Lib.hid he
      replace hln := Lib.hid hln
      go_wp2_with fail
      go_ret
      have hRR := hRR.out
      refine ⟨sl, cl_, sc, cc, so, co, by rw [hRR]; show _ = Ending.returned (.slice so dn.length co); rw [hnd]; rfl, ?_, ?_, hT5.out⟩
      · rw [hRR]
        show EQ IB _ wr base (.slice so dn.length co) dn.length dn
        rw [hnd]
        exact hO5.out
      · rw [hRR]; exact hI5.out
    · have h0 : 0 < S'.L.length := by omega
      have d0 : decide ((0 : Int) < (S'.L.length : Nat)) = true := decide_eq_true (by omega)
      have hRR : R = ((flushS (takeS S').L.length (takeS S')).1, (dn ++ [(S'.top.i, S'.top.b)]) ++ (flushS (takeS S').L.length (takeS S')).2) := by
        rw [hR.out, ← take_len h0, flushS, if_pos h0]
        simp
      have htl := Lib.hid (take_len h0)
      clear hR
      obtain ⟨ln, hln⟩ : ∃ ln, S'.L.length = ln := ⟨_, rfl⟩
      rw [hln] at m1 d0 htl hns hl1 h0
      replace hRR := Lib.hid hRR
      replace hln := Lib.hid hln
      have htk := Lib.hid (rtake_any base g0 _ _ _ _ S' (by rw [hln.out]; exact h0) (by rw [hln.out]; omega) wr (Nat.le_trans hb0.out hT5.out.size) hI5.out hok.out)
      have hX5 := hX.out
      have htl' := htl.out
      generalize hto : S'.top = E at *
      replace hto := Lib.hid hto
      generalize hT1 : takeS S' = S1 at *
      replace hT1 := Lib.hid hT1
      replace hX5 := Lib.hid hX5
      have hk1 : Hid (BOk S1) := Lib.hid (by rw [← hT1.out]; exact take_ok (by rw [hln.out]; exact h0) hok.out)
      obtain ⟨l1, hl1⟩ : ∃ l1, S1.L.length = l1 := ⟨_, rfl⟩
      replace hRR := hRR.out
      rw [hl1] at htk htl' hRR
      replace hRR := Lib.hid hRR
      replace hl1 := Lib.hid hl1
      go_wp2_with fail
      refine htk.out.mono ?_
      rintro e w5 ⟨s, cb, sl2, cl2, sc2, cc2, rfl, O5, I5, T5, G5, J5⟩
      have B6 := Lib.hid (show BW w5 (w5.alloc (.cells #[.int .i64 E.i, .slice s E.b.length cb] 70)) from (BW.refl w5).alloc)
      have L6 := Lib.hid (Sls.new1 (E := IB) w5 70 [.int .i64 E.i, .slice s E.b.length cb] rfl)
      have Q5 := Lib.hid ((hO5.out.still T5 (fun k hk => (by simpa using hk : k = g0) ▸ .inr ⟨_, _, _, hI5.out.hp, by decide⟩) (fun j hj => by have := hO5.out.ne hI5.out.hp (by decide) j hj; simpa using this)).bw B6.out)
      have S6 : Hid (∀ j, (Value.slice so nd co).ownBlock = some j → (Value.slice sl2 l1 cl2).ownBlock ≠ some j) := Lib.hid (fun j hj e => by have h1 := hO5.out.lt' j hj; have h2 := G5 j (by rw [← e]); omega)
      have T6 := Lib.hid ((hT5.out.trans T5).trans (B6.out.still [g0]))
      have R6 : Hid (IB.R (w5.alloc (.cells #[.int .i64 E.i, .slice s E.b.length cb] 70)) base (E.i, E.b) [.int .i64 E.i, .slice s E.b.length cb]) := Lib.hid ⟨_, rfl, O5.bw B6.out⟩
      have I6 := Lib.hid (I5.bw B6.out)
      have hz6 := Lib.hid (Nat.le_trans hb0.out T6.out.size)
      clear O5 I5 T5 B6 G5 J5 htk
      dsimp only
      go_wp2_with (at_builtin; go_must (refine wpList_apEQ slKp rfl _ _ rfl base (.slice so nd co) nd dn rfl Q5.out _ rfl 1 [(E.i, E.b)] [.int .i64 E.i, .slice s E.b.length cb] L6.out (EL.single R6.out) rfl (by omega) hz6.out (Q5.out.noB (by decide)) ?_; intro s7 c7 w7 hc7 hm7 Q7 T7 B7 G7; unfold maxLen at hm7; replace Q7 := Lib.hid Q7; replace T7 := Lib.hid T7; replace G7 := Lib.hid G7; clear B7))
      have I7 := Lib.hid (I6.out.still T7.out (Q5.out.noB (by decide)) (fun hm => Q5.out.ne I6.out.hp (by decide) _ (by simpa using hm) rfl) (fun j hj hm => S6.out j (by simpa using hm) (by rw [hl1.out] at hj; exact hj)) (I6.out.c.sep Q5.out (by decide)))
      have G8 : Hid (∀ j, (Value.slice s7 (nd + 1) c7).ownBlock = some j → w.heap.size ≤ j) := Lib.hid (fun j hj => (G7.out j hj).elim (fun h => hG.out j h) (fun h => Nat.le_trans T6.out.size h))
      have T8 := Lib.hid (T6.out.transF T7.out (fun j hj => .inr (hG.out j (by simpa using hj))))
      have X8 : Hid (∀ j, (Value.slice s7 (nd + 1) c7).ownBlock = some j → (Value.slice sl2 l1 cl2).ownBlock ≠ some j) := Lib.hid (fun j hj e => by
        rcases G7.out j hj with h | h
        · exact S6.out j h e
        · have := I6.out.l.lt' j (by rw [hl1.out]; exact e)
          omega)
      go_roundg l1
      case measure => have := hln.out; omega
      case rel => exact ⟨S1, sl2, cl2, sc2, cc2, s7, c7, dn ++ [(E.i, E.b)], nd + 1, hl1.out, by simp [hnd], by omega, rfl, hm7, hRR, hk1, I7, Q7, G8, by rw [hl1.out]; exact X8, T8⟩
theorem rnew_ok (many wait : Int) (w0 w : World) (B : BW w0 w) :
    Calls Try.prog 43 #[.int .i64 many, .int .i64 wait] w fun e w' => ∃ g0, e = .returned (.pointer (some ⟨g0, 0, none⟩)) ∧ RoI w' w0.heap.size g0 none 0 none 0 (newS many wait) ∧ w0.heap.size ≤ g0 ∧ BW w w' := by
  have hz := B.size
  go_enter Try.func43, Try.ntmps43
  go_wp2_with fail
  go_ret
  exact ⟨_, rfl, ⟨HpB.new w _, EQ.nil _ _ _ _, EQ.nil _ _ _ _⟩, hz, (BW.refl w).alloc⟩
set_option maxRecDepth 100000 in
set_option maxHeartbeats 8000000 in
/-- Two lists of what was told are the same. -/
theorem rsame_any (base : Nat) (s1 s2 : Option Addr) (c1 c2 n : Nat) (l : PL) (hn : n ≤ 1000) (w : World) (h1 : EQ IB 70 w base (.slice s1 n c1) n l) (h2 : EQ IB 70 w base (.slice s2 n c2) n l) :
    Calls Try.prog 44 #[.slice s1 n c1, .slice s2 n c2] w fun e w' => e = .returned (.bool true) ∧ BW w w' := by
  obtain ⟨_, _, he, k1, k2⟩ := h1.len
  cases he
  obtain ⟨_, _, he, k3, k4⟩ := h2.len
  cases he
  unfold maxLen at k2 k4
  have hl := h1.1
  have H1 := Lib.hid h1
  have H2 := Lib.hid h2
  clear h1 h2
  replace hl := Lib.hid hl
  go_enter Try.func44, Try.ntmps44
  go_upto_region 4 with (fail)
  go_loopg [5] n (fun m' i wx => ∃ k : Nat, m' = n - k ∧ k ≤ n ∧ i = .int .i64 (k : Nat) ∧ Hid (BW w wx))
  case atStart => exact ⟨0, by omega, by omega, rfl, BW.refl _⟩
  case round =>
    obtain ⟨k, rfl, hk, rfl, B⟩ := hrel
    by_cases hkn : k < n
    · have d : decide ((k : Int) < (n : Int)) = true := by simp; omega
      obtain ⟨g1, o1, rfl, -, -, hc1⟩ := kp_form (H1.out.bw B.out) (by omega)
      obtain ⟨g2, o2, rfl, -, -, hc2⟩ := kp_form (H2.out.bw B.out) (by omega)
      obtain ⟨u1, b1, y0, y1, O1⟩ := hc1 k (by rw [hl.out]; exact hkn)
      obtain ⟨u2, b2, z0, z1, O2⟩ := hc2 k (by rw [hl.out]; exact hkn)
      have E1 : ∀ y : LaterS [] wr, _ := fun y => conv_sb (O1.bw y.bw).sb
      have E2 : ∀ y : LaterS [] wr, _ := fun y => conv_sb (O2.bw y.bw).sb
      have m0 : ∀ y : LaterS [] wr, _ := fun y => y.bw.cell y0
      have m1 : ∀ y : LaterS [] wr, _ := fun y => y.bw.cell y1
      have m2 : ∀ y : LaterS [] wr, _ := fun y => y.bw.cell z0
      have m3 : ∀ y : LaterS [] wr, _ := fun y => y.bw.cell z1
      clear hc1 hc2 y0 y1 z0 z1 O1 O2
      generalize (l[k]'(by rw [hl.out]; exact hkn)).1 = x at *
      generalize (l[k]'(by rw [hl.out]; exact hkn)).2 = xb at *
      generalize xb.length = xl at *
      go_upto_region 6 with (fail)
      refine wp_region_gg [] [] [] (by kernel_rfl) ?_
      refine hoist [] [] (a1 := ?_) 0 rfl (by kernel_rfl) (.inl ⟨rfl, rfl⟩) rfl rfl rfl (fun x K hK => ?_) ?_
      rotate_left
      · go_big_quiet_op
        exact hK
      refine hoist [] [] (a1 := ?_) 1 rfl (by kernel_rfl) (.inl ⟨rfl, rfl⟩) rfl rfl rfl (fun x K hK => ?_) ?_
      rotate_left
      · go_big_quiet_op
        exact hK
      refine hoist [] [] (a1 := ?_) 2 rfl (by kernel_rfl) (.inl ⟨rfl, rfl⟩) rfl rfl rfl (fun x K hK => ?_) ?_
      rotate_left
      · go_big_quiet_op
        exact hK
      refine hoist [] [] (a1 := ?_) 3 rfl (by kernel_rfl) (.inl ⟨rfl, rfl⟩) rfl rfl rfl (fun x K hK => ?_) ?_
      rotate_left
      · go_big_quiet_op
        exact hK
      refine hoist [] [] (a1 := ?_) 4 rfl (by kernel_rfl) (.inl ⟨rfl, rfl⟩) rfl rfl rfl (fun x K hK => ?_) ?_
      rotate_left
      · go_big_quiet_op
        exact hK
      refine hoist [] [] (a1 := ?_) 5 rfl (by kernel_rfl) (.inl ⟨rfl, rfl⟩) rfl rfl rfl (fun x K hK => ?_) ?_
      rotate_left
      · go_big_quiet_op
        exact hK
      refine hoist [] [] (a1 := ?_) 6 rfl (by kernel_rfl) (.inl ⟨rfl, rfl⟩) rfl rfl rfl (fun x K hK => ?_) ?_
      rotate_left
      · go_big_quiet_op
        exact hK
      refine hoist [] [] (a1 := ?_) 7 rfl (by kernel_rfl) (.inl ⟨rfl, rfl⟩) rfl rfl rfl (fun x K hK => ?_) ?_
      rotate_left
      · go_big_quiet_op
        exact hK
      refine hoist [] [] (a1 := ?_) 8 rfl (by kernel_rfl) (.inl ⟨rfl, rfl⟩) rfl rfl rfl (fun x K hK => ?_) ?_
      rotate_left
      · go_big_quiet_op
        exact hK
      refine hoist [] [] (a1 := ?_) 9 rfl (by kernel_rfl) (.inl ⟨rfl, rfl⟩) rfl rfl rfl (fun x K hK => ?_) ?_
      rotate_left
      · go_big_quiet_op
        exact hK
      refine hoist [] [] (a1 := ?_) 10 rfl (by kernel_rfl) (.inl ⟨rfl, rfl⟩) rfl rfl rfl (fun x K hK => ?_) ?_
      rotate_left
      · go_big_quiet_op
        exact hK
      refine hoist [] [] (a1 := ?_) 11 rfl (by kernel_rfl) (.inl ⟨rfl, rfl⟩) rfl rfl rfl (fun x K hK => ?_) ?_
      rotate_left
      · go_big_quiet_op
        exact hK
      refine hoist [] [] (a1 := ?_) 12 rfl (by kernel_rfl) (.inl ⟨rfl, rfl⟩) rfl rfl rfl (fun x K hK => ?_) ?_
      rotate_left
      · go_big_quiet_op
        exact hK
      refine hoist [] [] (a1 := ?_) 13 rfl (by kernel_rfl) (.inl ⟨rfl, rfl⟩) rfl rfl rfl (fun x K hK => ?_) ?_
      rotate_left
      · go_big_quiet_op
        exact hK
      refine hoist [] [] (a1 := ?_) 14 rfl (by kernel_rfl) (.inl ⟨rfl, rfl⟩) rfl rfl rfl (fun x K hK => ?_) ?_
      rotate_left
      · go_big_quiet_op
        exact hK
      refine hoist [] [] (a1 := ?_) 15 rfl (by kernel_rfl) (.inl ⟨rfl, rfl⟩) rfl rfl rfl (fun x K hK => ?_) ?_
      rotate_left
      · go_big_quiet_op
        exact hK
      refine hoist [] [] (a1 := ?_) 16 rfl (by kernel_rfl) (.inl ⟨rfl, rfl⟩) rfl rfl rfl (fun x K hK => ?_) ?_
      rotate_left
      · go_big_quiet_op
        exact hK
      refine hoist [] [] (a1 := ?_) 17 rfl (by kernel_rfl) (.inl ⟨rfl, rfl⟩) rfl rfl rfl (fun x K hK => ?_) ?_
      rotate_left
      · go_big_quiet_op
        exact hK
      refine hoist [] [] (a1 := ?_) 18 rfl (by kernel_rfl) (.inl ⟨rfl, rfl⟩) rfl rfl rfl (fun x K hK => ?_) ?_
      rotate_left
      · go_big_quiet_op
        exact hK
      refine hoist [] [] (a1 := ?_) 19 rfl (by kernel_rfl) (.inl ⟨rfl, rfl⟩) rfl rfl rfl (fun x K hK => ?_) ?_
      rotate_left
      · go_big_quiet_op
        exact hK
      refine hoist [] [] (a1 := ?_) 20 rfl (by kernel_rfl) (.inl ⟨rfl, rfl⟩) rfl rfl rfl (fun x K hK => ?_) ?_
      rotate_left
      · go_big_quiet_op
        exact hK
      refine hoist [] [] (a1 := ?_) 21 rfl (by kernel_rfl) (.inl ⟨rfl, rfl⟩) rfl rfl rfl (fun x K hK => ?_) ?_
      rotate_left
      · go_big_quiet_op
        exact hK
      refine hoist [] [] (a1 := ?_) 22 rfl (by kernel_rfl) (.inl ⟨rfl, rfl⟩) rfl rfl rfl (fun x K hK => ?_) ?_
      rotate_left
      · go_big_quiet_op
        exact hK
      refine hoist [] [] (a1 := ?_) 23 rfl (by kernel_rfl) (.inl ⟨rfl, rfl⟩) rfl rfl rfl (fun x K hK => ?_) ?_
      rotate_left
      · go_big_quiet_op
        exact hK
      refine hoist [] [] (a1 := ?_) 24 rfl (by kernel_rfl) (.inl ⟨rfl, rfl⟩) rfl rfl rfl (fun x K hK => ?_) ?_
      rotate_left
      · go_big_quiet_op
        exact hK
      refine hoist [] [] (a1 := ?_) 25 rfl (by kernel_rfl) (.inl ⟨rfl, rfl⟩) rfl rfl rfl (fun x K hK => ?_) ?_
      rotate_left
      · go_big_quiet_op
        exact hK
      refine done (by kernel_rfl) (fun xr => ?_)
      have B2 := Lib.hid (B.out.trans xr.bw)
      clear m0 m1 m2 m3 E1 E2 B
      generalize xr.now = w2 at *
      go_wp2_with fail
      go_roundg (n - (k + 1))
      case measure => omega
      case rel => exact ⟨k + 1, rfl, by omega, by push_cast; rfl, B2⟩
    · obtain rfl : k = n := by omega
      have d : decide ((k : Int) < (k : Int)) = false := by simp
      go_wp2_with fail
      go_ret
      exact ⟨rfl, B.out⟩
end Go.Proofs.Ytcempndfbckcaaa
