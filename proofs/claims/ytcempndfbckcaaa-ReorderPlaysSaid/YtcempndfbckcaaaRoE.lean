/- The reference's buffer: Put. No condition but the sizes'. -/
import Derived.Test.YtcempndfbckcaaaRoD
import Derived.Test.YtcempndfbckcaaaReV
namespace Go.Proofs.Ytcempndfbckcaaa
open Go.RowKit

/-- append([]byte{}, b...) -/
theorem wp_apOB0 {o : Oper} {a : Act} {w : World} {K : Act → World → Prop} {Q : Exit → Act → World → Prop} (s x : Operand) (ho : o.op = .call { callee := .builtin .append, args := #[s, x], argTypes := #[36, 36] }) (base g : Nat) (hs : a.eval s = .slice (some ⟨g, 0, none⟩) 0 0) (hb : base ≤ g) (hg : w.heap[g]? = some (.cells #[] 5 (0, 0)))
    (xv : Value) (hx : a.eval x = xv) (m : Nat) (l : List Nat) (hk : SB w xv m l) (hm : m ≤ 1000000000) (hbase : base ≤ w.heap.size)
    (h : ∀ sa cap w', m ≤ cap → cap ≤ maxLen → OB w' base 5 (.slice sa m cap) m l → BW w w' → K (a.put o.dst (.slice sa m cap)) w') : o.wp Try.prog a w K Q := by
  refine wp_ap0 slU8 36 s x ho base g 0 #[] hs hb hg (by simp) xv hx m (bvs l) (OB.sb_app Try.underlying36 hk) (by omega) hbase fun v' w' k1 k2 k3 => ?_
  obtain ⟨sa, cap, rfl, hc, hmm⟩ := k1.len
  exact h sa cap w' hc hmm ⟨hk.1, hk.2.1, k1⟩ (BW.ofStill (Still.of_grown_none k2))
theorem RoI.drop {w : World} {base g0 sl cl_ sc cc S} (h : RoI w base g0 sl cl_ sc cc S) : RoI (w.setCell ⟨g0, 6, none⟩ (.int .i64 (S.dropped + 1))) base g0 sl cl_ sc cc { S with dropped := S.dropped + 1 } :=
  ⟨hp_set h.hp 6 _, h.l.still (still_sc w g0 6 _) (fun k hk => (by simpa using hk : k = g0) ▸ .inr ⟨_, _, _, h.hp, by decide⟩) (fun k hk => by have := h.l.ne h.hp (by decide) k hk; simpa using this), h.c.still (still_sc w g0 6 _) (fun _ _ => trivial) (fun k hk => by have := h.c.ne h.hp (by decide) k hk; simpa using this)⟩
theorem RoI.first {w : World} {base g0 sl cl_ sc cc S} (h : RoI w base g0 sl cl_ sc cc S) (i : Int) : RoI (w.setCell ⟨g0, 2, none⟩ (.int .i64 i)) base g0 sl cl_ sc cc { S with next := i } :=
  ⟨hp_set h.hp 2 _, h.l.still (still_sc w g0 2 _) (fun k hk => (by simpa using hk : k = g0) ▸ .inr ⟨_, _, _, h.hp, by decide⟩) (fun k hk => by have := h.l.ne h.hp (by decide) k hk; simpa using this), h.c.still (still_sc w g0 2 _) (fun _ _ => trivial) (fun k hk => by have := h.c.ne h.hp (by decide) k hk; simpa using this)⟩
theorem roC_nou8 (a b c : Int) (s : Option Addr) (n k : Nat) (s2 : Option Addr) (n2 k2 : Nat) (d e : Int) : ∀ (i : Nat) (x : Int), (#[.int .i64 a, .int .i64 b, .int .i64 c, .slice s n k, .slice s2 n2 k2, .int .i64 d, .int .i64 e] : Array Value)[i]? ≠ some (Value.int .u8 x) := by
  intro i x
  match i with
  | 0 => simp
  | 1 => simp
  | 2 => simp
  | 3 => simp
  | 4 => simp
  | 5 => simp
  | 6 => simp
  | i + 7 => simp
/-- What the reference's Put tells. -/
def RPutPost (base g0 : Nat) (W : List Nat) (R : BS × List (Int × List Nat) × Nat) (w : World) (e : Ending) (w' : World) : Prop :=
  ∃ sl cl_ sc cc so co, e = .returned (.tuple #[.slice so R.2.1.length co, .int .i64 (R.2.2 : Nat)]) ∧ EQ IB 70 w' base (.slice so R.2.1.length co) R.2.1.length R.2.1 ∧ RoI w' base g0 sl cl_ sc cc R.1 ∧ Still W w w'
set_option maxRecDepth 100000 in
set_option maxHeartbeats 8000000 in
theorem rput_any (base g0 n cb : Nat) (sb sl : Option Addr) (cl_ : Nat) (sc : Option Addr) (cc : Nat) (S : BS) (i tick : Int) (b : List Nat) (many d : Int) (hk : BK S many d) (hm : many ≤ 64) (hd : d ≤ 1000) (hi : i ≤ 1152921504606846976) (ht : -1152921504606846976 ≤ tick ∧ tick ≤ 1152921504606846976) (hnl : b.length = n) (hnm : n ≤ 1000000) (w : World) (hb0 : base ≤ w.heap.size) (h : RoI w base g0 sl cl_ sc cc S) (hV : SB w (.slice sb n cb) n b) :
    Calls Try.prog 47 #[.pointer (some ⟨g0, 0, none⟩), .int .i64 i, .int .i64 tick, .slice sb n cb] w fun e w' => RPutPost base g0 (g0 :: ((Value.slice sl S.L.length cl_).ownBlock.toList ++ (Value.slice sc S.L.length cc).ownBlock.toList)) (putS i tick b S) w e w' := by
  have hrm := hk.rm
  have hdr := hk.dr
  obtain ⟨W, hW⟩ : ∃ W, g0 :: ((Value.slice sl S.L.length cl_).ownBlock.toList ++ (Value.slice sc S.L.length cc).ownBlock.toList) = W := ⟨_, rfl⟩
  have hWg : Hid (g0 ∈ W) := Lib.hid (by rw [← hW]; exact List.mem_cons_self)
  have hWl : Hid (∀ m j, (Value.slice sl m cl_).ownBlock = some j → j ∈ W) := Lib.hid (fun m j hj => by
    rw [← hW]
    exact List.mem_cons_of_mem _ (List.mem_append_left _ (Option.mem_toList.2 (by cases sl <;> exact hj))))
  have hWc : Hid (∀ m j, (Value.slice sc m cc).ownBlock = some j → j ∈ W) := Lib.hid (fun m j hj => by
    rw [← hW]
    exact List.mem_cons_of_mem _ (List.mem_append_right _ (Option.mem_toList.2 (by cases sc <;> exact hj))))
  rw [hW]
  obtain ⟨R, hR⟩ : ∃ R, putS i tick b S = R := ⟨_, rfl⟩
  rw [hR]
  unfold putS at hR
  by_cases h1 : i < 0
  · rw [if_pos h1] at hR
    have d0 : decide (i < 0) = true := by simpa using h1
    subst hR
    go_enter Try.func47, Try.ntmps47
    go_wp2_with fail
    go_ret2
    exact ⟨sl, cl_, sc, cc, none, 0, rfl, EQ.nil _ _ _ _, h, Still.refl _ _⟩
  rw [if_neg h1] at hR
  have d0 : decide (i < 0) = false := by simpa using h1
  have I0 := Lib.hid h
  have V0 := Lib.hid hV
  have hok := Lib.hid hk.ok
  obtain ⟨ln, hln'⟩ : ∃ ln, S.L.length = ln := ⟨_, rfl⟩
  have hn9 : ln ≤ 64 := by omega
  have hWl : Hid (∀ j, (Value.slice sl ln cl_).ownBlock = some j → j ∈ W) := Lib.hid (hWl.out ln)
  have hWc : Hid (∀ j, (Value.slice sc ln cc).ownBlock = some j → j ∈ W) := Lib.hid (hWc.out ln)
  replace hb0 := Lib.hid hb0
  replace hnl := Lib.hid hnl
  replace hW := Lib.hid hW
  clear h hV
  by_cases h2 : S.next < 0
  · have d1 : decide (S.next < 0) = true := by simpa using h2
    rw [if_neg (by omega), if_pos h2] at hR
    have z2 := (hp_cell I0.out.hp 2).trans (show _ = some (.int .i64 S.next) from rfl)
    have y2 := hp_frz I0.out.hp 2
    have I1 := Lib.hid (I0.out.first i)
    have hV1 := Lib.hid (V0.out.offBuf I0.out.hp (roC_nou8 _ _ _ _ _ _ _ _ _ _ _) (still_sc w g0 2 (.int .i64 i)))
    have T1 := Lib.hid (still_sc w g0 2 (.int .i64 i))
    have z2b := (hp_cell I1.out.hp 2).trans (show _ = some (.int .i64 i) from rfl)
    have hF := first_ok hok.out h2 ⟨by omega, hi⟩
    have hany : ({ S with next := i } : BS).L.any (isE i) = false := by rw [show ({ S with next := i } : BS).L = S.L from rfl, any_nil hok.out h2]; rfl
    have hAO1 := add_ok (E := ⟨i, b, tick⟩) hF ⟨by show 0 ≤ i; omega, hi⟩ (Int.le_refl _) (by show 0 ≤ i; omega) ht hany
    obtain ⟨S1, hS1⟩ : ∃ S1, S1 = ({ S with next := i } : BS) := ⟨_, rfl⟩
    have hln : Hid (S1.L.length = ln) := Lib.hid (by rw [hS1]; exact hln')
    have hdr1 : Hid (0 ≤ S1.dropped ∧ S1.dropped ≤ 1000) := Lib.hid (by rw [hS1]; show 0 ≤ S.dropped ∧ S.dropped ≤ 1000; omega)
    rw [← hS1] at I1 hR hany hAO1
    obtain ⟨o0, ho0⟩ : ∃ o0, false = o0 := ⟨_, rfl⟩
    have hRt : Hid ((o0 || S1.L.any (isE i)) = true → R = ({ S1 with dropped := S1.dropped + 1 }, [], 5)) := Lib.hid (fun e => by rw [← ho0, hany] at e; cases e)
    have hRf : Hid ((o0 || S1.L.any (isE i)) = false → R = ((tickS tick (addS S1 ⟨i, b, tick⟩).L.length (addS S1 ⟨i, b, tick⟩)).1, (tickS tick (addS S1 ⟨i, b, tick⟩).L.length (addS S1 ⟨i, b, tick⟩)).2, 0) ∧ BOk (addS S1 ⟨i, b, tick⟩)) := Lib.hid (fun _ => ⟨hR.symm, hAO1⟩)
    have hdr2 := hdr1.out
    clear hR hany hAO1 hF hok I0 V0 hrm hdr hk hS1 hln'
    replace ho0 := Lib.hid ho0
    go_enter Try.func47, Try.ntmps47
    go_upto_region 6 with (fail)
    generalize w.setCell ⟨g0, 2, none⟩ (.int .i64 i) = w1 at *
    clear z2 y2 z2b
    go_upto_region 7 with (fail)
    go_loopg [10, 11] ln (fun m' ov kk wx => ∃ k : Nat, m' = ln - k ∧ k ≤ ln ∧ ov = .bool (o0 || (S1.L.take k).any (isE i)) ∧ kk = .int .i64 (k : Nat) ∧ Hid (BW w1 wx))
    case atStart => exact ⟨0, by omega, by omega, (by first | (simp; done) | (rw [ho0.out]; simp; done)), rfl, BW.refl _⟩
    case round =>
      obtain ⟨k, rfl, hk, rfl, rfl, BQ⟩ := hrel
      have I5 := Lib.hid (I1.out.bw BQ.out)
      obtain ⟨_, _, he, hl1, hl2⟩ := I5.out.l.len
      cases he
      rw [hln.out] at hl1
      unfold maxLen at hl2
      have z3 : wr.cell? ⟨g0, 3, none⟩ = some (.slice sl ln cl_) := by
        have := hp_cell I5.out.hp 3
        rw [hln.out] at this
        exact this
      by_cases hkn : k < ln
      · have e1 : decide ((k : Int) < (ln : Int)) = true := by simp; omega
        obtain ⟨gc, oc, rfl, -, -, hcl⟩ := I5.out.lform (by rw [hln.out]; omega)
        obtain ⟨_, _, y0, -⟩ := hcl k (by rw [hln.out]; exact hkn)
        have hA := any_take (isE i) S1.L k (by rw [hln.out]; exact hkn)
        unfold isE at hA
        clear hcl
        generalize (S1.L[k]'(by rw [hln.out]; exact hkn)).i = c at *
        cases hbk : (o0 || (S1.L.take k).any (isE i)) with
        | true =>
          have hnx : (o0 || (S1.L.take (k + 1)).any (isE i)) = true := by unfold isE at hbk ⊢; rw [hA, ← Bool.or_assoc, hbk]; rfl
          replace hA := Lib.hid hA
          replace hbk := Lib.hid hbk
          replace hnx := Lib.hid hnx
          go_wp2_with fail
          go_roundg (ln - (k + 1))
          case measure => omega
          case rel => exact ⟨k + 1, rfl, by omega, by rw [hnx.out], by push_cast; rfl, BQ⟩
        | false =>
          have hnx : (o0 || (S1.L.take (k + 1)).any (isE i)) = (c == i) := by unfold isE at hbk ⊢; rw [hA, ← Bool.or_assoc, hbk]; rfl
          replace hA := Lib.hid hA
          replace hbk := Lib.hid hbk
          replace hnx := Lib.hid hnx
          go_wp2_with fail
          go_roundg (ln - (k + 1))
          case measure => omega
          case rel => exact ⟨k + 1, rfl, by omega, by rw [hnx.out], by push_cast; rfl, BQ⟩
      · obtain rfl : k = ln := by omega
        have e1 : decide ((k : Int) < (k : Int)) = false := by simp
        rw [show (S1.L.take k) = S1.L from List.take_of_length_le (by rw [hln.out]; exact Nat.le_refl _)]
        have T5 := Lib.hid (T1.out.trans (BQ.out.still [g0]))
        have hV5 := Lib.hid (hV1.out.bw BQ.out)
        clear I1 T1 hV1 BQ
        cases hq : (o0 || S1.L.any (isE i)) with
        | true =>
          have hRR := hRt.out hq
          have z6 := (hp_cell I5.out.hp 6).trans (show _ = some (.int .i64 S1.dropped) from rfl)
          have y6 := hp_frz I5.out.hp 6
          clear hRf hRt
          replace hRR := Lib.hid hRR
          replace hq := Lib.hid hq
          go_wp2_with fail
          go_ret2
          rw [hRR.out]
          exact ⟨_, _, _, _, none, 0, rfl, EQ.nil _ _ _ _, I5.out.drop, (T5.out.trans (still_sc wr g0 6 _)).weaken (fun j hj => by obtain rfl : j = g0 := (by simpa using hj); exact hWg.out)⟩
        | false =>
          obtain ⟨hRR, hAO⟩ := hRf.out hq
          clear hRf hRt
          replace hRR := Lib.hid hRR
          replace hq := Lib.hid hq
          replace hAO := Lib.hid hAO
          go_upto_region 13 with (fail)
          generalize hwq : wr = wq at *
          clear hwq
          have m3 : ∀ y : LaterS [] wq, _ := fun y => y.bw.cell z3
          refine wp_region_gg ((Value.slice sl k cl_).ownBlock.toList) [11] [12] (by kernel_rfl) ?_
          refine hoistP (a1 := ?_) 0 rfl (by kernel_rfl) rfl (fun x => rfl) ?_ ?_
          rotate_left
          · simp only [Act.put, List.setIfInBounds_toArray, List.set_cons_succ, List.set_cons_zero]; rfl
          refine hoist [] [11] (a1 := ?_) 1 rfl (by kernel_rfl) (.inl ⟨rfl, rfl⟩) rfl rfl rfl (fun x K hK => ?_) ?_
          rotate_left
          · go_big_quiet_op
            exact hK
          refine hoist [] [11] (a1 := ?_) 2 rfl (by kernel_rfl) (.inl ⟨rfl, rfl⟩) rfl rfl rfl (fun x K hK => ?_) ?_
          rotate_left
          · go_big_quiet_op
            exact hK
          refine hoist [] [11] (a1 := ?_) 3 rfl (by kernel_rfl) (.inl ⟨rfl, rfl⟩) rfl rfl rfl (fun x K hK => ?_) ?_
          rotate_left
          · go_big_quiet_op
            exact hK
          refine hoist [] [11] (a1 := ?_) 4 rfl (by kernel_rfl) (.inl ⟨rfl, rfl⟩) rfl rfl rfl (fun x K hK => ?_) ?_
          rotate_left
          · go_big_quiet_op
            exact hK
          refine hoist [] [11] (a1 := ?_) 5 rfl (by kernel_rfl) (.inl ⟨rfl, rfl⟩) rfl rfl rfl (fun x K hK => ?_) ?_
          rotate_left
          · go_big_quiet_op
            exact hK
          refine hoist [] [11] (a1 := ?_) 7 rfl (by kernel_rfl) (.inl ⟨rfl, rfl⟩) rfl rfl rfl (fun x K hK => ?_) ?_
          rotate_left
          · go_big_quiet_op
            exact hK
          refine effect 6 rfl (by kernel_rfl) (by kernel_rfl) rfl (fun x6 K hK => ?_)
          go_simp
          refine hK _ _ (Still.of_below ((Below.refl _ _).alloc (Nat.le_refl _) _)) ?_
          clear hK K
          have B6 := Lib.hid (x6.bw.trans ((BW.refl x6.now).alloc (o := .cells #[] 5)))
          have hgb := Lib.hid (heap_alloc_new x6.now (.cells #[] 5))
          have hgm := Lib.hid (Nat.le_trans hb0.out (Nat.le_trans T5.out.size x6.bw.size))
          clear m3
          generalize x6.now.alloc (.cells #[] 5) = w6 at *
          generalize x6.now.heap.size = gm at *
          try simp only [Act.put, List.setIfInBounds_toArray, List.set_cons_succ, List.set_cons_zero]
          refine effect 8 rfl (by kernel_rfl) (by kernel_rfl) rfl (fun x8 K hK => ?_)
          have hb := Lib.hid (B6.out.trans x8.bw)
          refine wp_apOB0 _ _ rfl base gm rfl hgm.out (BW.heap x8.bw hgb.out) _ rfl n b (hV5.out.bw hb.out) (by omega) (Nat.le_trans hb0.out (Nat.le_trans T5.out.size hb.out.size)) ?_
          intro s8 c8 w8 hc8 hm8 O8 B8
          refine hK _ _ (Still.of_below B8) ?_
          unfold maxLen at hm8
          clear hK K hgb hgm
          replace O8 := Lib.hid O8
          replace B8 := Lib.hid (hb.out.trans B8)
          clear hb B6
          try simp only [Act.put, List.setIfInBounds_toArray, List.set_cons_succ, List.set_cons_zero]
          refine hoist [] [11] (a1 := ?_) 9 rfl (by kernel_rfl) (.inl ⟨rfl, rfl⟩) rfl rfl rfl (fun x K hK => ?_) ?_
          rotate_left
          · go_big_quiet_op
            exact hK
          refine effect 10 rfl (by kernel_rfl) (by kernel_rfl) rfl (fun x10 K hK => ?_)
          go_simp
          refine hK _ _ (Still.of_below ((Below.refl _ _).alloc (Nat.le_refl _) _)) ?_
          clear hK K
          have hb := x10.bw.trans ((BW.refl x10.now).alloc (o := .cells #[.int .i64 i, .slice s8 n c8] 70))
          have L10 := Lib.hid (Sls.new1 (E := IB) x10.now 70 [.int .i64 i, .slice s8 n c8] rfl)
          have O10 := Lib.hid (O8.out.bw hb)
          have B10 := Lib.hid (B8.out.trans hb)
          clear O8 B8 hb
          generalize x10.now.alloc (.cells #[.int .i64 i, .slice s8 n c8] 70) = w10 at *
          generalize x10.now.heap.size = g10 at *
          try simp only [Act.put, List.setIfInBounds_toArray, List.set_cons_succ, List.set_cons_zero]
          refine effect 11 rfl (by kernel_rfl) (by kernel_rfl) rfl (fun x11 K hK => ?_)
          have B11 := Lib.hid (B10.out.trans x11.bw)
          have Q11 : EQ IB 70 x11.now base (.slice sl k cl_) k (S1.L.map prE) := by
            have := (I5.out.bw B11.out).l
            rw [hln.out] at this
            exact this
          have R11 : IB.R x11.now base (prE ⟨i, b, tick⟩) [.int .i64 i, .slice s8 n c8] := ⟨_, rfl, by
            show OB _ _ _ _ b.length b
            rw [hnl.out]
            exact O10.out.bw x11.bw⟩
          refine wp_apEQ slKp _ _ rfl base (.slice sl k cl_) k (S1.L.map prE) rfl Q11 _ rfl 1 [prE ⟨i, b, tick⟩] [.int .i64 i, .slice s8 n c8] (L10.out.bw x11.bw) (EL.single R11) rfl (by omega) (Nat.le_trans hb0.out (Nat.le_trans T5.out.size B11.out.size)) (Q11.noB (by decide)) ?_
          intro s7 c7 w7 hc7 hm7 Q7 T7 B7 G7
          refine hK _ _ T7 ?_
          clear hK K
          have P7 := Lib.hid ((I5.out.hp.bw B11.out).st T7 (fun hm => Q11.ne (I5.out.hp.bw B11.out) (by decide) g0 (by simpa using hm) rfl))
          have C7 := Lib.hid ((I5.out.c.bw B11.out).still T7 (fun _ _ => trivial) ((I5.out.c.bw B11.out).sep Q11 (by decide)))
          have T8 := Lib.hid ((T5.out.weaken (fun j hj => by obtain rfl : j = g0 := (by simpa using hj); exact hWg.out)).trans ((B11.out.still W).trans (T7.weaken (fun j hj => hWl.out j (by simpa using hj)))))
          unfold maxLen at hm7
          clear B7 G7 T7 Q11 R11 B11 B10 O10 L10
          replace Q7 := Lib.hid Q7
          try simp only [Act.put, List.setIfInBounds_toArray, List.set_cons_succ, List.set_cons_zero]
          refine tail 12 rfl (by kernel_rfl) rfl (fun xr => ?_)
          simp only [List.drop_succ_cons, List.drop_zero]
          have P8 := Lib.hid (P7.out.bw xr.bw)
          have Q8 := Lib.hid (Q7.out.bw xr.bw)
          have C8 := Lib.hid (C7.out.bw xr.bw)
          have T9 := Lib.hid (T8.out.trans (xr.bw.still W))
          clear P7 Q7 C7 T8 I5 z3
          generalize xr.now = w9 at *
          have z3 : w9.cell? ⟨g0, 3, none⟩ = some (.slice sl S1.L.length cl_) := (hp_cell P8.out 3).trans rfl
          have y3 := hp_frz P8.out 3
          have P10 : HpB (w9.setCell ⟨g0, 3, none⟩ (.slice s7 (k + 1) c7)) g0 (.cells #[.int .i64 S1.many, .int .i64 S1.wait, .int .i64 S1.next, .slice s7 (k + 1) c7, .slice sc S1.L.length cc, .int .i64 S1.passed, .int .i64 S1.dropped] 86) := hp_set P8.out 3 _
          have TS := still_sc w9 g0 3 (.slice s7 (k + 1) c7)
          have NG : ∀ j ∈ [g0], NoB w9 j := fun j hj => (by simpa using hj : j = g0) ▸ .inr ⟨_, _, _, P8.out, by decide⟩
          have Q10 := Lib.hid (Q8.out.still TS NG (fun j hj => by have := Q8.out.ne P8.out (by decide) j hj; simpa using this))
          have C10 := Lib.hid (C8.out.still TS (fun _ _ => trivial) (fun j hj => by have := C8.out.ne P8.out (by decide) j hj; simpa using this))
          have T10 := Lib.hid (T9.out.trans (TS.weaken (fun j hj => by obtain rfl : j = g0 := (by simpa using hj); exact hWg.out)))
          rw [hln.out] at C10
          clear TS NG Q8 C8 T9 P8
          replace P10 := Lib.hid P10
          go_upto_region 14 with (fail)
          clear z3 y3
          generalize w9.setCell ⟨g0, 3, none⟩ (.slice s7 (k + 1) c7) = w10 at *
          have z4 : w10.cell? ⟨g0, 4, none⟩ = some (.slice sc k cc) := by
            have := hp_cell P10.out 4
            rw [hln.out] at this
            exact this
          have y4 := fun (y : World) (Y : Still (Value.slice sc k cc).ownBlock.toList w10 y) => (show HpB y g0 _ from P10.out.st Y (fun hm => C10.out.ne P10.out (by decide) g0 (by simpa using hm) rfl))
          obtain ⟨_, _, he, hd1, hd2⟩ := C10.out.len
          cases he
          unfold maxLen at hd2
          have BA : BW w10 (w10.alloc (.cells #[.int .i64 tick] 2)) := (BW.refl _).alloc
          have L11 := Lib.hid (Sls.new1 (E := I1) w10 2 [.int .i64 tick] rfl)
          have C11 := Lib.hid (C10.out.bw BA)
          have P11 := Lib.hid (P10.out.bw BA)
          have Q11 := Lib.hid (Q10.out.bw BA)
          have T11 := Lib.hid (T10.out.trans (BA.still W))
          have hz11 := Lib.hid (Nat.le_trans hb0.out T11.out.size)
          clear C10 P10 Q10 T10 y4
          replace BA := Lib.hid BA
          go_upto_region 15 with (at_builtin; go_must (refine wpList_apEQ slI64 rfl _ _ rfl base (.slice sc k cc) k _ rfl C11.out _ rfl 1 [tick] [.int .i64 tick] L11.out (EL.single rfl) rfl (by omega) hz11.out (fun _ _ => trivial) ?_; intro s12 c12 w12 hc12 hm12 C12 T12 hb12 G12; unfold maxLen at hm12; have P12 := Lib.hid (P11.out.st T12 (fun hm => C11.out.ne P11.out (by decide) g0 (by simpa using hm) rfl)); have z12 : w12.cell? ⟨g0, 4, none⟩ = some (.slice sc S1.L.length cc) := (hp_cell P12.out 4).trans rfl; have y12 := hp_frz P12.out 4; have Q12 := Lib.hid (Q11.out.still T12 (C11.out.noB (by decide)) (Q11.out.sep C11.out (by decide))); replace C12 := Lib.hid C12; replace T12 := Lib.hid (T11.out.trans (T12.weaken (fun j hj => hWc.out j (by simpa using hj)))); clear hb12 G12 z4))
          clear z12 y12
          have hlA : (addS S1 ⟨i, b, tick⟩).L.length = k + 1 := by
            show (S1.L ++ [_]).length = k + 1
            rw [List.length_append, hln.out]
            rfl
          have TS := still_sc w12 g0 4 (.slice s12 (k + 1) c12)
          have NG : ∀ j ∈ [g0], NoB w12 j := fun j hj => (by simpa using hj : j = g0) ▸ .inr ⟨_, _, _, P12.out, by decide⟩
          have RI : Hid (RoI (w12.setCell ⟨g0, 4, none⟩ (.slice s12 (k + 1) c12)) base g0 s7 c7 s12 c12 (addS S1 ⟨i, b, tick⟩)) := Lib.hid ⟨by
            rw [hlA]
            exact hp_set P12.out 4 _, by
            rw [hlA, show (addS S1 ⟨i, b, tick⟩).L.map prE = S1.L.map prE ++ [prE ⟨i, b, tick⟩] from List.map_append ..]
            exact Q12.out.still TS NG (fun j hj => by have := Q12.out.ne P12.out (by decide) j hj; simpa using this), by
            rw [hlA, show (addS S1 ⟨i, b, tick⟩).L.map Ent.c = S1.L.map Ent.c ++ [tick] from List.map_append ..]
            exact C12.out.still TS (fun _ _ => trivial) (fun j hj => by have := C12.out.ne P12.out (by decide) j hj; simpa using this)⟩
          have T13 := Lib.hid (T12.out.trans (TS.weaken (fun j hj => by obtain rfl : j = g0 := (by simpa using hj); exact hWg.out)))
          clear TS NG P12 Q12 C12 T12
          generalize w12.setCell ⟨g0, 4, none⟩ (.slice s12 (k + 1) c12) = w13 at *
          have hTk := Lib.hid (rtick_any base g0 s7 c7 s12 c12 (addS S1 ⟨i, b, tick⟩) tick ht (by rw [hlA]; omega) w13 (Nat.le_trans hb0.out T13.out.size) RI.out hAO.out)
          replace hlA := Lib.hid hlA
          clear RI
          go_wp2_with fail
          refine Calls.mono hTk.out ?_
          rintro e w14 ⟨sl2, cl2, sc2, cc2, so, co, rfl, Q14, I14, T14⟩
          replace Q14 := Lib.hid Q14
          replace I14 := Lib.hid I14
          replace T14 := Lib.hid T14
          clear hTk
          dsimp only
          go_wp2_with fail
          go_ret2
          rw [hRR.out]
          exact ⟨sl2, cl2, sc2, cc2, so, co, rfl, Q14.out, I14.out, T13.out.trans (T14.out.weaken (fun j hj => by obtain rfl : j = g0 := (by simpa using hj); exact hWg.out))⟩
  · have d1 : decide (S.next < 0) = false := by simpa using h2
    obtain ⟨w1, hw1⟩ : ∃ w1, w1 = w := ⟨_, rfl⟩
    subst hw1
    have T1 : Hid (Still [g0] w1 w1) := Lib.hid (Still.refl _ _)
    obtain ⟨S1, hS1⟩ : ∃ S1, S1 = S := ⟨_, rfl⟩
    rw [← hS1] at I0 hR hok d1 h2 hln' hdr
    obtain ⟨o0, ho0⟩ : ∃ o0, decide (i < S1.next) = o0 := ⟨_, rfl⟩
    have hRt : Hid ((o0 || S1.L.any (isE i)) = true → R = ({ S1 with dropped := S1.dropped + 1 }, [], 5)) := Lib.hid (fun e => by
      rw [if_pos ⟨by omega, by
        rw [← ho0, Bool.or_eq_true] at e
        exact e.imp_left of_decide_eq_true⟩] at hR
      exact hR.symm)
    have hRf : Hid ((o0 || S1.L.any (isE i)) = false → R = ((tickS tick (addS S1 ⟨i, b, tick⟩).L.length (addS S1 ⟨i, b, tick⟩)).1, (tickS tick (addS S1 ⟨i, b, tick⟩).L.length (addS S1 ⟨i, b, tick⟩)).2, 0) ∧ BOk (addS S1 ⟨i, b, tick⟩)) := Lib.hid (fun e => by
      rw [← ho0, Bool.or_eq_false_iff] at e
      have e1 := of_decide_eq_false e.1
      rw [if_neg (by rintro ⟨-, h | h⟩; exact e1 h; rw [e.2] at h; cases h), if_neg h2] at hR
      exact ⟨hR.symm, add_ok (E := ⟨i, b, tick⟩) hok.out ⟨by show 0 ≤ i; omega, hi⟩ (by show S1.next ≤ i; omega) (by omega) ht e.2⟩)
    have hdr2 : 0 ≤ S1.dropped ∧ S1.dropped ≤ 1000 := by omega
    have hln := Lib.hid hln'
    have hV1 := V0
    have I1 := I0
    have z2 := (hp_cell I0.out.hp 2).trans (show _ = some (.int .i64 S1.next) from rfl)
    clear hR hok I0 V0 hrm hdr hk hS1 hln'
    go_enter Try.func47, Try.ntmps47
    go_upto_region 6 with (fail)
    clear z2
    replace ho0 := Lib.hid ho0
    go_upto_region 7 with (fail)
    go_loopg [10, 11] ln (fun m' ov kk wx => ∃ k : Nat, m' = ln - k ∧ k ≤ ln ∧ ov = .bool (o0 || (S1.L.take k).any (isE i)) ∧ kk = .int .i64 (k : Nat) ∧ Hid (BW w1 wx))
    case atStart => exact ⟨0, by omega, by omega, (by first | (simp; done) | (rw [ho0.out]; simp; done)), rfl, BW.refl _⟩
    case round =>
      obtain ⟨k, rfl, hk, rfl, rfl, BQ⟩ := hrel
      have I5 := Lib.hid (I1.out.bw BQ.out)
      obtain ⟨_, _, he, hl1, hl2⟩ := I5.out.l.len
      cases he
      rw [hln.out] at hl1
      unfold maxLen at hl2
      have z3 : wr.cell? ⟨g0, 3, none⟩ = some (.slice sl ln cl_) := by
        have := hp_cell I5.out.hp 3
        rw [hln.out] at this
        exact this
      by_cases hkn : k < ln
      · have e1 : decide ((k : Int) < (ln : Int)) = true := by simp; omega
        obtain ⟨gc, oc, rfl, -, -, hcl⟩ := I5.out.lform (by rw [hln.out]; omega)
        obtain ⟨_, _, y0, -⟩ := hcl k (by rw [hln.out]; exact hkn)
        have hA := any_take (isE i) S1.L k (by rw [hln.out]; exact hkn)
        unfold isE at hA
        clear hcl
        generalize (S1.L[k]'(by rw [hln.out]; exact hkn)).i = c at *
        cases hbk : (o0 || (S1.L.take k).any (isE i)) with
        | true =>
          have hnx : (o0 || (S1.L.take (k + 1)).any (isE i)) = true := by unfold isE at hbk ⊢; rw [hA, ← Bool.or_assoc, hbk]; rfl
          replace hA := Lib.hid hA
          replace hbk := Lib.hid hbk
          replace hnx := Lib.hid hnx
          go_wp2_with fail
          go_roundg (ln - (k + 1))
          case measure => omega
          case rel => exact ⟨k + 1, rfl, by omega, by rw [hnx.out], by push_cast; rfl, BQ⟩
        | false =>
          have hnx : (o0 || (S1.L.take (k + 1)).any (isE i)) = (c == i) := by unfold isE at hbk ⊢; rw [hA, ← Bool.or_assoc, hbk]; rfl
          replace hA := Lib.hid hA
          replace hbk := Lib.hid hbk
          replace hnx := Lib.hid hnx
          go_wp2_with fail
          go_roundg (ln - (k + 1))
          case measure => omega
          case rel => exact ⟨k + 1, rfl, by omega, by rw [hnx.out], by push_cast; rfl, BQ⟩
      · obtain rfl : k = ln := by omega
        have e1 : decide ((k : Int) < (k : Int)) = false := by simp
        rw [show (S1.L.take k) = S1.L from List.take_of_length_le (by rw [hln.out]; exact Nat.le_refl _)]
        have T5 := Lib.hid (T1.out.trans (BQ.out.still [g0]))
        have hV5 := Lib.hid (hV1.out.bw BQ.out)
        clear I1 T1 hV1 BQ
        cases hq : (o0 || S1.L.any (isE i)) with
        | true =>
          have hRR := hRt.out hq
          have z6 := (hp_cell I5.out.hp 6).trans (show _ = some (.int .i64 S1.dropped) from rfl)
          have y6 := hp_frz I5.out.hp 6
          clear hRf hRt
          replace hRR := Lib.hid hRR
          replace hq := Lib.hid hq
          go_wp2_with fail
          go_ret2
          rw [hRR.out]
          exact ⟨_, _, _, _, none, 0, rfl, EQ.nil _ _ _ _, I5.out.drop, (T5.out.trans (still_sc wr g0 6 _)).weaken (fun j hj => by obtain rfl : j = g0 := (by simpa using hj); exact hWg.out)⟩
        | false =>
          obtain ⟨hRR, hAO⟩ := hRf.out hq
          clear hRf hRt
          replace hRR := Lib.hid hRR
          replace hq := Lib.hid hq
          replace hAO := Lib.hid hAO
          go_upto_region 13 with (fail)
          generalize hwq : wr = wq at *
          clear hwq
          have m3 : ∀ y : LaterS [] wq, _ := fun y => y.bw.cell z3
          refine wp_region_gg ((Value.slice sl k cl_).ownBlock.toList) [11] [12] (by kernel_rfl) ?_
          refine hoistP (a1 := ?_) 0 rfl (by kernel_rfl) rfl (fun x => rfl) ?_ ?_
          rotate_left
          · simp only [Act.put, List.setIfInBounds_toArray, List.set_cons_succ, List.set_cons_zero]; rfl
          refine hoist [] [11] (a1 := ?_) 1 rfl (by kernel_rfl) (.inl ⟨rfl, rfl⟩) rfl rfl rfl (fun x K hK => ?_) ?_
          rotate_left
          · go_big_quiet_op
            exact hK
          refine hoist [] [11] (a1 := ?_) 2 rfl (by kernel_rfl) (.inl ⟨rfl, rfl⟩) rfl rfl rfl (fun x K hK => ?_) ?_
          rotate_left
          · go_big_quiet_op
            exact hK
          refine hoist [] [11] (a1 := ?_) 3 rfl (by kernel_rfl) (.inl ⟨rfl, rfl⟩) rfl rfl rfl (fun x K hK => ?_) ?_
          rotate_left
          · go_big_quiet_op
            exact hK
          refine hoist [] [11] (a1 := ?_) 4 rfl (by kernel_rfl) (.inl ⟨rfl, rfl⟩) rfl rfl rfl (fun x K hK => ?_) ?_
          rotate_left
          · go_big_quiet_op
            exact hK
          refine hoist [] [11] (a1 := ?_) 5 rfl (by kernel_rfl) (.inl ⟨rfl, rfl⟩) rfl rfl rfl (fun x K hK => ?_) ?_
          rotate_left
          · go_big_quiet_op
            exact hK
          refine hoist [] [11] (a1 := ?_) 7 rfl (by kernel_rfl) (.inl ⟨rfl, rfl⟩) rfl rfl rfl (fun x K hK => ?_) ?_
          rotate_left
          · go_big_quiet_op
            exact hK
          refine effect 6 rfl (by kernel_rfl) (by kernel_rfl) rfl (fun x6 K hK => ?_)
          go_simp
          refine hK _ _ (Still.of_below ((Below.refl _ _).alloc (Nat.le_refl _) _)) ?_
          clear hK K
          have B6 := Lib.hid (x6.bw.trans ((BW.refl x6.now).alloc (o := .cells #[] 5)))
          have hgb := Lib.hid (heap_alloc_new x6.now (.cells #[] 5))
          have hgm := Lib.hid (Nat.le_trans hb0.out (Nat.le_trans T5.out.size x6.bw.size))
          clear m3
          generalize x6.now.alloc (.cells #[] 5) = w6 at *
          generalize x6.now.heap.size = gm at *
          try simp only [Act.put, List.setIfInBounds_toArray, List.set_cons_succ, List.set_cons_zero]
          refine effect 8 rfl (by kernel_rfl) (by kernel_rfl) rfl (fun x8 K hK => ?_)
          have hb := Lib.hid (B6.out.trans x8.bw)
          refine wp_apOB0 _ _ rfl base gm rfl hgm.out (BW.heap x8.bw hgb.out) _ rfl n b (hV5.out.bw hb.out) (by omega) (Nat.le_trans hb0.out (Nat.le_trans T5.out.size hb.out.size)) ?_
          intro s8 c8 w8 hc8 hm8 O8 B8
          refine hK _ _ (Still.of_below B8) ?_
          unfold maxLen at hm8
          clear hK K hgb hgm
          replace O8 := Lib.hid O8
          replace B8 := Lib.hid (hb.out.trans B8)
          clear hb B6
          try simp only [Act.put, List.setIfInBounds_toArray, List.set_cons_succ, List.set_cons_zero]
          refine hoist [] [11] (a1 := ?_) 9 rfl (by kernel_rfl) (.inl ⟨rfl, rfl⟩) rfl rfl rfl (fun x K hK => ?_) ?_
          rotate_left
          · go_big_quiet_op
            exact hK
          refine effect 10 rfl (by kernel_rfl) (by kernel_rfl) rfl (fun x10 K hK => ?_)
          go_simp
          refine hK _ _ (Still.of_below ((Below.refl _ _).alloc (Nat.le_refl _) _)) ?_
          clear hK K
          have hb := x10.bw.trans ((BW.refl x10.now).alloc (o := .cells #[.int .i64 i, .slice s8 n c8] 70))
          have L10 := Lib.hid (Sls.new1 (E := IB) x10.now 70 [.int .i64 i, .slice s8 n c8] rfl)
          have O10 := Lib.hid (O8.out.bw hb)
          have B10 := Lib.hid (B8.out.trans hb)
          clear O8 B8 hb
          generalize x10.now.alloc (.cells #[.int .i64 i, .slice s8 n c8] 70) = w10 at *
          generalize x10.now.heap.size = g10 at *
          try simp only [Act.put, List.setIfInBounds_toArray, List.set_cons_succ, List.set_cons_zero]
          refine effect 11 rfl (by kernel_rfl) (by kernel_rfl) rfl (fun x11 K hK => ?_)
          have B11 := Lib.hid (B10.out.trans x11.bw)
          have Q11 : EQ IB 70 x11.now base (.slice sl k cl_) k (S1.L.map prE) := by
            have := (I5.out.bw B11.out).l
            rw [hln.out] at this
            exact this
          have R11 : IB.R x11.now base (prE ⟨i, b, tick⟩) [.int .i64 i, .slice s8 n c8] := ⟨_, rfl, by
            show OB _ _ _ _ b.length b
            rw [hnl.out]
            exact O10.out.bw x11.bw⟩
          refine wp_apEQ slKp _ _ rfl base (.slice sl k cl_) k (S1.L.map prE) rfl Q11 _ rfl 1 [prE ⟨i, b, tick⟩] [.int .i64 i, .slice s8 n c8] (L10.out.bw x11.bw) (EL.single R11) rfl (by omega) (Nat.le_trans hb0.out (Nat.le_trans T5.out.size B11.out.size)) (Q11.noB (by decide)) ?_
          intro s7 c7 w7 hc7 hm7 Q7 T7 B7 G7
          refine hK _ _ T7 ?_
          clear hK K
          have P7 := Lib.hid ((I5.out.hp.bw B11.out).st T7 (fun hm => Q11.ne (I5.out.hp.bw B11.out) (by decide) g0 (by simpa using hm) rfl))
          have C7 := Lib.hid ((I5.out.c.bw B11.out).still T7 (fun _ _ => trivial) ((I5.out.c.bw B11.out).sep Q11 (by decide)))
          have T8 := Lib.hid ((T5.out.weaken (fun j hj => by obtain rfl : j = g0 := (by simpa using hj); exact hWg.out)).trans ((B11.out.still W).trans (T7.weaken (fun j hj => hWl.out j (by simpa using hj)))))
          unfold maxLen at hm7
          clear B7 G7 T7 Q11 R11 B11 B10 O10 L10
          replace Q7 := Lib.hid Q7
          try simp only [Act.put, List.setIfInBounds_toArray, List.set_cons_succ, List.set_cons_zero]
          refine tail 12 rfl (by kernel_rfl) rfl (fun xr => ?_)
          simp only [List.drop_succ_cons, List.drop_zero]
          have P8 := Lib.hid (P7.out.bw xr.bw)
          have Q8 := Lib.hid (Q7.out.bw xr.bw)
          have C8 := Lib.hid (C7.out.bw xr.bw)
          have T9 := Lib.hid (T8.out.trans (xr.bw.still W))
          clear P7 Q7 C7 T8 I5 z3
          generalize xr.now = w9 at *
          have z3 : w9.cell? ⟨g0, 3, none⟩ = some (.slice sl S1.L.length cl_) := (hp_cell P8.out 3).trans rfl
          have y3 := hp_frz P8.out 3
          have P10 : HpB (w9.setCell ⟨g0, 3, none⟩ (.slice s7 (k + 1) c7)) g0 (.cells #[.int .i64 S1.many, .int .i64 S1.wait, .int .i64 S1.next, .slice s7 (k + 1) c7, .slice sc S1.L.length cc, .int .i64 S1.passed, .int .i64 S1.dropped] 86) := hp_set P8.out 3 _
          have TS := still_sc w9 g0 3 (.slice s7 (k + 1) c7)
          have NG : ∀ j ∈ [g0], NoB w9 j := fun j hj => (by simpa using hj : j = g0) ▸ .inr ⟨_, _, _, P8.out, by decide⟩
          have Q10 := Lib.hid (Q8.out.still TS NG (fun j hj => by have := Q8.out.ne P8.out (by decide) j hj; simpa using this))
          have C10 := Lib.hid (C8.out.still TS (fun _ _ => trivial) (fun j hj => by have := C8.out.ne P8.out (by decide) j hj; simpa using this))
          have T10 := Lib.hid (T9.out.trans (TS.weaken (fun j hj => by obtain rfl : j = g0 := (by simpa using hj); exact hWg.out)))
          rw [hln.out] at C10
          clear TS NG Q8 C8 T9 P8
          replace P10 := Lib.hid P10
          go_upto_region 14 with (fail)
          clear z3 y3
          generalize w9.setCell ⟨g0, 3, none⟩ (.slice s7 (k + 1) c7) = w10 at *
          have z4 : w10.cell? ⟨g0, 4, none⟩ = some (.slice sc k cc) := by
            have := hp_cell P10.out 4
            rw [hln.out] at this
            exact this
          have y4 := fun (y : World) (Y : Still (Value.slice sc k cc).ownBlock.toList w10 y) => (show HpB y g0 _ from P10.out.st Y (fun hm => C10.out.ne P10.out (by decide) g0 (by simpa using hm) rfl))
          obtain ⟨_, _, he, hd1, hd2⟩ := C10.out.len
          cases he
          unfold maxLen at hd2
          have BA : BW w10 (w10.alloc (.cells #[.int .i64 tick] 2)) := (BW.refl _).alloc
          have L11 := Lib.hid (Sls.new1 (E := I1) w10 2 [.int .i64 tick] rfl)
          have C11 := Lib.hid (C10.out.bw BA)
          have P11 := Lib.hid (P10.out.bw BA)
          have Q11 := Lib.hid (Q10.out.bw BA)
          have T11 := Lib.hid (T10.out.trans (BA.still W))
          have hz11 := Lib.hid (Nat.le_trans hb0.out T11.out.size)
          clear C10 P10 Q10 T10 y4
          replace BA := Lib.hid BA
          go_upto_region 15 with (at_builtin; go_must (refine wpList_apEQ slI64 rfl _ _ rfl base (.slice sc k cc) k _ rfl C11.out _ rfl 1 [tick] [.int .i64 tick] L11.out (EL.single rfl) rfl (by omega) hz11.out (fun _ _ => trivial) ?_; intro s12 c12 w12 hc12 hm12 C12 T12 hb12 G12; unfold maxLen at hm12; have P12 := Lib.hid (P11.out.st T12 (fun hm => C11.out.ne P11.out (by decide) g0 (by simpa using hm) rfl)); have z12 : w12.cell? ⟨g0, 4, none⟩ = some (.slice sc S1.L.length cc) := (hp_cell P12.out 4).trans rfl; have y12 := hp_frz P12.out 4; have Q12 := Lib.hid (Q11.out.still T12 (C11.out.noB (by decide)) (Q11.out.sep C11.out (by decide))); replace C12 := Lib.hid C12; replace T12 := Lib.hid (T11.out.trans (T12.weaken (fun j hj => hWc.out j (by simpa using hj)))); clear hb12 G12 z4))
          clear z12 y12
          have hlA : (addS S1 ⟨i, b, tick⟩).L.length = k + 1 := by
            show (S1.L ++ [_]).length = k + 1
            rw [List.length_append, hln.out]
            rfl
          have TS := still_sc w12 g0 4 (.slice s12 (k + 1) c12)
          have NG : ∀ j ∈ [g0], NoB w12 j := fun j hj => (by simpa using hj : j = g0) ▸ .inr ⟨_, _, _, P12.out, by decide⟩
          have RI : Hid (RoI (w12.setCell ⟨g0, 4, none⟩ (.slice s12 (k + 1) c12)) base g0 s7 c7 s12 c12 (addS S1 ⟨i, b, tick⟩)) := Lib.hid ⟨by
            rw [hlA]
            exact hp_set P12.out 4 _, by
            rw [hlA, show (addS S1 ⟨i, b, tick⟩).L.map prE = S1.L.map prE ++ [prE ⟨i, b, tick⟩] from List.map_append ..]
            exact Q12.out.still TS NG (fun j hj => by have := Q12.out.ne P12.out (by decide) j hj; simpa using this), by
            rw [hlA, show (addS S1 ⟨i, b, tick⟩).L.map Ent.c = S1.L.map Ent.c ++ [tick] from List.map_append ..]
            exact C12.out.still TS (fun _ _ => trivial) (fun j hj => by have := C12.out.ne P12.out (by decide) j hj; simpa using this)⟩
          have T13 := Lib.hid (T12.out.trans (TS.weaken (fun j hj => by obtain rfl : j = g0 := (by simpa using hj); exact hWg.out)))
          clear TS NG P12 Q12 C12 T12
          generalize w12.setCell ⟨g0, 4, none⟩ (.slice s12 (k + 1) c12) = w13 at *
          have hTk := Lib.hid (rtick_any base g0 s7 c7 s12 c12 (addS S1 ⟨i, b, tick⟩) tick ht (by rw [hlA]; omega) w13 (Nat.le_trans hb0.out T13.out.size) RI.out hAO.out)
          replace hlA := Lib.hid hlA
          clear RI
          go_wp2_with fail
          refine Calls.mono hTk.out ?_
          rintro e w14 ⟨sl2, cl2, sc2, cc2, so, co, rfl, Q14, I14, T14⟩
          replace Q14 := Lib.hid Q14
          replace I14 := Lib.hid I14
          replace T14 := Lib.hid T14
          clear hTk
          dsimp only
          go_wp2_with fail
          go_ret2
          rw [hRR.out]
          exact ⟨sl2, cl2, sc2, cc2, so, co, rfl, Q14.out, I14.out, T13.out.trans (T14.out.weaken (fun j hj => by obtain rfl : j = g0 := (by simpa using hj); exact hWg.out))⟩
end Go.Proofs.Ytcempndfbckcaaa
