/- The reference's pacer: Push. No condition but the sizes'. -/
import Derived.Test.YtgiajnfmjpdodaaPaT
import Derived.Test.YtgiajnfmjpdodaaSl0
namespace Go.Proofs.Ytgiajnfmjpdodaa
open Go.RowKit

theorem OB.at0 {w : World} {base g : Nat} {fr : Nat × Nat} (hb : base ≤ g) (hg : w.heap[g]? = some (.cells #[] 5 (0, 0))) : OB w base 5 (.slice (some ⟨g, 0, none⟩) 0 0) 0 [] :=
  ⟨rfl, by simp [ByL], by simp [bvs], .inr ⟨g, 0, 0, _, rfl, hb, hg, Nat.le_refl _, by decide, by simp, by simp [bvs]⟩⟩
/-- append([]api.Pace{}, l...) -/
theorem wp_apPQ0 {o : Oper} {a : Act} {w : World} {K : Act → World → Prop} {Q : Exit → Act → World → Prop} (s x : Operand) (ho : o.op = .call { callee := .builtin .append, args := #[s, x], argTypes := #[44, 44] }) (base g : Nat) (hs : a.eval s = .slice (some ⟨g, 0, none⟩) 0 0) (hb : base ≤ g) (hg : w.heap[g]? = some (.cells #[] 43 (0, 0)))
    (xv : Value) (hx : a.eval x = xv) (m : Nat) (l : PL) (hk : PQ w base xv m l) (hm : m ≤ 1000000000) (hbase : base ≤ w.heap.size)
    (h : ∀ sa cap w', m ≤ cap → cap ≤ maxLen → PQ w' base (.slice sa m cap) m l → BW w w' → (∀ j, (Value.slice sa m cap).ownBlock = some j → j = g ∨ w.heap.size ≤ j) → K (a.put o.dst (.slice sa m cap)) w') : o.wp Try.prog a w K Q := by
  obtain ⟨hl, xs, h1, h2⟩ := hk
  refine wp_ap0 slPc 44 s x ho base g 0 #[] hs hb hg (by simp) xv hx m xs (.sl _ _ _ _ _ slPc.ht h1.sls h2.one_cell) (by omega) hbase fun v' w' k1 k2 k3 => ?_
  obtain ⟨sa, cap, rfl, hc, hmm⟩ := k1.len
  have hst : BW w w' := BW.ofStill (Still.of_grown_none k2)
  exact h sa cap w' hc hmm ⟨hl, xs, k1, h2.mono fun _ _ _ h => h.bw hst⟩ hst k3

theorem lensL_erase (L : PL) (a : Nat) : lensL (L.eraseIdx a) ≤ lensL L := by
  induction L generalizing a with
  | nil => simp
  | cons p L ih =>
    cases a with
    | zero => show lensL L ≤ p.2.length + lensL L; omega
    | succ a => have := ih a; show p.2.length + lensL (L.eraseIdx a) ≤ p.2.length + lensL L; omega
/-- append([]byte{}, b...) -/
theorem wp_apOB0 {o : Oper} {a : Act} {w : World} {K : Act → World → Prop} {Q : Exit → Act → World → Prop} (s x : Operand) (ho : o.op = .call { callee := .builtin .append, args := #[s, x], argTypes := #[22, 22] }) (base g : Nat) (hs : a.eval s = .slice (some ⟨g, 0, none⟩) 0 0) (hb : base ≤ g) (hg : w.heap[g]? = some (.cells #[] 5 (0, 0)))
    (xv : Value) (hx : a.eval x = xv) (m : Nat) (l : List Nat) (hk : SB w xv m l) (hm : m ≤ 1000000000) (hbase : base ≤ w.heap.size)
    (h : ∀ sa cap w', m ≤ cap → cap ≤ maxLen → OB w' base 5 (.slice sa m cap) m l → BW w w' → K (a.put o.dst (.slice sa m cap)) w') : o.wp Try.prog a w K Q := by
  refine wp_ap0 slU8 22 s x ho base g 0 #[] hs hb hg (by simp) xv hx m (bvs l) (OB.sb_app Try.underlying22 hk) (by omega) hbase fun v' w' k1 k2 k3 => ?_
  obtain ⟨sa, cap, rfl, hc, hmm⟩ := k1.len
  exact h sa cap w' hc hmm ⟨hk.1, hk.2.1, k1⟩ (BW.ofStill (Still.of_grown_none k2))
def RPost (base g gb : Nat) (pk by_ : Int) (v : Value) (R : Nat × PL × Nat) (w : World) (e : Ending) (w' : World) : Prop :=
  e = .returned (.int .i64 (R.1 : Nat)) ∧ (∃ v', RpV w' base g (.pointer (some ⟨gb, 0, none⟩)) pk by_ v' R.2.1 R.2.2 ∧ ∀ k, v'.ownBlock = some k → v.ownBlock = some k ∨ w.heap.size ≤ k) ∧ Still [g] w w'
theorem RPost.same {base g gb : Nat} {pk by_ : Int} {v : Value} {L : PL} {gone : Nat} {w w' : World} {e : Ending} (r : Nat) (h : RpV w base g (.pointer (some ⟨gb, 0, none⟩)) pk by_ v L gone) (hb : BW w w') (he : e = .returned (.int .i64 (r : Nat))) : RPost base g gb pk by_ v (r, L, gone) w e w' :=
  ⟨he, ⟨v, h.bw hb, fun k hk => .inl hk⟩, hb.still _⟩
set_option maxRecDepth 100000 in
set_option maxHeartbeats 8000000 in
theorem rpush_any (base g gb : Nat) (r u hav pk by_ : Int) (v : Value) (L : PL) (gone : Nat) (cls : Int) (xv : Value) (b : List Nat) (w : World) (h : RpV w base g (.pointer (some ⟨gb, 0, none⟩)) pk by_ v L gone) (hb : Rb w gb r u hav) (hl : L.length ≤ 100000) (hs : lensL L ≤ 100000000) (hgo : gone ≤ 1000000) (hbase : base ≤ w.heap.size)
    (hv : SB w xv b.length b) (hn : b.length ≤ 1000) (hc0 : -9223372036854775808 ≤ cls) (hc1 : cls ≤ 9223372036854775807) (u0 : 0 ≤ u) (u1 : u ≤ 18446744073709551615) :
    Calls Try.prog 34 #[.pointer (some ⟨g, 0, none⟩), .agg #[.int .i64 cls, xv]] w (RPost base g gb pk by_ v (rpushN u pk by_ L gone cls b) w) := by
  obtain ⟨sa, cp, rfl, hnc, hmc⟩ := hv.len
  unfold maxLen at hmc
  generalize hnl : b.length = n at *
  generalize hR : rpushN u pk by_ L gone cls b = R at *
  have hH := Lib.hid h
  have hB := Lib.hid hb
  have hV := Lib.hid hv
  clear h hb hv
  obtain ⟨w1, hw1⟩ : ∃ w1, w1 = w.alloc (.cells #[.int .i64 cls, .slice sa n cp] 43) := ⟨_, rfl⟩
  have B1 : Hid (BW w w1) := Lib.hid (by rw [hw1]; exact (BW.refl w).alloc)
  have X1 : Hid (HpB w1 w.heap.size (.cells #[.int .i64 cls, .slice sa n cp] 43)) := Lib.hid (by rw [hw1]; exact HpB.new _ _)
  have hgw := HpB.lt hH.out.cells
  replace hR := Lib.hid hR
  replace hnl := Lib.hid hnl
  go_enter Try.func34, Try.ntmps34
  go_upto_region 1 with (fail)
  rw [← hw1]
  clear hw1
  have x0 := hp_cell (X1.out) 0
  have x1 := hp_cell (X1.out) 1
  simp only [List.getElem?_toArray, List.getElem?_cons_zero, List.getElem?_cons_succ] at x0 x1
  by_cases hA : cls < 0
  · have d1 : decide (cls < 0) = true := by simpa using hA
    have hRR : R = (1, L, gone) := by rw [← hR.out]; unfold rpushN; rw [if_pos (.inl hA)]
    replace hRR := Lib.hid hRR
    go_wp2_with fail
    go_ret
    rw [hRR.out]
    exact RPost.same 1 hH.out B1.out rfl
  have d1 : decide (cls < 0) = false := by simpa using hA
  by_cases hC : 3 < cls
  · have d2 : decide (3 < cls) = true := by simpa using hC
    have hRR : R = (1, L, gone) := by rw [← hR.out]; unfold rpushN; rw [if_pos (.inr (.inl hC))]
    replace hRR := Lib.hid hRR
    go_wp2_with fail
    go_ret
    rw [hRR.out]
    exact RPost.same 1 hH.out B1.out rfl
  have d2 : decide (3 < cls) = false := by simpa using hC
  by_cases hD : n = 0
  · have d3 : ((n : Int) == 0) = true := by simp; omega
    have hRR : R = (1, L, gone) := by rw [← hR.out]; unfold rpushN; rw [if_pos (.inr (.inr (by rw [hnl.out]; exact hD)))]
    replace hRR := Lib.hid hRR
    go_wp2_with fail
    go_ret
    rw [hRR.out]
    exact RPost.same 1 hH.out B1.out rfl
  have d3 : ((n : Int) == 0) = false := by simp; omega
  have hni : ¬ (cls < 0 ∨ 3 < cls ∨ b.length = 0) := by have := hnl.out; omega
  have H1 := hH.out.bw B1.out
  have K1 := hB.out.bw B1.out
  have zg0 : w1.cell? ⟨g, 0, none⟩ = some (.pointer (some ⟨gb, 0, none⟩)) := hp_cell H1.cells 0
  have zb1 : w1.cell? ⟨gb, 1, none⟩ = some (.int .u64 u) := hp_cell K1 1
  have q1 : IntKind.u64.wrap (n : Int) = (n : Int) := IntWalk.u64_in _ (by omega)
  replace H1 := Lib.hid H1
  replace K1 := Lib.hid K1
  by_cases hE : u < n
  · have d4 : decide (u < (n : Int)) = true := by simpa using hE
    have hRR : R = (8, L, gone) := by rw [← hR.out]; unfold rpushN; rw [if_neg hni, if_pos (by rw [hnl.out]; exact hE)]
    replace hRR := Lib.hid hRR
    go_wp2_with fail
    go_ret
    rw [hRR.out]
    exact RPost.same 8 hH.out B1.out rfl
  have d4 : decide (u < (n : Int)) = false := by simpa using hE
  have hR2 : rp2 (tryR pk by_ n cls (L.length + 1) L 0) L gone cls b = R := by
    rw [← hR.out]; unfold rpushN
    rw [if_neg hni, if_neg (by rw [hnl.out]; exact hE), hnl.out]
  clear hR
  replace hR2 := Lib.hid hR2
  replace hni := Lib.hid hni
  go_upto_region 6 with (fail)
  clear d1 d2 d3 d4 q1 zg0 zb1
  obtain ⟨sv, cv, rfl, hvn, hvm⟩ := hH.out.pq.len
  have z1 : w1.cell? ⟨g, 1, none⟩ = some (.int .i64 pk) := hp_cell H1.out.cells 1
  have z2 : w1.cell? ⟨g, 2, none⟩ = some (.int .i64 by_) := hp_cell H1.out.cells 2
  have z3 : w1.cell? ⟨g, 3, none⟩ = some (.slice sv L.length cv) := hp_cell H1.out.cells 3
  have l1 := fun x : LaterS [] w1 => x.cell z1 (by simp)
  have l2 := fun x : LaterS [] w1 => x.cell z2 (by simp)
  have l3 := fun x : LaterS [] w1 => x.cell z3 (by simp)
  clear z1 z2 z3 x0 x1
  refine wp_region_gg [] [] [] (by kernel_rfl) ?_
  refine hoist [] [] (a1 := ?_) 0 rfl (by kernel_rfl) (.inl ⟨rfl, rfl⟩) rfl rfl rfl (fun x K hK => ?_) ?_
  rotate_left
  · go_big_quiet_op
    exact hK
  refine hoist [] [] (a1 := ?_) 1 rfl (by kernel_rfl) (.inl ⟨rfl, rfl⟩) rfl rfl rfl (fun x K hK => ?_) ?_
  rotate_left
  · go_big_quiet_op
    exact hK
  refine hoist [] [] (a1 := ?_) 2 rfl (by kernel_rfl) (.inl ⟨rfl, rfl⟩) rfl rfl rfl (fun x K hK => ?_) ?_
  rotate_left
  · go_big_quiet_op
    exact hK
  refine hoist [] [] (a1 := ?_) 3 rfl (by kernel_rfl) (.inl ⟨rfl, rfl⟩) rfl rfl rfl (fun x K hK => ?_) ?_
  rotate_left
  · go_big_quiet_op
    exact hK
  refine hoist [] [] (a1 := ?_) 4 rfl (by kernel_rfl) (.inl ⟨rfl, rfl⟩) rfl rfl rfl (fun x K hK => ?_) ?_
  rotate_left
  · go_big_quiet_op
    exact hK
  refine hoist [] [] (a1 := ?_) 5 rfl (by kernel_rfl) (.inl ⟨rfl, rfl⟩) rfl rfl rfl (fun x K hK => ?_) ?_
  rotate_left
  · go_big_quiet_op
    exact hK
  refine hoist [] [] (a1 := ?_) 6 rfl (by kernel_rfl) (.inl ⟨rfl, rfl⟩) rfl rfl rfl (fun x K hK => ?_) ?_
  rotate_left
  · go_big_quiet_op
    exact hK
  refine hoist [] [] (a1 := ?_) 7 rfl (by kernel_rfl) (.inl ⟨rfl, rfl⟩) rfl rfl rfl (fun x K hK => ?_) ?_
  rotate_left
  · go_big_quiet_op
    exact hK
  refine hoist [] [] (a1 := ?_) 8 rfl (by kernel_rfl) (.inl ⟨rfl, rfl⟩) rfl rfl rfl (fun x K hK => ?_) ?_
  rotate_left
  · go_big_quiet_op
    exact hK
  refine hoist [] [] (a1 := ?_) 9 rfl (by kernel_rfl) (.inl ⟨rfl, rfl⟩) rfl rfl rfl (fun x K hK => ?_) ?_
  rotate_left
  · go_big_quiet_op
    exact hK
  refine hoist [] [] (a1 := ?_) 10 rfl (by kernel_rfl) (.inl ⟨rfl, rfl⟩) rfl rfl rfl (fun x K hK => ?_) ?_
  rotate_left
  · go_big_quiet_op
    exact hK
  refine hoist [] [] (a1 := ?_) 11 rfl (by kernel_rfl) (.inl ⟨rfl, rfl⟩) rfl rfl rfl (fun x K hK => ?_) ?_
  rotate_left
  · go_big_quiet_op
    exact hK
  refine hoist [] [] (a1 := ?_) 12 rfl (by kernel_rfl) (.inl ⟨rfl, rfl⟩) rfl rfl rfl (fun x K hK => ?_) ?_
  rotate_left
  · go_big_quiet_op
    exact hK
  refine effect 13 rfl (by kernel_rfl) (by kernel_rfl) rfl (fun x13 K hK => ?_)
  go_simp
  refine hK _ _ (Still.of_below ((Below.refl _ _).alloc (Nat.le_refl _) _)) ?_
  clear hK K
  refine hoist [] [] (a1 := ?_) 14 rfl (by kernel_rfl) (.inl ⟨rfl, rfl⟩) rfl rfl rfl (fun x K hK => ?_) ?_
  rotate_left
  · go_big_quiet_op
    exact hK
  refine done (by kernel_rfl) (fun xr => ?_)
  have BA : BW w1 xr.now := (x13.bw.trans ((BW.refl x13.now).alloc (o := .cells #[.pointer none, .int .i64 pk, .int .i64 by_, .slice sv L.length cv, .int .i64 0] 61))).trans xr.bw
  have TC : HpB xr.now x13.now.heap.size (.cells #[.pointer none, .int .i64 pk, .int .i64 by_, .slice sv L.length cv, .int .i64 0] 61) := (HpB.new x13.now _).bw xr.bw
  have TV : Hid (RpV xr.now base x13.now.heap.size (.pointer none) pk by_ (.slice sv L.length cv) L 0) := Lib.hid ⟨TC, H1.out.pq.bw BA⟩
  have hgt := Nat.le_trans B1.out.size x13.bw.size
  have hgt2 := x13.bw.size
  have hw1s := HpB.lt X1.out
  clear TC l1 l2 l3
  replace BA := Lib.hid BA
  generalize x13.now.heap.size = gt at *
  go_upto_region 7 with (fail)
  go_loopg [] (L.length) (fun m' wx => ∃ (v' : Value) (L' : PL) (g' : Nat), m' = L'.length ∧ Hid (rp2 (tryR pk by_ n cls (L'.length + 1) L' g') L gone cls b = R) ∧ L'.length ≤ L.length ∧ lensL L' ≤ lensL L ∧ g' + L'.length ≤ L.length ∧ Hid (RpV wx base gt (.pointer none) pk by_ v' L' g') ∧ Hid (∀ k, v'.ownBlock = some k → (Value.slice sv L.length cv).ownBlock = some k ∨ w.heap.size ≤ k) ∧ Hid (BW w1 wx))
  case atStart => exact ⟨_, L, 0, rfl, hR2, Nat.le_refl _, Nat.le_refl _, by omega, TV, (fun k hk => .inl hk), BA⟩
  case round =>
    clear hR2 TV BA
    obtain ⟨v', L', g', rfl, hR, hl', hs', hg', TV, hF, BA⟩ := hrel
    have cF := Lib.hid (rfits_any base gt (.pointer none) pk by_ v' L' g' n wr TV.out (by omega) (by omega) (by omega))
    go_wp2_with fail
    refine Calls.mono cF.out ?_
    rintro e w3 ⟨rfl, hb⟩
    have TV3 := Lib.hid (TV.out.bw hb)
    have BA3 := Lib.hid (BA.out.trans hb)
    clear cF hb TV BA
    dsimp only
    cases hf : fitsB pk by_ L' n
    · have x0 : w3.cell? ⟨w.heap.size, 0, none⟩ = some (.int .i64 cls) := hp_cell (X1.out.bw BA3.out) 0
      have cL := Lib.hid (rlast_any base gt (.pointer none) pk by_ v' L' g' cls w3 TV3.out)
      have hR3 : rp2 (match lastR cls L' L'.length with
        | none => none
        | some a => tryR pk by_ n cls L'.length (L'.eraseIdx a) (g' + 1)) L gone cls b = R := by
        rw [← hR.out]
        conv => rhs; unfold tryR
        rw [hf, if_neg (by decide)]
        rfl
      replace hf := Lib.hid hf
      replace hR3 := Lib.hid hR3
      go_wp2_with fail
      refine Calls.mono cL.out ?_
      rintro e w4 ⟨rfl, hb⟩
      have TV4 := Lib.hid (TV3.out.bw hb)
      have BA4 := Lib.hid (BA3.out.trans hb)
      have hIs := lastR_is cls L' L'.length
      clear cL hb TV3 BA3 x0
      dsimp only
      cases hla : lastR cls L' L'.length with
      | none =>
        have hRR : R = (6, L, gone) := by rw [← hR3.out, hla]; rfl
        have e1 : atI none = -1 := rfl
        replace hRR := Lib.hid hRR
        replace hla := Lib.hid hla
        replace hR3 := Lib.hid hR3
        go_wp2_with fail
        go_ret
        rw [hRR.out]
        exact RPost.same 6 hH.out (B1.out.trans BA4.out) rfl
      | some a =>
        rw [hla] at hIs
        have ha : a < L'.length := hIs.1
        have e1 : atI (some a) = (a : Nat) := rfl
        have d5 : decide ((a : Int) < 0) = false := by simp
        have hR4 : rp2 (tryR pk by_ n cls L'.length (L'.eraseIdx a) (g' + 1)) L gone cls b = R := by rw [← hR3.out, hla]
        have hel : (L'.eraseIdx a).length + 1 = L'.length := by rw [List.length_eraseIdx, if_pos ha]; omega
        have hes : lensL (L'.eraseIdx a) ≤ lensL L' := lensL_erase L' a
        rw [← hel] at hR4
        have cD := Lib.hid (rdrop_any base gt (.pointer none) pk by_ v' L' g' a w4 TV4.out (by omega) (Nat.le_trans hbase (Nat.le_trans B1.out.size BA4.out.size)) ha)
        replace hR4 := Lib.hid hR4
        replace hel := Lib.hid hel
        replace hla := Lib.hid hla
        replace hIs := Lib.hid hIs
        go_wp2_with fail
        refine Calls.mono cD.out ?_
        rintro e w5 ⟨rfl, ⟨v5, TV5, hF5⟩, TS⟩
        have BA5 := Lib.hid (BW.stP BA4.out TS (by simp; omega))
        have z4 : w5.cell? ⟨gt, 4, none⟩ = some (.int .i64 (g' : Nat)) := hp_cell TV5.cells 4
        have y4 := hp_frz TV5.cells 4
        have TV6 := Lib.hid (TV5.setG (g' + 1))
        have BA6 := Lib.hid (BW.stP BA5.out (still_setCP w5 gt 4 (.int .i64 ((g' + 1 : Nat) : Int))) (by simp; omega))
        have hF6 : ∀ k, v5.ownBlock = some k → (Value.slice sv L.length cv).ownBlock = some k ∨ w.heap.size ≤ k := fun k hk => .inr (Nat.le_trans (Nat.le_trans B1.out.size BA4.out.size) (hF5 k hk))
        have q2 : IntKind.i64.wrap ((g' : Int) + 1) = ((g' + 1 : Nat) : Int) := by rw [show ((g' + 1 : Nat) : Int) = (g' : Int) + 1 by push_cast; rfl]; exact IntWalk.i64_in _ (by omega)
        have hl6 : (L'.eraseIdx a).length ≤ L.length := by have := hel.out; omega
        have hg6 : g' + 1 + (L'.eraseIdx a).length ≤ L.length := by have := hel.out; omega
        have hm6 : (L'.eraseIdx a).length < L'.length := by have := hel.out; omega
        replace hF6 := Lib.hid hF6
        clear cD TV5 TS hF5 d5 e1
        dsimp only
        go_wp2_with fail
        go_roundg (L'.eraseIdx a).length
        case measure => omega
        case rel => exact ⟨v5, L'.eraseIdx a, g' + 1, rfl, hR4, hl6, by omega, hg6, TV6, hF6, BA6⟩
    · have hRR : R = (0, L' ++ [(cls, b)], gone + g') := by
        rw [← hR.out]
        unfold tryR
        rw [hf, if_pos rfl]; rfl
      have B3 := Lib.hid (B1.out.trans BA3.out)
      have X3 := Lib.hid (X1.out.bw BA3.out)
      obtain ⟨s', c', rfl, hvn', hvm'⟩ := TV3.out.pq.len
      have x0 : w3.cell? ⟨w.heap.size, 0, none⟩ = some (.int .i64 cls) := hp_cell X3.out 0
      have x1 : w3.cell? ⟨w.heap.size, 1, none⟩ = some (.slice sa n cp) := hp_cell X3.out 1
      have t3 : w3.cell? ⟨gt, 3, none⟩ = some (.slice s' L'.length c') := hp_cell TV3.out.cells 3
      have lx0 := fun x : LaterS [] w3 => x.cell x0 (by simp)
      have lx1 := fun x : LaterS [] w3 => x.cell x1 (by simp)
      have lt3 := fun x : LaterS [] w3 => x.cell t3 (by simp)
      have hz3 := Nat.le_trans hbase B3.out.size
      unfold maxLen at hvm'
      clear x0 x1 t3
      replace hRR := Lib.hid hRR
      replace hR := Lib.hid hR
      replace hf := Lib.hid hf
      go_upto_region 13 with (fail)
      go_cut [] (fun wc => ∃ v'', Hid (RpV wc base g (.pointer (some ⟨gb, 0, none⟩)) pk by_ v'' (L' ++ [(cls, b)]) gone) ∧ Hid (∀ k, v''.ownBlock = some k → w.heap.size ≤ k) ∧ Hid (HpB wc gt (.cells #[.pointer none, .int .i64 pk, .int .i64 by_, .slice s' L'.length c', .int .i64 (g' : Nat)] 61)) ∧ Hid (Still [g] w wc))
      case first =>
        have Bc := B3
        have Qt := Lib.hid TV3.out.pq
        have TC := Lib.hid TV3.out.cells
        refine wp_region_gl [] [] [] [15, 18] (by kernel_rfl) ?_
        refine hoistP (a1 := ?_) 0 rfl (by kernel_rfl) rfl (fun x => rfl) ?_ ?_
        rotate_left
        · simp only [Act.put, List.setIfInBounds_toArray, List.set_cons_succ, List.set_cons_zero]; rfl
        refine hoist [] [] (a1 := ?_) 2 rfl (by kernel_rfl) (.inl ⟨rfl, rfl⟩) rfl rfl rfl (fun x K hK => ?_) ?_
        rotate_left
        · go_big_quiet_op
          exact hK
        refine hoist [] [] (a1 := ?_) 3 rfl (by kernel_rfl) (.inl ⟨rfl, rfl⟩) rfl rfl rfl (fun x K hK => ?_) ?_
        rotate_left
        · go_big_quiet_op
          exact hK
        refine hoist [] [] (a1 := ?_) 4 rfl (by kernel_rfl) (.inl ⟨rfl, rfl⟩) rfl rfl rfl (fun x K hK => ?_) ?_
        rotate_left
        · go_big_quiet_op
          exact hK
        refine hoist [] [] (a1 := ?_) 5 rfl (by kernel_rfl) (.inl ⟨rfl, rfl⟩) rfl rfl rfl (fun x K hK => ?_) ?_
        rotate_left
        · go_big_quiet_op
          exact hK
        refine hoist [] [] (a1 := ?_) 7 rfl (by kernel_rfl) (.inl ⟨rfl, rfl⟩) rfl rfl rfl (fun x K hK => ?_) ?_
        rotate_left
        · go_big_quiet_op
          exact hK
        refine hoist [] [] (a1 := ?_) 8 rfl (by kernel_rfl) (.inl ⟨rfl, rfl⟩) rfl rfl rfl (fun x K hK => ?_) ?_
        rotate_left
        · go_big_quiet_op
          exact hK
        refine hoist [] [] (a1 := ?_) 10 rfl (by kernel_rfl) (.inl ⟨rfl, rfl⟩) rfl rfl rfl (fun x K hK => ?_) ?_
        rotate_left
        · go_big_quiet_op
          exact hK
        refine hoist [] [] (a1 := ?_) 11 rfl (by kernel_rfl) (.inl ⟨rfl, rfl⟩) rfl rfl rfl (fun x K hK => ?_) ?_
        rotate_left
        · go_big_quiet_op
          exact hK
        refine effect2 1 9 rfl rfl (by kernel_rfl) (by kernel_rfl) (by kernel_rfl) rfl rfl (fun x1 K hK => ?_) (fun x9 K hK => ?_)
        · skip
          go_simp
          refine hK _ _ (Still.of_below ((Below.refl _ _).alloc (Nat.le_refl _) _)) ?_
          clear hK K
          have hb := x1.bw.trans ((BW.refl x1.now).alloc (o := .cells #[] 43))
          have hgp := Lib.hid (heap_alloc_new x1.now (.cells #[] 43))
          have hgl := Nat.le_trans Bc.out.size x1.bw.size
          replace Bc := Lib.hid (Bc.out.trans hb)
          try replace hgp := Lib.hid (BW.heap hb hgp.out)
          try replace hgb := Lib.hid (BW.heap hb hgb.out)
          try replace Qt := Lib.hid (Qt.out.bw hb)
          try replace L14 := Lib.hid (L14.out.bw hb)
          try replace TC := Lib.hid (TC.out.bw hb)
          try replace Q5 := Lib.hid (Q5.out.bw hb)
          try replace O12 := Lib.hid (O12.out.bw hb)
          clear hb
          generalize x1.now.alloc (.cells #[] 43) = wp at *
          generalize x1.now.heap.size = gl at *
          try simp only [Act.put, List.setIfInBounds_toArray, List.set_cons_succ, List.set_cons_zero]
          refine effect2 6 9 rfl rfl (by kernel_rfl) (by kernel_rfl) (by kernel_rfl) rfl rfl (fun x6 K hK => ?_) (fun x9 K hK => ?_)
          · skip
            have hb := x6.bw
            replace Bc := Lib.hid (Bc.out.trans hb)
            try replace hgp := Lib.hid (BW.heap hb hgp.out)
            try replace hgb := Lib.hid (BW.heap hb hgb.out)
            try replace Qt := Lib.hid (Qt.out.bw hb)
            try replace L14 := Lib.hid (L14.out.bw hb)
            try replace TC := Lib.hid (TC.out.bw hb)
            try replace Q5 := Lib.hid (Q5.out.bw hb)
            try replace O12 := Lib.hid (O12.out.bw hb)
            clear hb
            refine wp_apPQ0 _ _ rfl base gl rfl (Nat.le_trans hbase hgl) hgp.out _ rfl L'.length L' Qt.out (by omega) (Nat.le_trans hbase Bc.out.size) ?_
            intro s5 c5 w9 hc5 hm5 Q5 B5 G5
            refine hK _ _ (Still.of_below B5) ?_
            clear hK K
            have G9 : ∀ j, (Value.slice s5 L'.length c5).ownBlock = some j → w.heap.size ≤ j := fun j hj => by
              rcases G5 j hj with h1 | h1
              · omega
              · exact Nat.le_trans Bc.out.size h1
            unfold maxLen at hm5
            clear G5 hgp hgl Qt
            have hb := B5
            clear B5
            replace G9 := Lib.hid G9
            replace Bc := Lib.hid (Bc.out.trans hb)
            try replace hgp := Lib.hid (BW.heap hb hgp.out)
            try replace hgb := Lib.hid (BW.heap hb hgb.out)
            try replace Qt := Lib.hid (Qt.out.bw hb)
            try replace L14 := Lib.hid (L14.out.bw hb)
            try replace TC := Lib.hid (TC.out.bw hb)
            try replace Q5 := Lib.hid (Q5.out.bw hb)
            try replace O12 := Lib.hid (O12.out.bw hb)
            clear hb
            replace Q5 := Lib.hid Q5
            try simp only [Act.put, List.setIfInBounds_toArray, List.set_cons_succ, List.set_cons_zero]
            refine effect 9 rfl (by kernel_rfl) (by kernel_rfl) rfl (fun x9 K hK => ?_)
            go_simp
            refine hK _ _ (Still.of_below ((Below.refl _ _).alloc (Nat.le_refl _) _)) ?_
            clear hK K
            have hb := x9.bw.trans ((BW.refl x9.now).alloc (o := .cells #[] 5))
            have hgb := Lib.hid (heap_alloc_new x9.now (.cells #[] 5))
            have hgm := Nat.le_trans Bc.out.size x9.bw.size
            replace Bc := Lib.hid (Bc.out.trans hb)
            try replace hgp := Lib.hid (BW.heap hb hgp.out)
            try replace hgb := Lib.hid (BW.heap hb hgb.out)
            try replace Qt := Lib.hid (Qt.out.bw hb)
            try replace L14 := Lib.hid (L14.out.bw hb)
            try replace TC := Lib.hid (TC.out.bw hb)
            try replace Q5 := Lib.hid (Q5.out.bw hb)
            try replace O12 := Lib.hid (O12.out.bw hb)
            clear hb
            generalize x9.now.alloc (.cells #[] 5) = wb at *
            generalize x9.now.heap.size = gm at *
            try simp only [Act.put, List.setIfInBounds_toArray, List.set_cons_succ, List.set_cons_zero]
            refine effect 12 rfl (by kernel_rfl) (by kernel_rfl) rfl (fun x12 K hK => ?_)
            have hb := x12.bw
            replace Bc := Lib.hid (Bc.out.trans hb)
            try replace hgp := Lib.hid (BW.heap hb hgp.out)
            try replace hgb := Lib.hid (BW.heap hb hgb.out)
            try replace Qt := Lib.hid (Qt.out.bw hb)
            try replace L14 := Lib.hid (L14.out.bw hb)
            try replace TC := Lib.hid (TC.out.bw hb)
            try replace Q5 := Lib.hid (Q5.out.bw hb)
            try replace O12 := Lib.hid (O12.out.bw hb)
            clear hb
            refine wp_apOB0 _ _ rfl base gm rfl (Nat.le_trans hbase hgm) hgb.out _ rfl n b (hV.out.bw Bc.out) (by omega) (Nat.le_trans hbase Bc.out.size) ?_
            intro s12 c12 w12 hc12 hm12 O12 B12
            refine hK _ _ (Still.of_below B12) ?_
            unfold maxLen at hm12
            clear hK K hgb hgm
            have hb := B12
            clear B12
            replace Bc := Lib.hid (Bc.out.trans hb)
            try replace hgp := Lib.hid (BW.heap hb hgp.out)
            try replace hgb := Lib.hid (BW.heap hb hgb.out)
            try replace Qt := Lib.hid (Qt.out.bw hb)
            try replace L14 := Lib.hid (L14.out.bw hb)
            try replace TC := Lib.hid (TC.out.bw hb)
            try replace Q5 := Lib.hid (Q5.out.bw hb)
            try replace O12 := Lib.hid (O12.out.bw hb)
            clear hb
            replace O12 := Lib.hid O12
            try simp only [Act.put, List.setIfInBounds_toArray, List.set_cons_succ, List.set_cons_zero]
            refine hoist [] [] (a1 := ?_) 13 rfl (by kernel_rfl) (.inl ⟨rfl, rfl⟩) rfl rfl rfl (fun x K hK => ?_) ?_
            rotate_left
            · go_big_quiet_op
              exact hK
            refine effect 14 rfl (by kernel_rfl) (by kernel_rfl) rfl (fun x14 K hK => ?_)
            go_simp
            refine hK _ _ (Still.of_below ((Below.refl _ _).alloc (Nat.le_refl _) _)) ?_
            clear hK K
            have hb := x14.bw.trans ((BW.refl x14.now).alloc (o := .cells #[.int .i64 cls, .slice s12 n c12] 43))
            have L14 := Lib.hid (Sls.pace x14.now cls (.slice s12 n c12))
            have hL := L14
            clear L14
            replace Bc := Lib.hid (Bc.out.trans hb)
            try replace hgp := Lib.hid (BW.heap hb hgp.out)
            try replace hgb := Lib.hid (BW.heap hb hgb.out)
            try replace Qt := Lib.hid (Qt.out.bw hb)
            try replace L14 := Lib.hid (L14.out.bw hb)
            try replace TC := Lib.hid (TC.out.bw hb)
            try replace Q5 := Lib.hid (Q5.out.bw hb)
            try replace O12 := Lib.hid (O12.out.bw hb)
            clear hb
            have L14 := hL
            clear hL
            generalize x14.now.alloc (.cells #[.int .i64 cls, .slice s12 n c12] 43) = w14 at *
            generalize x14.now.heap.size = g14 at *
            try simp only [Act.put, List.setIfInBounds_toArray, List.set_cons_succ, List.set_cons_zero]
            refine effectL 15 rfl (by kernel_rfl) rfl (by kernel_rfl) rfl (fun x15 K hK => ?_)
            have hb := x15.bw
            replace Bc := Lib.hid (Bc.out.trans hb)
            try replace hgp := Lib.hid (BW.heap hb hgp.out)
            try replace hgb := Lib.hid (BW.heap hb hgb.out)
            try replace Qt := Lib.hid (Qt.out.bw hb)
            try replace L14 := Lib.hid (L14.out.bw hb)
            try replace TC := Lib.hid (TC.out.bw hb)
            try replace Q5 := Lib.hid (Q5.out.bw hb)
            try replace O12 := Lib.hid (O12.out.bw hb)
            clear hb
            have O12' : OB x15.now base 5 (.slice s12 n c12) b.length b := by rw [hnl.out]; exact O12.out
            refine wp_apPc _ _ rfl base (.slice s5 L'.length c5) L'.length L' rfl Q5.out _ rfl cls (.slice s12 n c12) b L14.out O12' (by omega) (Nat.le_trans hbase Bc.out.size) ?_
            intro s6 c6 w6 hc6 hm6 Q6 T6 hb6 G6
            refine hK _ _ ?_
            clear hK K O12' hb6
            have G7 : ∀ j, (Value.slice s6 (L'.length + 1) c6).ownBlock = some j → w.heap.size ≤ j := fun j hj => by
              rcases G6 j hj with h1 | h1
              · exact G9.out j h1
              · exact Nat.le_trans Bc.out.size h1
            have TC6 := Lib.hid (TC.out.st T6 (fun hm => by have := Q5.out.ne TC.out (by decide) gt (by simpa using hm); exact this rfl))
            replace Bc := Lib.hid (BW.stP Bc.out T6 (fun j hj => G9.out j (by simpa using hj)))
            unfold maxLen at hm6
            clear T6 G6 O12 L14 Q5 G9 TC
            have TC := TC6
            have Q5 := Lib.hid Q6
            clear Q6 TC6
            replace G7 := Lib.hid G7
            try simp only [Act.put, List.setIfInBounds_toArray, List.set_cons_succ, List.set_cons_zero]
            refine hoist [] [] (a1 := ?_) 16 rfl (by kernel_rfl) (.inl ⟨rfl, rfl⟩) rfl rfl rfl (fun x K hK => ?_) ?_
            rotate_left
            · go_big_quiet_op
              exact hK
            refine hoist [] [] (a1 := ?_) 17 rfl (by kernel_rfl) (.inl ⟨rfl, rfl⟩) rfl rfl rfl (fun x K hK => ?_) ?_
            rotate_left
            · go_big_quiet_op
              exact hK
            refine effectL 18 rfl (by kernel_rfl) rfl (by kernel_rfl) rfl (fun x18 K hK => ?_)
            have hb := x18.bw
            replace Bc := Lib.hid (Bc.out.trans hb)
            try replace hgp := Lib.hid (BW.heap hb hgp.out)
            try replace hgb := Lib.hid (BW.heap hb hgb.out)
            try replace Qt := Lib.hid (Qt.out.bw hb)
            try replace L14 := Lib.hid (L14.out.bw hb)
            try replace TC := Lib.hid (TC.out.bw hb)
            try replace Q5 := Lib.hid (Q5.out.bw hb)
            try replace O12 := Lib.hid (O12.out.bw hb)
            clear hb
            have hHc := hH.out.bw Bc.out
            have y3 := hp_frz hHc.cells 3
            have z3 := hp_cell hHc.cells 3
            have hQ7 : PQ x18.now base (.slice s6 (L'.length + 1) c6) (L' ++ [(cls, b)]).length (L' ++ [(cls, b)]) := by rw [List.length_append]; exact Q5.out
            have H8 := Lib.hid (hHc.setL (.slice s6 (L'.length + 1) c6) _ hQ7)
            have T8 := Lib.hid ((Bc.out.still [g]).trans (still_setCP x18.now g 3 (.slice s6 (L'.length + 1) c6)))
            have TC8 := Lib.hid (TC.out.st (still_setCP x18.now g 3 (.slice s6 (L'.length + 1) c6)) (by simp; omega))
            go_simp
            refine hK _ _ ?_
            clear hK K y3 z3 hHc hQ7
            generalize x18.now.setCell ⟨g, 3, none⟩ (.slice s6 (L'.length + 1) c6) = w18 at *
            try simp only [Act.put, List.setIfInBounds_toArray, List.set_cons_succ, List.set_cons_zero]
            refine done (by kernel_rfl) (fun xr => ?_)
            go_wp2_with fail
            go_meet
            exact ⟨_, H8.out.bw xr.bw, G7, TC8.out.bw xr.bw, Lib.hid (T8.out.trans (xr.bw.still [g]))⟩
          · skip
            go_simp
            refine hK _ _ (Still.of_below ((Below.refl _ _).alloc (Nat.le_refl _) _)) ?_
            clear hK K
            have hb := x9.bw.trans ((BW.refl x9.now).alloc (o := .cells #[] 5))
            have hgb := Lib.hid (heap_alloc_new x9.now (.cells #[] 5))
            have hgm := Nat.le_trans Bc.out.size x9.bw.size
            replace Bc := Lib.hid (Bc.out.trans hb)
            try replace hgp := Lib.hid (BW.heap hb hgp.out)
            try replace hgb := Lib.hid (BW.heap hb hgb.out)
            try replace Qt := Lib.hid (Qt.out.bw hb)
            try replace L14 := Lib.hid (L14.out.bw hb)
            try replace TC := Lib.hid (TC.out.bw hb)
            try replace Q5 := Lib.hid (Q5.out.bw hb)
            try replace O12 := Lib.hid (O12.out.bw hb)
            clear hb
            generalize x9.now.alloc (.cells #[] 5) = wb at *
            generalize x9.now.heap.size = gm at *
            try simp only [Act.put, List.setIfInBounds_toArray, List.set_cons_succ, List.set_cons_zero]
            refine effect 6 rfl (by kernel_rfl) (by kernel_rfl) rfl (fun x6 K hK => ?_)
            have hb := x6.bw
            replace Bc := Lib.hid (Bc.out.trans hb)
            try replace hgp := Lib.hid (BW.heap hb hgp.out)
            try replace hgb := Lib.hid (BW.heap hb hgb.out)
            try replace Qt := Lib.hid (Qt.out.bw hb)
            try replace L14 := Lib.hid (L14.out.bw hb)
            try replace TC := Lib.hid (TC.out.bw hb)
            try replace Q5 := Lib.hid (Q5.out.bw hb)
            try replace O12 := Lib.hid (O12.out.bw hb)
            clear hb
            refine wp_apPQ0 _ _ rfl base gl rfl (Nat.le_trans hbase hgl) hgp.out _ rfl L'.length L' Qt.out (by omega) (Nat.le_trans hbase Bc.out.size) ?_
            intro s5 c5 w9 hc5 hm5 Q5 B5 G5
            refine hK _ _ (Still.of_below B5) ?_
            clear hK K
            have G9 : ∀ j, (Value.slice s5 L'.length c5).ownBlock = some j → w.heap.size ≤ j := fun j hj => by
              rcases G5 j hj with h1 | h1
              · omega
              · exact Nat.le_trans Bc.out.size h1
            unfold maxLen at hm5
            clear G5 hgp hgl Qt
            have hb := B5
            clear B5
            replace G9 := Lib.hid G9
            replace Bc := Lib.hid (Bc.out.trans hb)
            try replace hgp := Lib.hid (BW.heap hb hgp.out)
            try replace hgb := Lib.hid (BW.heap hb hgb.out)
            try replace Qt := Lib.hid (Qt.out.bw hb)
            try replace L14 := Lib.hid (L14.out.bw hb)
            try replace TC := Lib.hid (TC.out.bw hb)
            try replace Q5 := Lib.hid (Q5.out.bw hb)
            try replace O12 := Lib.hid (O12.out.bw hb)
            clear hb
            replace Q5 := Lib.hid Q5
            try simp only [Act.put, List.setIfInBounds_toArray, List.set_cons_succ, List.set_cons_zero]
            refine effect 12 rfl (by kernel_rfl) (by kernel_rfl) rfl (fun x12 K hK => ?_)
            have hb := x12.bw
            replace Bc := Lib.hid (Bc.out.trans hb)
            try replace hgp := Lib.hid (BW.heap hb hgp.out)
            try replace hgb := Lib.hid (BW.heap hb hgb.out)
            try replace Qt := Lib.hid (Qt.out.bw hb)
            try replace L14 := Lib.hid (L14.out.bw hb)
            try replace TC := Lib.hid (TC.out.bw hb)
            try replace Q5 := Lib.hid (Q5.out.bw hb)
            try replace O12 := Lib.hid (O12.out.bw hb)
            clear hb
            refine wp_apOB0 _ _ rfl base gm rfl (Nat.le_trans hbase hgm) hgb.out _ rfl n b (hV.out.bw Bc.out) (by omega) (Nat.le_trans hbase Bc.out.size) ?_
            intro s12 c12 w12 hc12 hm12 O12 B12
            refine hK _ _ (Still.of_below B12) ?_
            unfold maxLen at hm12
            clear hK K hgb hgm
            have hb := B12
            clear B12
            replace Bc := Lib.hid (Bc.out.trans hb)
            try replace hgp := Lib.hid (BW.heap hb hgp.out)
            try replace hgb := Lib.hid (BW.heap hb hgb.out)
            try replace Qt := Lib.hid (Qt.out.bw hb)
            try replace L14 := Lib.hid (L14.out.bw hb)
            try replace TC := Lib.hid (TC.out.bw hb)
            try replace Q5 := Lib.hid (Q5.out.bw hb)
            try replace O12 := Lib.hid (O12.out.bw hb)
            clear hb
            replace O12 := Lib.hid O12
            try simp only [Act.put, List.setIfInBounds_toArray, List.set_cons_succ, List.set_cons_zero]
            refine hoist [] [] (a1 := ?_) 13 rfl (by kernel_rfl) (.inl ⟨rfl, rfl⟩) rfl rfl rfl (fun x K hK => ?_) ?_
            rotate_left
            · go_big_quiet_op
              exact hK
            refine effect 14 rfl (by kernel_rfl) (by kernel_rfl) rfl (fun x14 K hK => ?_)
            go_simp
            refine hK _ _ (Still.of_below ((Below.refl _ _).alloc (Nat.le_refl _) _)) ?_
            clear hK K
            have hb := x14.bw.trans ((BW.refl x14.now).alloc (o := .cells #[.int .i64 cls, .slice s12 n c12] 43))
            have L14 := Lib.hid (Sls.pace x14.now cls (.slice s12 n c12))
            have hL := L14
            clear L14
            replace Bc := Lib.hid (Bc.out.trans hb)
            try replace hgp := Lib.hid (BW.heap hb hgp.out)
            try replace hgb := Lib.hid (BW.heap hb hgb.out)
            try replace Qt := Lib.hid (Qt.out.bw hb)
            try replace L14 := Lib.hid (L14.out.bw hb)
            try replace TC := Lib.hid (TC.out.bw hb)
            try replace Q5 := Lib.hid (Q5.out.bw hb)
            try replace O12 := Lib.hid (O12.out.bw hb)
            clear hb
            have L14 := hL
            clear hL
            generalize x14.now.alloc (.cells #[.int .i64 cls, .slice s12 n c12] 43) = w14 at *
            generalize x14.now.heap.size = g14 at *
            try simp only [Act.put, List.setIfInBounds_toArray, List.set_cons_succ, List.set_cons_zero]
            refine effectL 15 rfl (by kernel_rfl) rfl (by kernel_rfl) rfl (fun x15 K hK => ?_)
            have hb := x15.bw
            replace Bc := Lib.hid (Bc.out.trans hb)
            try replace hgp := Lib.hid (BW.heap hb hgp.out)
            try replace hgb := Lib.hid (BW.heap hb hgb.out)
            try replace Qt := Lib.hid (Qt.out.bw hb)
            try replace L14 := Lib.hid (L14.out.bw hb)
            try replace TC := Lib.hid (TC.out.bw hb)
            try replace Q5 := Lib.hid (Q5.out.bw hb)
            try replace O12 := Lib.hid (O12.out.bw hb)
            clear hb
            have O12' : OB x15.now base 5 (.slice s12 n c12) b.length b := by rw [hnl.out]; exact O12.out
            refine wp_apPc _ _ rfl base (.slice s5 L'.length c5) L'.length L' rfl Q5.out _ rfl cls (.slice s12 n c12) b L14.out O12' (by omega) (Nat.le_trans hbase Bc.out.size) ?_
            intro s6 c6 w6 hc6 hm6 Q6 T6 hb6 G6
            refine hK _ _ ?_
            clear hK K O12' hb6
            have G7 : ∀ j, (Value.slice s6 (L'.length + 1) c6).ownBlock = some j → w.heap.size ≤ j := fun j hj => by
              rcases G6 j hj with h1 | h1
              · exact G9.out j h1
              · exact Nat.le_trans Bc.out.size h1
            have TC6 := Lib.hid (TC.out.st T6 (fun hm => by have := Q5.out.ne TC.out (by decide) gt (by simpa using hm); exact this rfl))
            replace Bc := Lib.hid (BW.stP Bc.out T6 (fun j hj => G9.out j (by simpa using hj)))
            unfold maxLen at hm6
            clear T6 G6 O12 L14 Q5 G9 TC
            have TC := TC6
            have Q5 := Lib.hid Q6
            clear Q6 TC6
            replace G7 := Lib.hid G7
            try simp only [Act.put, List.setIfInBounds_toArray, List.set_cons_succ, List.set_cons_zero]
            refine hoist [] [] (a1 := ?_) 16 rfl (by kernel_rfl) (.inl ⟨rfl, rfl⟩) rfl rfl rfl (fun x K hK => ?_) ?_
            rotate_left
            · go_big_quiet_op
              exact hK
            refine hoist [] [] (a1 := ?_) 17 rfl (by kernel_rfl) (.inl ⟨rfl, rfl⟩) rfl rfl rfl (fun x K hK => ?_) ?_
            rotate_left
            · go_big_quiet_op
              exact hK
            refine effectL 18 rfl (by kernel_rfl) rfl (by kernel_rfl) rfl (fun x18 K hK => ?_)
            have hb := x18.bw
            replace Bc := Lib.hid (Bc.out.trans hb)
            try replace hgp := Lib.hid (BW.heap hb hgp.out)
            try replace hgb := Lib.hid (BW.heap hb hgb.out)
            try replace Qt := Lib.hid (Qt.out.bw hb)
            try replace L14 := Lib.hid (L14.out.bw hb)
            try replace TC := Lib.hid (TC.out.bw hb)
            try replace Q5 := Lib.hid (Q5.out.bw hb)
            try replace O12 := Lib.hid (O12.out.bw hb)
            clear hb
            have hHc := hH.out.bw Bc.out
            have y3 := hp_frz hHc.cells 3
            have z3 := hp_cell hHc.cells 3
            have hQ7 : PQ x18.now base (.slice s6 (L'.length + 1) c6) (L' ++ [(cls, b)]).length (L' ++ [(cls, b)]) := by rw [List.length_append]; exact Q5.out
            have H8 := Lib.hid (hHc.setL (.slice s6 (L'.length + 1) c6) _ hQ7)
            have T8 := Lib.hid ((Bc.out.still [g]).trans (still_setCP x18.now g 3 (.slice s6 (L'.length + 1) c6)))
            have TC8 := Lib.hid (TC.out.st (still_setCP x18.now g 3 (.slice s6 (L'.length + 1) c6)) (by simp; omega))
            go_simp
            refine hK _ _ ?_
            clear hK K y3 z3 hHc hQ7
            generalize x18.now.setCell ⟨g, 3, none⟩ (.slice s6 (L'.length + 1) c6) = w18 at *
            try simp only [Act.put, List.setIfInBounds_toArray, List.set_cons_succ, List.set_cons_zero]
            refine done (by kernel_rfl) (fun xr => ?_)
            go_wp2_with fail
            go_meet
            exact ⟨_, H8.out.bw xr.bw, G7, TC8.out.bw xr.bw, Lib.hid (T8.out.trans (xr.bw.still [g]))⟩
        · skip
          go_simp
          refine hK _ _ (Still.of_below ((Below.refl _ _).alloc (Nat.le_refl _) _)) ?_
          clear hK K
          have hb := x9.bw.trans ((BW.refl x9.now).alloc (o := .cells #[] 5))
          have hgb := Lib.hid (heap_alloc_new x9.now (.cells #[] 5))
          have hgm := Nat.le_trans Bc.out.size x9.bw.size
          replace Bc := Lib.hid (Bc.out.trans hb)
          try replace hgp := Lib.hid (BW.heap hb hgp.out)
          try replace hgb := Lib.hid (BW.heap hb hgb.out)
          try replace Qt := Lib.hid (Qt.out.bw hb)
          try replace L14 := Lib.hid (L14.out.bw hb)
          try replace TC := Lib.hid (TC.out.bw hb)
          try replace Q5 := Lib.hid (Q5.out.bw hb)
          try replace O12 := Lib.hid (O12.out.bw hb)
          clear hb
          generalize x9.now.alloc (.cells #[] 5) = wb at *
          generalize x9.now.heap.size = gm at *
          try simp only [Act.put, List.setIfInBounds_toArray, List.set_cons_succ, List.set_cons_zero]
          refine effect 1 rfl (by kernel_rfl) (by kernel_rfl) rfl (fun x1 K hK => ?_)
          go_simp
          refine hK _ _ (Still.of_below ((Below.refl _ _).alloc (Nat.le_refl _) _)) ?_
          clear hK K
          have hb := x1.bw.trans ((BW.refl x1.now).alloc (o := .cells #[] 43))
          have hgp := Lib.hid (heap_alloc_new x1.now (.cells #[] 43))
          have hgl := Nat.le_trans Bc.out.size x1.bw.size
          replace Bc := Lib.hid (Bc.out.trans hb)
          try replace hgp := Lib.hid (BW.heap hb hgp.out)
          try replace hgb := Lib.hid (BW.heap hb hgb.out)
          try replace Qt := Lib.hid (Qt.out.bw hb)
          try replace L14 := Lib.hid (L14.out.bw hb)
          try replace TC := Lib.hid (TC.out.bw hb)
          try replace Q5 := Lib.hid (Q5.out.bw hb)
          try replace O12 := Lib.hid (O12.out.bw hb)
          clear hb
          generalize x1.now.alloc (.cells #[] 43) = wp at *
          generalize x1.now.heap.size = gl at *
          try simp only [Act.put, List.setIfInBounds_toArray, List.set_cons_succ, List.set_cons_zero]
          refine effect 6 rfl (by kernel_rfl) (by kernel_rfl) rfl (fun x6 K hK => ?_)
          have hb := x6.bw
          replace Bc := Lib.hid (Bc.out.trans hb)
          try replace hgp := Lib.hid (BW.heap hb hgp.out)
          try replace hgb := Lib.hid (BW.heap hb hgb.out)
          try replace Qt := Lib.hid (Qt.out.bw hb)
          try replace L14 := Lib.hid (L14.out.bw hb)
          try replace TC := Lib.hid (TC.out.bw hb)
          try replace Q5 := Lib.hid (Q5.out.bw hb)
          try replace O12 := Lib.hid (O12.out.bw hb)
          clear hb
          refine wp_apPQ0 _ _ rfl base gl rfl (Nat.le_trans hbase hgl) hgp.out _ rfl L'.length L' Qt.out (by omega) (Nat.le_trans hbase Bc.out.size) ?_
          intro s5 c5 w9 hc5 hm5 Q5 B5 G5
          refine hK _ _ (Still.of_below B5) ?_
          clear hK K
          have G9 : ∀ j, (Value.slice s5 L'.length c5).ownBlock = some j → w.heap.size ≤ j := fun j hj => by
            rcases G5 j hj with h1 | h1
            · omega
            · exact Nat.le_trans Bc.out.size h1
          unfold maxLen at hm5
          clear G5 hgp hgl Qt
          have hb := B5
          clear B5
          replace G9 := Lib.hid G9
          replace Bc := Lib.hid (Bc.out.trans hb)
          try replace hgp := Lib.hid (BW.heap hb hgp.out)
          try replace hgb := Lib.hid (BW.heap hb hgb.out)
          try replace Qt := Lib.hid (Qt.out.bw hb)
          try replace L14 := Lib.hid (L14.out.bw hb)
          try replace TC := Lib.hid (TC.out.bw hb)
          try replace Q5 := Lib.hid (Q5.out.bw hb)
          try replace O12 := Lib.hid (O12.out.bw hb)
          clear hb
          replace Q5 := Lib.hid Q5
          try simp only [Act.put, List.setIfInBounds_toArray, List.set_cons_succ, List.set_cons_zero]
          refine effect 12 rfl (by kernel_rfl) (by kernel_rfl) rfl (fun x12 K hK => ?_)
          have hb := x12.bw
          replace Bc := Lib.hid (Bc.out.trans hb)
          try replace hgp := Lib.hid (BW.heap hb hgp.out)
          try replace hgb := Lib.hid (BW.heap hb hgb.out)
          try replace Qt := Lib.hid (Qt.out.bw hb)
          try replace L14 := Lib.hid (L14.out.bw hb)
          try replace TC := Lib.hid (TC.out.bw hb)
          try replace Q5 := Lib.hid (Q5.out.bw hb)
          try replace O12 := Lib.hid (O12.out.bw hb)
          clear hb
          refine wp_apOB0 _ _ rfl base gm rfl (Nat.le_trans hbase hgm) hgb.out _ rfl n b (hV.out.bw Bc.out) (by omega) (Nat.le_trans hbase Bc.out.size) ?_
          intro s12 c12 w12 hc12 hm12 O12 B12
          refine hK _ _ (Still.of_below B12) ?_
          unfold maxLen at hm12
          clear hK K hgb hgm
          have hb := B12
          clear B12
          replace Bc := Lib.hid (Bc.out.trans hb)
          try replace hgp := Lib.hid (BW.heap hb hgp.out)
          try replace hgb := Lib.hid (BW.heap hb hgb.out)
          try replace Qt := Lib.hid (Qt.out.bw hb)
          try replace L14 := Lib.hid (L14.out.bw hb)
          try replace TC := Lib.hid (TC.out.bw hb)
          try replace Q5 := Lib.hid (Q5.out.bw hb)
          try replace O12 := Lib.hid (O12.out.bw hb)
          clear hb
          replace O12 := Lib.hid O12
          try simp only [Act.put, List.setIfInBounds_toArray, List.set_cons_succ, List.set_cons_zero]
          refine hoist [] [] (a1 := ?_) 13 rfl (by kernel_rfl) (.inl ⟨rfl, rfl⟩) rfl rfl rfl (fun x K hK => ?_) ?_
          rotate_left
          · go_big_quiet_op
            exact hK
          refine effect 14 rfl (by kernel_rfl) (by kernel_rfl) rfl (fun x14 K hK => ?_)
          go_simp
          refine hK _ _ (Still.of_below ((Below.refl _ _).alloc (Nat.le_refl _) _)) ?_
          clear hK K
          have hb := x14.bw.trans ((BW.refl x14.now).alloc (o := .cells #[.int .i64 cls, .slice s12 n c12] 43))
          have L14 := Lib.hid (Sls.pace x14.now cls (.slice s12 n c12))
          have hL := L14
          clear L14
          replace Bc := Lib.hid (Bc.out.trans hb)
          try replace hgp := Lib.hid (BW.heap hb hgp.out)
          try replace hgb := Lib.hid (BW.heap hb hgb.out)
          try replace Qt := Lib.hid (Qt.out.bw hb)
          try replace L14 := Lib.hid (L14.out.bw hb)
          try replace TC := Lib.hid (TC.out.bw hb)
          try replace Q5 := Lib.hid (Q5.out.bw hb)
          try replace O12 := Lib.hid (O12.out.bw hb)
          clear hb
          have L14 := hL
          clear hL
          generalize x14.now.alloc (.cells #[.int .i64 cls, .slice s12 n c12] 43) = w14 at *
          generalize x14.now.heap.size = g14 at *
          try simp only [Act.put, List.setIfInBounds_toArray, List.set_cons_succ, List.set_cons_zero]
          refine effectL 15 rfl (by kernel_rfl) rfl (by kernel_rfl) rfl (fun x15 K hK => ?_)
          have hb := x15.bw
          replace Bc := Lib.hid (Bc.out.trans hb)
          try replace hgp := Lib.hid (BW.heap hb hgp.out)
          try replace hgb := Lib.hid (BW.heap hb hgb.out)
          try replace Qt := Lib.hid (Qt.out.bw hb)
          try replace L14 := Lib.hid (L14.out.bw hb)
          try replace TC := Lib.hid (TC.out.bw hb)
          try replace Q5 := Lib.hid (Q5.out.bw hb)
          try replace O12 := Lib.hid (O12.out.bw hb)
          clear hb
          have O12' : OB x15.now base 5 (.slice s12 n c12) b.length b := by rw [hnl.out]; exact O12.out
          refine wp_apPc _ _ rfl base (.slice s5 L'.length c5) L'.length L' rfl Q5.out _ rfl cls (.slice s12 n c12) b L14.out O12' (by omega) (Nat.le_trans hbase Bc.out.size) ?_
          intro s6 c6 w6 hc6 hm6 Q6 T6 hb6 G6
          refine hK _ _ ?_
          clear hK K O12' hb6
          have G7 : ∀ j, (Value.slice s6 (L'.length + 1) c6).ownBlock = some j → w.heap.size ≤ j := fun j hj => by
            rcases G6 j hj with h1 | h1
            · exact G9.out j h1
            · exact Nat.le_trans Bc.out.size h1
          have TC6 := Lib.hid (TC.out.st T6 (fun hm => by have := Q5.out.ne TC.out (by decide) gt (by simpa using hm); exact this rfl))
          replace Bc := Lib.hid (BW.stP Bc.out T6 (fun j hj => G9.out j (by simpa using hj)))
          unfold maxLen at hm6
          clear T6 G6 O12 L14 Q5 G9 TC
          have TC := TC6
          have Q5 := Lib.hid Q6
          clear Q6 TC6
          replace G7 := Lib.hid G7
          try simp only [Act.put, List.setIfInBounds_toArray, List.set_cons_succ, List.set_cons_zero]
          refine hoist [] [] (a1 := ?_) 16 rfl (by kernel_rfl) (.inl ⟨rfl, rfl⟩) rfl rfl rfl (fun x K hK => ?_) ?_
          rotate_left
          · go_big_quiet_op
            exact hK
          refine hoist [] [] (a1 := ?_) 17 rfl (by kernel_rfl) (.inl ⟨rfl, rfl⟩) rfl rfl rfl (fun x K hK => ?_) ?_
          rotate_left
          · go_big_quiet_op
            exact hK
          refine effectL 18 rfl (by kernel_rfl) rfl (by kernel_rfl) rfl (fun x18 K hK => ?_)
          have hb := x18.bw
          replace Bc := Lib.hid (Bc.out.trans hb)
          try replace hgp := Lib.hid (BW.heap hb hgp.out)
          try replace hgb := Lib.hid (BW.heap hb hgb.out)
          try replace Qt := Lib.hid (Qt.out.bw hb)
          try replace L14 := Lib.hid (L14.out.bw hb)
          try replace TC := Lib.hid (TC.out.bw hb)
          try replace Q5 := Lib.hid (Q5.out.bw hb)
          try replace O12 := Lib.hid (O12.out.bw hb)
          clear hb
          have hHc := hH.out.bw Bc.out
          have y3 := hp_frz hHc.cells 3
          have z3 := hp_cell hHc.cells 3
          have hQ7 : PQ x18.now base (.slice s6 (L'.length + 1) c6) (L' ++ [(cls, b)]).length (L' ++ [(cls, b)]) := by rw [List.length_append]; exact Q5.out
          have H8 := Lib.hid (hHc.setL (.slice s6 (L'.length + 1) c6) _ hQ7)
          have T8 := Lib.hid ((Bc.out.still [g]).trans (still_setCP x18.now g 3 (.slice s6 (L'.length + 1) c6)))
          have TC8 := Lib.hid (TC.out.st (still_setCP x18.now g 3 (.slice s6 (L'.length + 1) c6)) (by simp; omega))
          go_simp
          refine hK _ _ ?_
          clear hK K y3 z3 hHc hQ7
          generalize x18.now.setCell ⟨g, 3, none⟩ (.slice s6 (L'.length + 1) c6) = w18 at *
          try simp only [Act.put, List.setIfInBounds_toArray, List.set_cons_succ, List.set_cons_zero]
          refine done (by kernel_rfl) (fun xr => ?_)
          go_wp2_with fail
          go_meet
          exact ⟨_, H8.out.bw xr.bw, G7, TC8.out.bw xr.bw, Lib.hid (T8.out.trans (xr.bw.still [g]))⟩
      obtain ⟨v8, H8, G8, C8, T8⟩ := hcut
      obtain ⟨s8, c8, rfl, hn8, hm8⟩ := H8.out.pq.len
      clear B3 X3 lx0 lx1 lt3 TV3 BA3 hF
      go_upto_region 14 with (fail)
      have zg : wc.cell? ⟨g, 4, none⟩ = some (.int .i64 (gone : Nat)) := hp_cell H8.out.cells 4
      have zt : wc.cell? ⟨gt, 4, none⟩ = some (.int .i64 (g' : Nat)) := hp_cell C8.out 4
      have lg := fun x : LaterS [] wc => x.cell zg (by simp)
      have lt := fun x : LaterS [] wc => x.cell zt (by simp)
      have q5 : IntKind.i64.wrap ((gone : Int) + (g' : Int)) = ((gone + g' : Nat) : Int) := by rw [show ((gone + g' : Nat) : Int) = (gone : Int) + (g' : Int) by push_cast; rfl]; exact IntWalk.i64_in _ (by omega)
      clear zg zt
      refine wp_region_gg [] [] [12] (by kernel_rfl) ?_
      refine hoist [] [] (a1 := ?_) 0 rfl (by kernel_rfl) (.inl ⟨rfl, rfl⟩) rfl rfl rfl (fun x K hK => ?_) ?_
      rotate_left
      · go_big_quiet_op
        exact hK
      refine hoist [] [] (a1 := ?_) 1 rfl (by kernel_rfl) (.inl ⟨rfl, rfl⟩) rfl rfl rfl (fun x K hK => ?_) ?_
      rotate_left
      · go_big_quiet_op
        exact hK
      refine hoist [] [] (a1 := ?_) 2 rfl (by kernel_rfl) (.inl ⟨rfl, rfl⟩) rfl rfl rfl (fun x K hK => ?_) ?_
      rotate_left
      · go_big_quiet_op
        exact hK
      refine hoist [] [] (a1 := ?_) 3 rfl (by kernel_rfl) (.inl ⟨rfl, rfl⟩) rfl rfl rfl (fun x K hK => ?_) ?_
      rotate_left
      · go_big_quiet_op
        exact hK
      refine hoist [] [] (a1 := ?_) 4 rfl (by kernel_rfl) (.inl ⟨rfl, rfl⟩) rfl rfl rfl (fun x K hK => ?_) ?_
      rotate_left
      · go_big_quiet_op
        exact hK
      refine hoist [] [] (a1 := ?_) 5 rfl (by kernel_rfl) (.inl ⟨rfl, rfl⟩) rfl rfl rfl (fun x K hK => ?_) ?_
      rotate_left
      · go_big_quiet_op
        exact hK
      refine hoist [] [] (a1 := ?_) 6 rfl (by kernel_rfl) (.inl ⟨rfl, rfl⟩) rfl rfl rfl (fun x K hK => ?_) ?_
      rotate_left
      · go_big_quiet_op
        exact hK
      refine hoist [] [] (a1 := ?_) 7 rfl (by kernel_rfl) (.inl ⟨rfl, rfl⟩) rfl rfl rfl (fun x K hK => ?_) ?_
      rotate_left
      · go_big_quiet_op
        exact hK
      refine hoist [] [] (a1 := ?_) 8 rfl (by kernel_rfl) (.inl ⟨rfl, rfl⟩) rfl rfl rfl (fun x K hK => ?_) ?_
      rotate_left
      · go_big_quiet_op
        exact hK
      refine hoist [] [] (a1 := ?_) 9 rfl (by kernel_rfl) (.inl ⟨rfl, rfl⟩) rfl rfl rfl (fun x K hK => ?_) ?_
      rotate_left
      · go_big_quiet_op
        exact hK
      refine hoist [] [] (a1 := ?_) 10 rfl (by kernel_rfl) (.inl ⟨rfl, rfl⟩) rfl rfl rfl (fun x K hK => ?_) ?_
      rotate_left
      · go_big_quiet_op
        exact hK
      refine hoist [] [] (a1 := ?_) 11 rfl (by kernel_rfl) (.inl ⟨rfl, rfl⟩) rfl rfl rfl (fun x K hK => ?_) ?_
      rotate_left
      · go_big_quiet_op
        exact hK
      refine tail 12 rfl (by kernel_rfl) rfl (fun xr => ?_)
      simp only [List.drop_succ_cons, List.drop_zero]
      have H9 := Lib.hid (H8.out.bw xr.bw)
      have y4 := hp_frz H9.out.cells 4
      have z4 := hp_cell H9.out.cells 4
      have H10 := Lib.hid (H9.out.setG (gone + g'))
      have T10 := Lib.hid ((T8.out.trans (xr.bw.still [g])).trans (still_setCP xr.now g 4 (.int .i64 ((gone + g' : Nat) : Int))))
      clear lg lt q5
      go_wp2_with fail
      go_ret
      rw [hRR.out]
      exact ⟨rfl, ⟨_, H10.out, fun k hk => .inr (G8.out k hk)⟩, T10.out⟩
end Go.Proofs.Ytgiajnfmjpdodaa
