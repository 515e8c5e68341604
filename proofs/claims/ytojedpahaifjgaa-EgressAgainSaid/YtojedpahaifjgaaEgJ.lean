/- An egress of plain media: Nack of one loss: what goes out again is paid by the bucket. No condition but the numbers' bounds. -/
import Derived.Test.YtojedpahaifjgaaEgH
namespace Go.Proofs.Ytojedpahaifjgaa
open Go.RowKit

/-- Slices of bytes, by their lengths alone. -/
def LB : Elt Nat where
  size := 1
  R := fun _ _ a c => ∃ s cp, c = [.slice s a cp]
  Ok := fun _ _ => True
  pos := by decide
  len := fun ⟨_, _, e⟩ => by rw [e]; rfl
  one := fun ⟨_, _, e⟩ u hu => by rw [e] at hu; simp at hu; rw [hu]; rfl
  bw := fun e _ => e
  up := fun e _ => e
  still := fun e _ _ => e
  old := fun e _ _ => e
theorem slLB : SlTy Try.prog 72 34 1 24 := SlTy.mk' Try.underlying72 (by kernel_rfl) (by decide)
theorem lb_form {T : TypeId} {w : World} {base : Nat} {sv : Option Addr} {n cap : Nat} {L : List Nat} (h : EQ LB T w base (.slice sv n cap) n L) (h0 : 0 < n) :
    ∃ g o, sv = some ⟨g, o, none⟩ ∧ ∀ i (hi : i < L.length), ∃ s cp, w.cell? ⟨g, o + i, none⟩ = some (.slice s L[i] cp) := by
  obtain ⟨g, o, cap', hsl, _, _, _, _, hce⟩ := h.form h0
  simp only [Value.slice.injEq] at hsl
  refine ⟨g, o, hsl.1, fun i hi => ?_⟩
  obtain ⟨c, ⟨s, cp, hc⟩, hcc⟩ := hce i hi
  have z0 := hcc 0 (by decide)
  have e2 : LB.size = 1 := rfl
  rw [hc, e2, Nat.mul_one] at z0
  exact ⟨s, cp, z0⟩
set_option maxRecDepth 100000 in
set_option maxHeartbeats 8000000 in
theorem nack_E (w0 : World) (g gc gr gb : Nat) (src many wanted goes first : Int) (fol : Bool) (a0 b0 : Int) (out : Bool) (l0 pk by_ : Int) (v : Value) (L : PL) (rate burst hav : Int) (gl : Nat) (s b : Int) (w : World) (h : EgI w w0.heap.size g gc gr gb src many wanted goes first fol a0 b0 out l0 pk by_ v L rate burst hav) (hgb : w0.heap.size ≤ gb) (hB : BW w0 w) (hs : Srt L) (hn : L.length ≤ 100000) (hl : lensL L ≤ 100000000) (hh : 0 ≤ hav ∧ hav ≤ 18446744073709551615) (hl0 : l0 ≤ 1152921504606846976) (hX : HpB w gl (.cells #[.int .u16 s, .int .u16 b] 75)) :
    Calls Try.prog 16 #[.pointer (some ⟨g, 0, none⟩), .slice (some ⟨gl, 0, none⟩) 1 1] w fun e w' => ∃ so n co Ls hav', e = .returned (.slice so n co) ∧ co ≤ 9223372036854775807 ∧ n ≤ 17 ∧ EQ LB 34 w' w.heap.size (.slice so n co) n Ls ∧ 0 ≤ hav' ∧ ((Ls.sum : Nat) : Int) + hav' = hav ∧ EgI w' w0.heap.size g gc gr gb src many wanted goes first fol a0 b0 out l0 pk by_ v L rate burst hav' ∧ BW w0 w' := by
  have cN := Lib.hid (nacked_any w0.heap.size gl s b w hB.size hX)
  have hsz0 := Lib.hid hB.size
  have hE := Lib.hid h
  replace hB := Lib.hid hB
  replace hs := Lib.hid hs
  replace hn := Lib.hid hn
  replace hl := Lib.hid hl
  replace hh := Lib.hid hh
  replace hgb := Lib.hid hgb
  clear h hX
  go_enter Try.func16, Try.ntmps16
  go_upto_region 2 with (fail)
  go_wp2_with fail
  refine Calls.mono cN.out ?_
  rintro e w1 ⟨s1, n1, c1, L1, rfl, hn1, QN, hb⟩
  have E1 := Lib.hid (hE.out.bw hb)
  have B1 := Lib.hid (hB.out.trans hb)
  have S1 := Lib.hid hb.size
  obtain ⟨_, _, hq1, hc1, hm1⟩ := QN.len
  simp only [Value.slice.injEq, true_and] at hq1
  obtain ⟨-, hq1⟩ := hq1
  rw [← hq1] at hc1 hm1
  unfold maxLen at hm1
  replace QN := Lib.hid QN
  clear hq1 hb cN hE
  dsimp only
  go_upto_region 3 with (fail)
  go_loopg [5, 13] n1 (fun m' out_ i wx => ∃ (k n : Nat) (so : Option Addr) (co : Nat) (Ls : List Nat) (hv : Int), m' = n1 - k ∧ k ≤ n1 ∧ i = .int .i64 (k : Nat) ∧ out_ = .slice so n co ∧ co ≤ 9223372036854775807 ∧ n ≤ k ∧ 0 ≤ hv ∧ Hid (((Ls.sum : Nat) : Int) + hv = hav) ∧ Hid (EQ LB 34 wx w.heap.size (.slice so n co) n Ls) ∧ Hid (EQ U1 32 wx w.heap.size (.slice s1 n1 c1) n1 L1) ∧ Hid (EgI wx w0.heap.size g gc gr gb src many wanted goes first fol a0 b0 out l0 pk by_ v L rate burst hv) ∧ Hid (BW w0 wx) ∧ Hid (w.heap.size ≤ wx.heap.size))
  case atStart => exact ⟨0, 0, none, 0, [], hav, rfl, by omega, rfl, rfl, by omega, by omega, hh.out.1, Lib.hid (by simp), EQ.nil _ _ _ _, QN, E1, B1, S1⟩
  case round =>
    clear QN E1 B1 S1
    obtain ⟨k, n, so, co, Ls, hv, rfl, hk, rfl, rfl, hco, hnk, hv0, hsum, Q, QN, E, B, S⟩ := hrel
    by_cases hkn : k < n1
    · have d : decide ((k : Int) < (n1 : Int)) = true := by simp; omega
      have hL1 : L1.length = n1 := QN.out.1
      obtain ⟨ga, oa, hsa, hcells⟩ := u1_form QN.out (by omega)
      obtain ⟨x, hx⟩ : ∃ x, wr.cell? ⟨ga, oa + k, none⟩ = some (.int .u16 x) := ⟨_, hcells k (by omega)⟩
      have hs1 := Lib.hid hsa
      subst hsa
      clear hcells hs1
      obtain ⟨⟨a1, a2, b1, b2, l1, l2, hp⟩, ch, rg, bk⟩ := E.out
      have hE := Lib.hid E.out
      clear E
      have z16 := (hp_cell hp 16).trans (show _ = some (.pointer (some ⟨gr, 0, none⟩)) from rfl)
      replace hp := Lib.hid hp
      replace ch := Lib.hid ch
      replace rg := Lib.hid rg
      replace bk := Lib.hid bk
      go_upto_region 5 with (fail)
      have m16 : ∀ y : LaterS [] wr, _ := fun y => y.bw.cell z16
      clear z16 hx
      refine wp_region_gg [] [] [] (by kernel_rfl) ?_
      refine hoist [] [] (a1 := ?_) 0 rfl (by kernel_rfl) (.inl ⟨rfl, rfl⟩) rfl rfl rfl (fun x K hK => ?_) ?_
      rotate_left
      · go_big_quiet_op
        exact hK
      refine hoist [] [] (a1 := ?_) 1 rfl (by kernel_rfl) (.inl ⟨rfl, rfl⟩) rfl rfl rfl (fun x K hK => ?_) ?_
      rotate_left
      · go_big_quiet_op
        exact hK
      refine hoist [] [] (a1 := ?_) 2 rfl (by kernel_rfl) (.inl ⟨rfl, rfl⟩) rfl rfl rfl (fun x K hK => ?_) ?_
      rotate_left
      · go_big_quiet_op
        exact hK
      refine hoist [] [] (a1 := ?_) 3 rfl (by kernel_rfl) (.inl ⟨rfl, rfl⟩) rfl rfl rfl (fun x K hK => ?_) ?_
      rotate_left
      · go_big_quiet_op
        exact hK
      refine hoist [] [] (a1 := ?_) 4 rfl (by kernel_rfl) (.inl ⟨rfl, rfl⟩) rfl rfl rfl (fun x K hK => ?_) ?_
      rotate_left
      · go_big_quiet_op
        exact hK
      refine hoist [] [] (a1 := ?_) 5 rfl (by kernel_rfl) (.inl ⟨rfl, rfl⟩) rfl rfl rfl (fun x K hK => ?_) ?_
      rotate_left
      · go_big_quiet_op
        exact hK
      refine hoist [] [] (a1 := ?_) 6 rfl (by kernel_rfl) (.inl ⟨rfl, rfl⟩) rfl rfl rfl (fun x K hK => ?_) ?_
      rotate_left
      · go_big_quiet_op
        exact hK
      refine hoist [] [] (a1 := ?_) 8 rfl (by kernel_rfl) (.inl ⟨rfl, rfl⟩) rfl rfl rfl (fun x K hK => ?_) ?_
      rotate_left
      · go_big_quiet_op
        exact hK
      refine effect 7 rfl (by kernel_rfl) (by kernel_rfl) rfl (fun x7 K hK => ?_)
      go_simp
      refine Calls.mono (high_any g gc gr gb _ _ src first fol a0 a1 a2 b0 b1 b2 out l0 l1 l2 x7.now (hp.out.bw x7.bw)) ?_
      rintro e w2 ⟨rfl, rfl⟩
      refine hK _ _ ((BW.refl _).still _) ?_
      clear hK K
      have b7 := Lib.hid x7.bw
      have hhi : (if out = true then l0 else -1) ≤ 1152921504606846976 := by split <;> omega
      generalize (if out = true then l0 else -1) = hi_ at *
      try simp only [Act.put, List.setIfInBounds_toArray, List.set_cons_succ, List.set_cons_zero]
      refine effect 9 rfl (by kernel_rfl) (by kernel_rfl) rfl (fun x9 K hK => ?_)
      go_simp
      refine Calls.mono (idx_any hi_ x hhi x9.now) ?_
      rintro e w2 ⟨r, rfl, rfl⟩
      refine hK _ _ ((BW.refl _).still _) ?_
      clear hK K
      have b9 := Lib.hid (b7.out.trans x9.bw)
      clear hhi
      try simp only [Act.put, List.setIfInBounds_toArray, List.set_cons_succ, List.set_cons_zero]
      refine effect 10 rfl (by kernel_rfl) (by kernel_rfl) rfl (fun x10 K hK => ?_)
      go_simp
      have B10 := b9.out.trans x10.bw
      refine Calls.mono (get_any w0.heap.size gr pk by_ v L r x10.now (rg.out.bw B10) hs.out (Nat.le_trans hn.out (by decide)) (Nat.le_trans hl.out (by decide))) ?_
      rintro e w2 ⟨u, rfl, O2, hb⟩
      refine hK _ _ (hb.still []) ?_
      clear hK K m16
      obtain ⟨su, cu, rfl, hcu, hmu⟩ := O2.len
      have BG := Lib.hid (B10.trans hb)
      unfold maxLen at hmu
      clear O2 hb B10 b9
      generalize (getN L r).length = n2 at *
      generalize isAt L r = okb at *
      try simp only [Act.put, List.setIfInBounds_toArray, List.set_cons_succ, List.set_cons_zero]
      refine hoist [] [] (a1 := ?_) 11 rfl (by kernel_rfl) (.inl ⟨rfl, rfl⟩) rfl rfl rfl (fun x K hK => ?_) ?_
      rotate_left
      · go_big_quiet_op
        exact hK
      refine hoist [] [] (a1 := ?_) 12 rfl (by kernel_rfl) (.inl ⟨rfl, rfl⟩) rfl rfl rfl (fun x K hK => ?_) ?_
      rotate_left
      · go_big_quiet_op
        exact hK
      refine hoist [] [] (a1 := ?_) 13 rfl (by kernel_rfl) (.inl ⟨rfl, rfl⟩) rfl rfl rfl (fun x K hK => ?_) ?_
      rotate_left
      · go_big_quiet_op
        exact hK
      refine hoist [] [] (a1 := ?_) 14 rfl (by kernel_rfl) (.inl ⟨rfl, rfl⟩) rfl rfl rfl (fun x K hK => ?_) ?_
      rotate_left
      · go_big_quiet_op
        exact hK
      refine hoist [] [] (a1 := ?_) 15 rfl (by kernel_rfl) (.inl ⟨rfl, rfl⟩) rfl rfl rfl (fun x K hK => ?_) ?_
      rotate_left
      · go_big_quiet_op
        exact hK
      refine done (by kernel_rfl) (fun xr => ?_)
      have BG2 := Lib.hid (BG.out.trans xr.bw)
      clear BG b7
      have Q2 := Lib.hid (Q.out.bw BG2.out)
      have N2 := Lib.hid (QN.out.bw BG2.out)
      have E2 := Lib.hid (hE.out.bw BG2.out)
      have B2 := Lib.hid (B.out.trans BG2.out)
      have S2 := Lib.hid (Nat.le_trans S.out BG2.out.size)
      have H2 := Lib.hid (hp.out.bw BG2.out)
      have K2 : Hid (Bk xr.now gb rate burst hv) := Lib.hid (BG2.out.heap bk.out)
      clear Q QN hE B S hp ch rg bk BG2
      generalize xr.now = w3 at *
      cases okb with
      | false =>
        go_wp2_with fail
        go_roundg (n1 - (k + 1))
        case measure => omega
        case rel => exact ⟨k + 1, n, so, co, Ls, hv, rfl, by omega, by first | rfl | (congr 1; omega), rfl, hco, by omega, hv0, hsum, Q2, N2, E2, B2, S2⟩
      | true =>
        have z17 := (hp_cell H2.out 17).trans (show _ = some (.pointer (some ⟨gb, 0, none⟩)) from rfl)
        by_cases hpay : (n2 : Int) ≤ hv
        · have cT := Lib.hid (take_yes gb rate burst hv (n2 : Int) w3 K2.out hpay (by omega) (by have := hh.out.2; have := hsum.out; omega))
          go_wp2_with fail
          refine Calls.mono cT.out ?_
          rintro e w4 ⟨rfl, rfl⟩
          have T4 := still_sc w3 gb 2 (.int .u64 (hv - n2))
          have hne : ∀ {k : Nat} {cs : Array Value} {t : TypeId} {f : Nat × Nat}, w3.heap[k]? = some (.cells cs t f) → t ≠ 142 → k ∉ [gb] := fun {k cs t f} hk t1 hm => by
            obtain rfl : k = gb := by simpa using hm
            exact hp_ne hk (show HpB w3 k (.cells _ _) from K2.out) t1 rfl
          have E4 : Hid (EgI (w3.setCell ⟨gb, 2, none⟩ (.int .u64 (hv - n2))) w0.heap.size g gc gr gb src many wanted goes first fol a0 b0 out l0 pk by_ v L rate burst (hv - n2)) := by
            obtain ⟨⟨A1, A2, D1, D2, M1, M2, hp⟩, ch, rg, bk⟩ := E2.out
            exact ⟨⟨A1, A2, D1, D2, M1, M2, hp.st T4 (hne hp (by decide))⟩, ch.st T4 (hne ch (by decide)), rg.still T4 (fun k hk => by obtain rfl : k = gb := (by simpa using hk); exact .inr ⟨_, _, _, bk, by decide⟩) (hne rg.cells (by decide)) (fun k hk hm => by obtain rfl : k = gb := (by simpa using hm); exact rg.q.ne bk (by decide) _ hk rfl), K2.out.set _⟩
          have Q4 := Lib.hid (Q2.out.still T4 (fun _ _ => trivial) (fun k hk hm => by obtain rfl : k = gb := (by simpa using hm); exact Q2.out.ne K2.out (by decide) _ hk rfl))
          have N4 := Lib.hid (N2.out.still T4 (fun _ _ => trivial) (fun k hk hm => by obtain rfl : k = gb := (by simpa using hm); exact N2.out.ne K2.out (by decide) _ hk rfl))
          have B4 := Lib.hid (BW.stP B2.out T4 (fun k hk => by obtain rfl : k = gb := (by simpa using hk); exact hgb.out))
          have S4 := Lib.hid (Nat.le_trans S2.out T4.size)
          clear hne T4 Q2 N2 E2 B2 S2 H2 K2 z17 cT
          generalize w3.setCell ⟨gb, 2, none⟩ (.int .u64 (hv - n2)) = w4 at *
          dsimp only
          have BC : BW w4 (w4.alloc (.cells #[.slice su n2 cu] 34)) := (BW.refl _).alloc
          have L5 := Lib.hid (Sls.new1 (E := LB) w4 34 [.slice su n2 cu] rfl)
          have Q5 := Lib.hid (Q4.out.bw BC)
          have N5 := Lib.hid (N4.out.bw BC)
          have E5 := Lib.hid (E4.out.bw BC)
          have B5 := Lib.hid (B4.out.trans BC)
          have S5 := Nat.le_trans S4.out BC.size
          clear Q4 N4 E4 B4 S4
          replace BC := Lib.hid BC
          go_upto_region 8 with (at_builtin; go_must (refine wpList_apEQ slLB rfl _ _ rfl w.heap.size (.slice so n co) n Ls rfl Q5.out _ rfl 1 [n2] [.slice su n2 cu] L5.out (EL.single ⟨_, _, rfl⟩) rfl (by omega) S5 (fun _ _ => trivial) ?_; intro s6 c6 w6 hc6 hm6 Q6 T6 hb6 G6; unfold maxLen at hm6; replace Q6 := Lib.hid Q6; replace T6 := Lib.hid T6; replace G6 := Lib.hid G6; clear hb6))
          have N6 := Lib.hid (N5.out.still T6.out (fun _ _ => trivial) (fun k hk hm => by obtain ⟨cs, hcs⟩ := N5.out.row k hk; exact Q5.out.ne hcs (by decide) k (by simpa using hm) rfl))
          have E6 : Hid (EgI w6 w0.heap.size g gc gr gb src many wanted goes first fol a0 b0 out l0 pk by_ v L rate burst (hv - n2)) := by
            have hne : ∀ {k : Nat} {cs : Array Value} {t : TypeId} {f : Nat × Nat}, (w4.alloc (.cells #[.slice su n2 cu] 34)).heap[k]? = some (.cells cs t f) → t ≠ 34 → k ∉ (Value.slice so n co).ownBlock.toList := fun {k cs t f} hk t1 hm => Q5.out.ne hk t1 k (by simpa using hm) rfl
            have E := E5.out
            obtain ⟨⟨A1, A2, D1, D2, M1, M2, hp⟩, ch, rg, bk⟩ := E5.out
            exact E.st T6.out (Q5.out.noB (by decide)) (hne hp (by decide)) (hne ch (by decide)) (hne rg.cells (by decide)) (hne bk (by decide)) (fun k hk hm => by obtain ⟨cs, hcs⟩ := rg.q.row k hk; exact hne hcs (by decide) hm)
          have B6 := Lib.hid (BW.stP B5.out T6.out (fun j hj => Nat.le_trans hsz0.out (Q5.out.ge' j (by simpa using hj))))
          have S6 := Lib.hid (Nat.le_trans S5 T6.out.size)
          clear Q5 N5 E5 B5 S5 T6 G6 L5
          go_wp2_with fail
          go_roundg (n1 - (k + 1))
          case measure => omega
          case rel => exact ⟨k + 1, n + 1, s6, c6, _, hv - n2, rfl, by omega, by first | rfl | (congr 1; omega), rfl, by omega, by omega, by omega, Lib.hid (by have := hsum.out; rw [sum_snoc]; omega), Q6, N6, E6, B6, S6⟩
        · have cT := Lib.hid (take_no gb rate burst hv (n2 : Int) w3 K2.out (by omega))
          clear K2
          go_wp2_with fail
          refine Calls.mono cT.out ?_
          rintro e w4 ⟨rfl, rfl⟩
          clear cT
          dsimp only
          go_wp2_with fail
          go_roundg (n1 - (k + 1))
          case measure => omega
          case rel => exact ⟨k + 1, n, so, co, Ls, hv, rfl, by omega, by first | rfl | (congr 1; omega), rfl, hco, by omega, hv0, hsum, Q2, N2, E2, B2, S2⟩
    · obtain rfl : k = n1 := by omega
      have d : decide (((k : Nat) : Int) < (k : Int)) = false := by simp
      go_wp2_with fail
      go_ret
      exact ⟨so, n, co, Ls, hv, rfl, hco, by omega, Q.out, hv0, hsum.out, E.out, B.out⟩
end Go.Proofs.Ytojedpahaifjgaa
