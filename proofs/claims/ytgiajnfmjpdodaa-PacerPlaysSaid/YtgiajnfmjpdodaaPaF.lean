/- pacer.Out. No condition but the sizes'. -/
import Derived.Test.YtgiajnfmjpdodaaPaE
namespace Go.Proofs.Ytgiajnfmjpdodaa
open Go.RowKit

/-- What goes out from class c on. -/
def outR : Nat → Nat → PcS → List (Int × List Nat) → List (Int × List Nat) × PcS
  | 0, _, S, o => (o, S)
  | f + 1, c, S, o => if 4 ≤ c then (o, S) else match S.qs.getD c [] with
    | [] => outR f (c + 1) S o
    | x :: q => if S.hav < x.length then (o, S) else outR f c { S with hav := S.hav - x.length, qs := S.qs.set c q } (o ++ [((c : Int), x)])
def outN (S : PcS) : List (Int × List Nat) × PcS := outR (mny S.qs + 5) 0 S []
theorem PQ.full {w : World} {base : Nat} {v : Value} {n : Nat} {l : List (Int × List Nat)} (h : PQ w base v n l) : PQ w base v l.length l := by rw [h.1]; exact h
def OutPost (base g gb : Nat) (vs : List Value) (R : List (Int × List Nat) × PcS) (w : World) (e : Ending) (w' : World) : Prop :=
  ∃ v, e = .returned v ∧ PQ w' base v R.1.length R.1 ∧ (∃ vs', PacV w' base g gb vs' R.2 ∧ ∀ k ∈ blks vs', k ∈ blks vs) ∧ (∀ k, v.ownBlock = some k → w.heap.size ≤ k) ∧ Still [g, gb] w w'
theorem PacV.noB2 {w : World} {base g gb : Nat} {vs : List Value} {S : PcS} (h : PacV w base g gb vs S) : ∀ k ∈ [g, gb], NoB w k := fun k hk => by
  rcases List.mem_cons.1 hk with rfl | hk
  · exact .inr ⟨_, _, _, h.cells, by decide⟩
  · obtain rfl : k = gb := by simpa using hk
    exact .inr ⟨_, _, _, h.bk, by decide⟩
theorem PacV.take {w : World} {base g gb : Nat} {vs : List Value} {S : PcS} (h : PacV w base g gb vs S) (x : Int) : PacV (w.setCell ⟨gb, 2, none⟩ (.int .u64 x)) base g gb vs { S with hav := x } := by
  have hs := still_setCP w gb 2 (.int .u64 x)
  have hno : ∀ k ∈ [gb], NoB w k := fun k hk => h.noB2 k (by simp at hk ⊢; exact .inr hk)
  refine ⟨?_, h.bk.set x, h.vl, h.ql, fun d hd => ?_, h.apt⟩
  · exact (hp_oth (hp_ne h.cells h.bk (by decide))).trans h.cells
  · exact (h.pq d hd).still hs hno (fun k hk => by have := (h.pq d hd).ne h.bk (by decide) k hk; simpa using this)

set_option maxRecDepth 100000 in
set_option maxHeartbeats 8000000 in
theorem out_any (base g gb : Nat) (vs : List Value) (S : PcS) (w : World) (h : PacV w base g gb vs S) (hB : PcB S) (hh0 : 0 ≤ S.hav) (hh1 : S.hav ≤ 18446744073709551615) (hbase : base ≤ w.heap.size) :
    Calls Try.prog 24 #[.pointer (some ⟨g, 0, none⟩)] w (OutPost base g gb vs (outN S) w) := by
  have hH := Lib.hid h
  clear h
  generalize hR : outN S = R at *
  have hR0 : Hid (outR (mny S.qs + (4 - 0) + 1) 0 S [] = R) := hR
  have hlt := Lib.hid (blks_lt hH.out)
  have hgw := HpB.lt hH.out.cells
  have hmS := hB.m
  have hbw : gb < w.heap.size := HpB.lt hH.out.bk
  clear hR
  go_enter Try.func24, Try.ntmps24
  go_upto_region 5 with (fail)
  go_loopg [3, 8] 4 (fun m' v i wx => ∃ (c : Nat) (vk : List Value) (T : PcS) (o : List (Int × List Nat)) (so : Option Addr) (n co : Nat), m' = 4 - c ∧ c ≤ 4 ∧ i = .int .i64 (c : Nat) ∧ v = .slice so n co ∧ co ≤ 9223372036854775807 ∧ n + mny T.qs = mny S.qs ∧ Hid (outR (mny T.qs + (4 - c) + 1) c T o = R) ∧ Hid (PQ wx base (.slice so n co) n o) ∧ Hid (PacV wx base g gb vk T) ∧ Hid (PcB T) ∧ 0 ≤ T.hav ∧ T.hav ≤ 18446744073709551615 ∧ Hid (∀ k ∈ blks vk, k ∈ blks vs) ∧ Hid (∀ k, (Value.slice so n co).ownBlock = some k → w.heap.size ≤ k) ∧ Hid (Still [g, gb] w wx))
  case atStart => exact ⟨0, vs, S, [], none, 0, 0, by omega, by omega, rfl, rfl, by omega, by omega, hR0, PQ.nil _ _, hH, hB, hh0, hh1, fun k hk => hk, (fun k hk => by cases hk), Still.refl _ _⟩
  case round =>
    clear hH hB hh0 hh1 hR0
    obtain ⟨c, vk, T, o, so, n, co, rfl, hc, rfl, rfl, hco, hnm, hR, O, H, hB, h0, h1, hk, hf, TS⟩ := hrel
    by_cases hc4 : c < 4
    · have dc : decide ((c : Int) < 4) = true := by simp; omega
      go_upto_region 7 with (fail)
      go_loopg [3] (mny T.qs) (fun m' v wx => ∃ (vk : List Value) (T : PcS) (o : List (Int × List Nat)) (so : Option Addr) (n co : Nat), m' = mny T.qs ∧ v = .slice so n co ∧ co ≤ 9223372036854775807 ∧ n + mny T.qs = mny S.qs ∧ Hid (outR (mny T.qs + (4 - c) + 1) c T o = R) ∧ Hid (PQ wx base (.slice so n co) n o) ∧ Hid (PacV wx base g gb vk T) ∧ Hid (PcB T) ∧ 0 ≤ T.hav ∧ T.hav ≤ 18446744073709551615 ∧ Hid (∀ k ∈ blks vk, k ∈ blks vs) ∧ Hid (∀ k, (Value.slice so n co).ownBlock = some k → w.heap.size ≤ k) ∧ Hid (Still [g, gb] w wx))
      case atStart => exact ⟨vk, T, o, so, n, co, rfl, rfl, hco, hnm, hR, O, H, hB, h0, h1, hk, hf, TS⟩
      case round =>
        clear O H hB h0 h1 hk hf TS hR hnm hco
        obtain ⟨vk, T, o, so, n, co, rfl, rfl, hco, hnm, hR, O, H, hB, h0, h1, hk, hf, TS⟩ := hrel
        have hpq := H.out.pq c hc4
        obtain ⟨sq, cq, hsq, hnq, hmq⟩ := hpq.len
        have zq := H.out.cell c hc4
        rw [hsq] at zq hpq
        unfold maxLen at hmq
        cases hq : T.qs.getD c [] with
        | nil =>
          have hR2 : Hid (outR (mny T.qs + (4 - (c + 1)) + 1) (c + 1) T o = R) := by
            have := hR.out
            rw [show mny T.qs + (4 - c) + 1 = (mny T.qs + (4 - (c + 1)) + 1) + 1 by omega] at this
            unfold outR at this
            rw [if_neg (by omega), hq] at this
            exact this
          rw [hq] at zq
          replace hq := Lib.hid hq
          replace hpq := Lib.hid hpq
          replace hsq := Lib.hid hsq
          go_wp2_with fail
          go_roundg (4 - (c + 1))
          case measure => omega
          case rel => exact ⟨c + 1, vk, T, o, so, n, co, rfl, by omega, by push_cast; rfl, rfl, hco, hnm, hR2, O, H, hB, h0, h1, hk, hf, TS⟩
        | cons x q =>
          have hl1 : (T.qs.getD c []).length = q.length + 1 := by rw [hq]; rfl
          have hqA : qAt T c = ((c : Int), x) :: q.map fun b => ((c : Int), b) := by unfold qAt; rw [hq]; rfl
          rw [hl1] at zq hpq hnq
          rw [hqA] at hpq
          have hqtail := hpq.tail
          obtain ⟨g1, o1, cq', hsl, _, _, _, _, hce⟩ := hpq.form (by omega)
          obtain ⟨u, k1, k2, k3⟩ := hce 0 (by simp)
          simp only [Nat.zero_mul, Nat.add_zero, Nat.zero_add, List.getElem_cons_zero] at k1 k2 k3
          clear hce
          obtain ⟨su, cu, rfl, _, _⟩ := k3.len
          have hmq2 := mny_take T.qs c (by rw [H.out.ql]; exact hc4)
          have hmq3 := mny_le T.qs (c + 1)
          have hms := mny_set T.qs c q (by rw [H.out.ql]; exact hc4)
          have hss := siz_set T.qs c q (by rw [H.out.ql]; exact hc4)
          have hxl : x.length ≤ siz T.qs := by
            have h5 := siz_take T.qs c (by rw [H.out.ql]; exact hc4)
            have h6 := siz_le T.qs (c + 1)
            rw [hq] at h5
            have h7 : lnS (x :: q) = x.length + lnS q := rfl
            omega
          have hx9 : (x.length : Int) ≤ 1000000000 := by have := hB.out.s; omega
          rw [hq] at hss
          have hls : lnS (x :: q) = x.length + lnS q := rfl
          rw [hl1] at hms
          have hm1 : mny (T.qs.set c q) + 1 = mny T.qs := by omega
          have hB2 : PcB { T with hav := T.hav - x.length, qs := T.qs.set c q } := ⟨by show mny (T.qs.set c q) ≤ _; have := hB.out.m; omega, by show siz (T.qs.set c q) ≤ _; have := hB.out.s; omega, hB.out.p0, hB.out.p1, hB.out.b0, hB.out.b1⟩
          have hRx := hR.out
          rw [← hm1, show mny (T.qs.set c q) + 1 + (4 - c) + 1 = (mny (T.qs.set c q) + (4 - c) + 1) + 1 by omega] at hRx
          unfold outR at hRx
          rw [if_neg (by omega), hq] at hRx
          dsimp only at hRx
          have hnm2 := hnm
          cases hsl
          generalize hbl : x.length = bl at *
          generalize hqm : q.length = m at *
          replace hbl := Lib.hid hbl
          replace hqm := Lib.hid hqm
          replace hq := Lib.hid hq
          replace hRx := Lib.hid hRx
          replace hB2 := Lib.hid hB2
          replace hpq := Lib.hid hpq
          replace hqtail := Lib.hid hqtail
          replace k3 := Lib.hid k3
          replace hsq := Lib.hid hsq
          replace hqA := Lib.hid hqA
          replace hl1 := Lib.hid hl1
          obtain ⟨wq, rfl⟩ : ∃ y, y = wr := ⟨_, rfl⟩
          have W2 : BW wq (wq.alloc (.cells #[.int .i64 (c : Int), .slice su bl cu] 43)) := (BW.refl _).alloc
          have X2 : Hid (HpB (wq.alloc (.cells #[.int .i64 (c : Int), .slice su bl cu] 43)) wq.heap.size (.cells #[.int .i64 (c : Int), .slice su bl cu] 43)) := HpB.new wq _
          have H2 := Lib.hid (H.out.bw W2)
          have O2 := Lib.hid (O.out.bw W2)
          have U2 := Lib.hid (k3.out.bw W2)
          have Q2 := Lib.hid (hqtail.out.bw W2)
          have T2 := Lib.hid (TS.out.own3 (W2.still []) (by simp))
          have hz2 := TS.out.size
          clear W2
          go_upto_region 9 with (fail)
          generalize wq.alloc (.cells #[.int .i64 (c : Int), .slice su bl cu] 43) = w2 at *
          generalize hgx : wq.heap.size = gx at *
          clear hgx k1 k2 zq
          have hvk : ∀ d, d < 4 → ∀ k, (vk.getD d undef).ownBlock = some k → k < w.heap.size := fun d hd k h1 => hlt.out k (hk.out k (blks_mem (by rw [H2.out.vl]; exact hd) h1))
          have hown : ∀ k, (Value.slice (cutA (some ⟨g1, o1, none⟩) 1 cq 2) (m + 1 - 1) (cq - 1)).ownBlock = some k → (vk.getD c undef).ownBlock = some k := fun k h1 => by rw [hsq.out]; exact cutA_own _ _ _ _ _ _ _ _ k h1
          have lg : w2.cell? ⟨g, 0, none⟩ = some (.pointer (some ⟨gb, 0, none⟩)) := hp_cell H2.out.cells 0
          have hxgb : gx ≠ gb := hp_ne X2.out H2.out.bk (by decide)
          have hxg : gx ≠ g := hp_ne X2.out H2.out.cells (by decide)
          have x0 := hp_cell (X2.out) 0
          have x1 := hp_cell (X2.out) 1
          simp only [List.getElem?_toArray, List.getElem?_cons_zero, List.getElem?_cons_succ] at x0 x1
          have l0 := fun y : LaterS [] w2 => y.cell lg (by simp)
          have l1 := fun y : LaterS [] w2 => y.cell x1 (by simp)
          clear lg x0 x1
          by_cases hle : (bl : Int) ≤ T.hav
          · have hR3 : Hid (outR (mny (T.qs.set c q) + (4 - c) + 1) c { T with hav := T.hav - (bl : Nat), qs := T.qs.set c q } (o ++ [((c : Int), x)]) = R) := by
              have := hRx.out
              rw [if_neg (by omega)] at this
              exact this
            refine wp_region_gg ([gb]) [8] [] (by kernel_rfl) ?_
            refine hoist [] [8] (a1 := ?_) 0 rfl (by kernel_rfl) (.inl ⟨rfl, rfl⟩) rfl rfl rfl (fun x K hK => ?_) ?_
            rotate_left
            · go_big_quiet_op
              exact hK
            refine hoist [] [8] (a1 := ?_) 1 rfl (by kernel_rfl) (.inl ⟨rfl, rfl⟩) rfl rfl rfl (fun x K hK => ?_) ?_
            rotate_left
            · go_big_quiet_op
              exact hK
            refine hoist [] [8] (a1 := ?_) 2 rfl (by kernel_rfl) (.inl ⟨rfl, rfl⟩) rfl rfl rfl (fun x K hK => ?_) ?_
            rotate_left
            · go_big_quiet_op
              exact hK
            refine hoist [] [8] (a1 := ?_) 3 rfl (by kernel_rfl) (.inl ⟨rfl, rfl⟩) rfl rfl rfl (fun x K hK => ?_) ?_
            rotate_left
            · go_big_quiet_op
              exact hK
            refine hoist [] [8] (a1 := ?_) 4 rfl (by kernel_rfl) (.inl ⟨rfl, rfl⟩) rfl rfl rfl (fun x K hK => ?_) ?_
            rotate_left
            · go_big_quiet_op
              exact hK
            refine hoist [] [8] (a1 := ?_) 5 rfl (by kernel_rfl) (.inl ⟨rfl, rfl⟩) rfl rfl rfl (fun x K hK => ?_) ?_
            rotate_left
            · go_big_quiet_op
              exact hK
            refine hoist [] [8] (a1 := ?_) 6 rfl (by kernel_rfl) (.inl ⟨rfl, rfl⟩) rfl rfl rfl (fun x K hK => ?_) ?_
            rotate_left
            · go_big_quiet_op
              exact hK
            refine hoist [] [8] (a1 := ?_) 7 rfl (by kernel_rfl) (.inl ⟨rfl, rfl⟩) rfl rfl rfl (fun x K hK => ?_) ?_
            rotate_left
            · go_big_quiet_op
              exact hK
            refine effect 8 rfl (by kernel_rfl) (by kernel_rfl) rfl (fun x8 K hK => ?_)
            go_simp
            refine Calls.mono (take_yes gb T.rate T.burst T.hav (bl : Int) x8.now (H2.out.bw x8.bw).bk hle (by omega) h1) ?_
            rintro e wa ⟨rfl, rfl⟩
            have TT := still_setCP x8.now gb 2 (.int .u64 (T.hav - (bl : Int)))
            refine hK _ _ TT ?_
            clear hK K l0 l1
            have H8 := H2.out.bw x8.bw
            have hno : ∀ k ∈ [gb], NoB x8.now k := fun k hk => H8.noB2 k (by simp at hk ⊢; exact .inr hk)
            have H3 := Lib.hid (H8.take (T.hav - (bl : Nat)))
            have O3 := Lib.hid ((O2.out.bw x8.bw).still TT hno (fun k hk => by have := (O2.out.bw x8.bw).ne H8.bk (by decide) k hk; simpa using this))
            have U3 := Lib.hid ((U2.out.bw x8.bw).still TT (NoB.ob (U2.out.bw x8.bw) hno))
            have Q3 := Lib.hid ((Q2.out.bw x8.bw).still TT hno (fun k hk => by have := (Q2.out.bw x8.bw).ne H8.bk (by decide) k hk; simpa using this))
            have X3 := Lib.hid ((X2.out.bw x8.bw).st TT (by simpa using hxgb))
            have T3 := Lib.hid ((T2.out.own3 (x8.bw.still []) (by simp)).own3 TT (by simp))
            clear hno TT H8
            generalize x8.now.setCell ⟨gb, 2, none⟩ (.int .u64 (T.hav - (bl : Int))) = w3 at *
            try simp only [Act.put, List.setIfInBounds_toArray, List.set_cons_succ, List.set_cons_zero]
            refine hoist [] [8] (a1 := ?_) 9 rfl (by kernel_rfl) (.inl ⟨rfl, rfl⟩) rfl rfl rfl (fun x K hK => ?_) ?_
            rotate_left
            · go_big_quiet_op
              exact hK
            refine done (by kernel_rfl) (fun xr => ?_)
            have H4 := Lib.hid (H3.out.bw xr.bw)
            have O4 := Lib.hid (O3.out.bw xr.bw)
            have U4 := Lib.hid (U3.out.bw xr.bw)
            have Q4 := Lib.hid (Q3.out.bw xr.bw)
            have X4 := Lib.hid (X3.out.bw xr.bw)
            have T4 := Lib.hid (T3.out.own3 (xr.bw.still []) (by simp))
            clear H3 O3 U3 Q3 X3 T3 H2 O2 U2 Q2 X2 T2
            generalize xr.now = w4 at *
            have x0 := hp_cell (X4.out) 0
            have x1 := hp_cell (X4.out) 1
            simp only [List.getElem?_toArray, List.getElem?_cons_zero, List.getElem?_cons_succ] at x0 x1
            have BA : BW w4 (w4.alloc (.cells #[.int .i64 (c : Int), .slice su bl cu] 43)) := (BW.refl _).alloc
            have L5 := Lib.hid (Sls.pace w4 (c : Int) (.slice su bl cu))
            have H5 := Lib.hid (H4.out.bw BA)
            have O5 := Lib.hid (O4.out.bw BA)
            have U5 := U4.out.bw BA
            rw [← hbl.out] at U5
            have Q5 := Lib.hid (Q4.out.bw BA)
            have T5 := Lib.hid (T4.out.own3 (BA.still []) (by simp))
            have hz5 := Nat.le_trans hbase T5.out.size
            have U5' : OB (w4.alloc (.cells #[.int .i64 (c : Int), .slice su bl cu] 43)) base 5 (.slice su bl cu) x.length x := by rw [hbl.out] at U5 ⊢; exact U5
            replace U5 := Lib.hid U5
            replace U5' := Lib.hid U5'
            have hnn : n ≤ 1000000 := by omega
            clear BA
            go_wp2_with (at_builtin; go_must (refine wpList_apPc rfl _ _ rfl base (.slice so n co) n o rfl O5.out _ rfl (c : Int) (.slice su bl cu) x L5.out U5'.out (by omega) hz5 ?_; intro s6 c6 w6 hc6 hm6 O6 T6 hb6 G6; unfold maxLen at hm6; replace O6 := Lib.hid O6; replace T6 := Lib.hid T6; replace G6 := Lib.hid G6; clear hb6 x0 x1 U5 U5'))
            have hdis : ∀ d, d < 4 → ∀ k, (vk.getD d undef).ownBlock = some k → k ∉ (Value.slice so n co).ownBlock.toList := fun d hd k h1 hm => by
              have e1 := hvk d hd k h1
              have e2 := hf.out k (by simpa using hm)
              omega
            have H6 := Lib.hid (H5.out.still T6.out O5.out.noB (fun hm => by have := hf.out g (by simpa using hm); omega) (fun hm => by have := hf.out gb (by simpa using hm); omega) hdis)
            have Q6 := Lib.hid (Q5.out.still T6.out O5.out.noB (fun k h1 => hdis c hc4 k (hown k h1)))
            have TS6 := Lib.hid (T5.out.own3 T6.out (fun k hk => .inr (hf.out k (by simpa using hk))))
            have hf6 : ∀ k, (Value.slice s6 (n + 1) c6).ownBlock = some k → w.heap.size ≤ k := fun k h1 => by
              rcases G6.out k h1 with h2 | h2
              · exact hf.out k h2
              · exact Nat.le_trans T5.out.size h2
            have zq := H6.out.cell c hc4
            rw [hsq.out, hl1.out] at zq
            replace hdis := Lib.hid hdis
            replace hf6 := Lib.hid hf6
            clear H4 O4 U4 Q4 X4 T4 L5 H5 O5 Q5 T5 G6 T6 hz5
            have hc5 := fun w => run_cut_l (P := Try.prog) Try.underlying44 info_pc (some ⟨g1, o1, none⟩) (m + 1) cq 1 1 rfl .i64 (by omega) w
            rw [show m + 1 - 1 = m from rfl] at hc5
            have lz := fun y : LaterS [] w6 => y.cell zq (by simp)
            generalize hcu : cutA (some ⟨g1, o1, none⟩) 1 cq 2 = cu1 at *
            have hq1 : 1 ≤ cq := by omega
            replace hcu := Lib.hid hcu
            refine wp_region_gg [] [] [12] (by kernel_rfl) ?_
            refine hoist [] [] (a1 := ?_) 0 rfl (by kernel_rfl) (.inl ⟨rfl, rfl⟩) rfl rfl rfl (fun x K hK => ?_) ?_
            rotate_left
            · go_big_quiet_op
              exact hK
            refine hoist [] [] (a1 := ?_) 1 rfl (by kernel_rfl) (.inl ⟨rfl, rfl⟩) rfl rfl rfl (fun x K hK => ?_) ?_
            rotate_left
            · go_big_quiet_op
              exact hK
            refine hoist [] [] (a1 := ?_) 2 rfl (by kernel_rfl) (.inl ⟨rfl, rfl⟩) rfl rfl rfl (fun x K hK => ?_) ?_
            rotate_left
            · go_big_quiet_op
              exact hK
            refine hoist [] [] (a1 := ?_) 3 rfl (by kernel_rfl) (.inl ⟨rfl, rfl⟩) rfl rfl rfl (fun x K hK => ?_) ?_
            rotate_left
            · go_big_quiet_op
              exact hK
            refine hoist [] [] (a1 := ?_) 4 rfl (by kernel_rfl) (.inl ⟨rfl, rfl⟩) rfl rfl rfl (fun x K hK => ?_) ?_
            rotate_left
            · go_big_quiet_op
              exact hK
            refine hoist [] [] (a1 := ?_) 5 rfl (by kernel_rfl) (.inl ⟨rfl, rfl⟩) rfl rfl rfl (fun x K hK => ?_) ?_
            rotate_left
            · go_big_quiet_op
              exact hK
            refine hoist [] [] (a1 := ?_) 6 rfl (by kernel_rfl) (.inl ⟨rfl, rfl⟩) rfl rfl rfl (fun x K hK => ?_) ?_
            rotate_left
            · go_big_quiet_op
              exact hK
            refine hoist [] [] (a1 := ?_) 7 rfl (by kernel_rfl) (.inl ⟨rfl, rfl⟩) rfl rfl rfl (fun x K hK => ?_) ?_
            rotate_left
            · go_big_quiet_op
              exact hK
            refine hoist [] [] (a1 := ?_) 8 rfl (by kernel_rfl) (.inl ⟨rfl, rfl⟩) rfl rfl rfl (fun x K hK => ?_) ?_
            rotate_left
            · go_big_quiet_op
              exact hK
            refine hoist [] [] (a1 := ?_) 9 rfl (by kernel_rfl) (.inl ⟨rfl, rfl⟩) rfl rfl rfl (fun x K hK => ?_) ?_
            rotate_left
            · go_big_quiet_op
              exact hK
            refine hoist [] [] (a1 := ?_) 10 rfl (by kernel_rfl) (.inl ⟨rfl, rfl⟩) rfl rfl rfl (fun x K hK => ?_) ?_
            rotate_left
            · go_big_quiet_op
              exact hK
            refine hoist [] [] (a1 := ?_) 11 rfl (by kernel_rfl) (.inl ⟨rfl, rfl⟩) rfl rfl rfl (fun x K hK => ?_) ?_
            rotate_left
            · go_big_quiet_op
              exact hK
            refine tail 12 rfl (by kernel_rfl) rfl (fun xr => ?_)
            simp only [List.drop_succ_cons, List.drop_zero]
            have H7 := H6.out.bw xr.bw
            have O7 := O6.out.bw xr.bw
            have Q7 := Q6.out.bw xr.bw
            have yq := hp_frz H7.cells (4 + c)
            have zq7 := xr.bw.cell zq
            have hap : ∀ d, d < 4 → d ≠ c → Apt (.slice cu1 m (cq - 1)) (vk.getD d undef) := fun d hd hdc k e1 e2 => H7.apt c d hc4 hd (fun e => hdc e.symm) k (hown k e1) e2
            have Q7' : PQ xr.now base (.slice cu1 m (cq - 1)) q.length (q.map fun b => ((c : Int), b)) := by rw [hqm.out]; exact Q7
            have H8 := H7.setq c hc4 (.slice cu1 m (cq - 1)) q Q7' hap
            have TT := still_setCP xr.now g (4 + c) (.slice cu1 m (cq - 1))
            have O8 := O7.still TT H7.noB (fun k hk => by have := O7.ne H7.cells (by decide) k hk; simpa using this)
            have T8 := (TS6.out.own3 (xr.bw.still []) (by simp)).own3 TT (by simp)
            have hk8 : ∀ k ∈ blks (vk.set c (.slice cu1 m (cq - 1))), k ∈ blks vs := fun k hm => by
              rcases blks_set hm with e1 | e1
              · exact hk.out k (blks_mem (by rw [H7.vl]; exact hc4) (hown k e1))
              · exact hk.out k e1
            have hB3 := hB2.out
            replace H7 := Lib.hid H7
            replace O7 := Lib.hid O7
            replace Q7 := Lib.hid Q7
            replace Q7' := Lib.hid Q7'
            replace H8 := Lib.hid H8
            replace O8 := Lib.hid O8
            replace T8 := Lib.hid T8
            replace TT := Lib.hid TT
            replace hap := Lib.hid hap
            replace hk8 := Lib.hid hk8
            replace hB3 := Lib.hid hB3
            clear lz hc5 zq
            go_wp2_with fail
            go_roundg (mny (T.qs.set c q))
            case measure => omega
            case rel => exact ⟨vk.set c (.slice cu1 m (cq - 1)), { T with hav := T.hav - (bl : Nat), qs := T.qs.set c q }, o ++ [((c : Int), x)], s6, n + 1, c6, rfl, rfl, by omega, by show n + 1 + mny (T.qs.set c q) = _; omega, hR3, O8, H8, hB3, by show 0 ≤ T.hav - _; omega, by show T.hav - _ ≤ _; omega, hk8, hf6, T8⟩
          · have hfin0 : R = (o, T) := by
              have := hRx.out
              rw [if_pos (by omega)] at this
              exact this.symm
            refine wp_region_gg [] [] [] (by kernel_rfl) ?_
            refine hoist [] [] (a1 := ?_) 0 rfl (by kernel_rfl) (.inl ⟨rfl, rfl⟩) rfl rfl rfl (fun x K hK => ?_) ?_
            rotate_left
            · go_big_quiet_op
              exact hK
            refine hoist [] [] (a1 := ?_) 1 rfl (by kernel_rfl) (.inl ⟨rfl, rfl⟩) rfl rfl rfl (fun x K hK => ?_) ?_
            rotate_left
            · go_big_quiet_op
              exact hK
            refine hoist [] [] (a1 := ?_) 2 rfl (by kernel_rfl) (.inl ⟨rfl, rfl⟩) rfl rfl rfl (fun x K hK => ?_) ?_
            rotate_left
            · go_big_quiet_op
              exact hK
            refine hoist [] [] (a1 := ?_) 3 rfl (by kernel_rfl) (.inl ⟨rfl, rfl⟩) rfl rfl rfl (fun x K hK => ?_) ?_
            rotate_left
            · go_big_quiet_op
              exact hK
            refine hoist [] [] (a1 := ?_) 4 rfl (by kernel_rfl) (.inl ⟨rfl, rfl⟩) rfl rfl rfl (fun x K hK => ?_) ?_
            rotate_left
            · go_big_quiet_op
              exact hK
            refine hoist [] [] (a1 := ?_) 5 rfl (by kernel_rfl) (.inl ⟨rfl, rfl⟩) rfl rfl rfl (fun x K hK => ?_) ?_
            rotate_left
            · go_big_quiet_op
              exact hK
            refine hoist [] [] (a1 := ?_) 6 rfl (by kernel_rfl) (.inl ⟨rfl, rfl⟩) rfl rfl rfl (fun x K hK => ?_) ?_
            rotate_left
            · go_big_quiet_op
              exact hK
            refine hoist [] [] (a1 := ?_) 7 rfl (by kernel_rfl) (.inl ⟨rfl, rfl⟩) rfl rfl rfl (fun x K hK => ?_) ?_
            rotate_left
            · go_big_quiet_op
              exact hK
            refine hoist_call [] [] (a1 := ?_) 8 rfl (by kernel_rfl) (.inl ⟨rfl, rfl⟩) rfl rfl rfl (fun x K hK => ?_) ?_
            rotate_left
            · go_big_quiet_op
              apply Exists.intro
              refine ⟨fun y => ?_, ?_⟩
              · exact ((take_no gb T.rate T.burst T.hav (bl : Int) y.now ((H2.out.bw x.bw).bw y.bw).bk (by omega)).mono fun _ _ h => ⟨h.1, y, h.2⟩)
              · exact hK
            refine hoist [] [] (a1 := ?_) 9 rfl (by kernel_rfl) (.inl ⟨rfl, rfl⟩) rfl rfl rfl (fun x K hK => ?_) ?_
            rotate_left
            · go_big_quiet_op
              exact hK
            refine done (by kernel_rfl) (fun xr => ?_)
            have hfin : OutPost base g gb vs R w (.returned (.slice so n co)) xr.now := by
              rw [hfin0]
              exact ⟨_, rfl, PQ.full (O2.out.bw xr.bw), ⟨vk, H2.out.bw xr.bw, hk.out⟩, hf.out, T2.out.own3 (xr.bw.still []) (by simp)⟩
            replace hfin := Lib.hid hfin
            replace hfin0 := Lib.hid hfin0
            go_wp2_with fail
            go_ret
            exact hfin.out
    · obtain rfl : c = 4 := by omega
      have hfin : OutPost base g gb vs R w (.returned (.slice so n co)) wr := by
        have := hR.out
        unfold outR at this
        rw [if_pos (by decide)] at this
        rw [← this]
        exact ⟨_, rfl, PQ.full O.out, ⟨vk, H.out, hk.out⟩, hf.out, TS.out⟩
      replace hfin := Lib.hid hfin
      go_wp2_with fail
      go_ret
      exact hfin.out
end Go.Proofs.Ytgiajnfmjpdodaa
