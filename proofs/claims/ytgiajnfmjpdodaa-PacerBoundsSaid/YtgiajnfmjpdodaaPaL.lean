/- The law PacerBounds. No condition. -/
import Derived.Test.YtgiajnfmjpdodaaPaG
import Derived.Test.YtgiajnfmjpdodaaPaI
import Derived.Test.YtgiajnfmjpdodaaPaJ
import Derived.Test.YtgiajnfmjpdodaaPaK
namespace Go.Proofs.Ytgiajnfmjpdodaa
open Go.RowKit

theorem give_bound (u h r : Int) (hh : 0 ≤ h) (hr : 0 ≤ r) : giveN u h r ≤ h + r ∧ giveN u h r ≤ u ∧ (0 ≤ u → 0 ≤ giveN u h r) := by
  unfold giveN satN
  split <;> omega
theorem sb_lt {w : World} {v : Value} {n : Nat} {l : List Nat} (h : SB w v n l) (h0 : 0 < n) (k : Nat) (hk : v.ownBlock = some k) : k < w.heap.size := by
  obtain ⟨g, o, cap, rfl, h1, _⟩ := h.form h0
  simp only [Value.ownBlock, Option.some.injEq] at hk
  omega
def srt (L : List (Int × List Nat)) : Prop := ∀ (k : Nat) (h : k + 1 < L.length), (L[k]).1 ≤ (L[k + 1]).1
theorem lensL_take (o : List (Int × List Nat)) (j : Nat) (h : j < o.length) : lensL (o.take (j + 1)) = lensL (o.take j) + (o[j]).2.length := by
  rw [List.take_succ_eq_append_getElem h, ← lensL_snoc _ (o[j]).1]
theorem lensL_le (o : List (Int × List Nat)) (j : Nat) : lensL (o.take j) ≤ lensL o := by
  unfold lensL; rw [List.map_take]; exact sum_take_le _ _
theorem PacV.ge {w : World} {base g gb : Nat} {vs : List Value} {S : PcS} (h : PacV w base g gb vs S) : ∀ k ∈ blks vs, base ≤ k := fun k hk => by
  obtain ⟨u, hu, hk⟩ := List.mem_flatMap.1 hk
  obtain ⟨i, hi, e⟩ := List.mem_iff_getElem.1 hu
  have h1 := h.pq i (by rw [← h.vl]; exact hi)
  rw [List.getD_eq_getElem?_getD, List.getElem?_eq_getElem hi] at h1
  refine h1.ge' k ?_
  show vs[i].ownBlock = some k
  rw [e]
  simpa using hk


set_option maxRecDepth 100000 in
set_option maxHeartbeats 8000000 in
theorem law_pbounds (r u pk py : Int) (a : Option Addr) (len cap : Nat) (w : World) (wr : (Lit.int .u16 r).wf = true) (wu : (Lit.int .u16 u).wf = true) (wp : (Lit.int .u8 pk).wf = true) (wy : (Lit.int .u8 py).wf = true) (wl : Rd w (.loop popTy) [.slice a len cap]) :
    Calls Try.prog 8 #[.int .u16 r, .int .u16 u, .int .u8 pk, .int .u8 py, .slice a len cap] w fun e w' => e = .returned (.bool true) ∧ Below w.heap.size w w' := by
  obtain ⟨r0, r1⟩ := bounds_u16 wr
  obtain ⟨u0, u1⟩ := bounds_u16 wu
  obtain ⟨p0, p1⟩ := bounds_u8 wp
  obtain ⟨y0, y1⟩ := bounds_u8 wy
  obtain ⟨hlc, hcm, hops⟩ := pop_at wl
  unfold maxLen at hcm
  clear wr wu wp wy wl
  have ha := Lib.hid (pac_alive w)
  have v1 : IntKind.u64.wrap r = r := IntWalk.u64_in _ (by omega)
  have v2 : IntKind.u64.wrap u = u := IntWalk.u64_in _ (by omega)
  have v3 : IntKind.i64.wrap (pk + 1) = pk + 1 := IntWalk.i64_in _ (by omega)
  have v4 : IntKind.i64.wrap (py + 1) = py + 1 := IntWalk.i64_in _ (by omega)
  replace hops := Lib.hid hops
  go_enter Try.func8, Try.ntmps8
  go_wp2_with fail
  refine Calls.mono ha.out ?_
  rintro e w1 ⟨rfl, B1⟩
  have cN := Lib.hid (pnew_ok r u (pk + 1) (py + 1) w1 (by omega) (by omega))
  replace B1 := Lib.hid B1
  clear ha
  dsimp only
  go_wp2_with fail
  refine Calls.mono cN.out ?_
  rintro e w2 ⟨g, gb, rfl, PV, hg, hgb, hb⟩
  have B2 := Lib.hid (B1.out.trans hb)
  have H2 := Lib.hid (PV w.heap.size)
  have hg2 := Nat.le_trans B1.out.size hg
  have hgb2 := Nat.le_trans B1.out.size hgb
  clear cN hb PV B1 v1 v2 v3 v4
  dsimp only
  have K2 : PcK (newS r u (pk + 1) (py + 1)) (newS r u (pk + 1) (py + 1)) := ⟨rfl, rfl, rfl, rfl, rfl⟩
  have M2 : (mny (newS r u (pk + 1) (py + 1)).qs : Int) ≤ pk + 1 := by show (0 : Int) ≤ _; omega
  have S2 : (siz (newS r u (pk + 1) (py + 1)).qs : Int) ≤ py + 1 := by show (0 : Int) ≤ _; omega
  go_upto_region 8 with (fail)
  go_loopg [12, 13, 14] len (fun m' s t i wx => ∃ (j sn tk : Nat) (vk : List Value) (T : PcS), m' = len - j ∧ j ≤ len ∧ s = .int .u64 (sn : Nat) ∧ t = .int .u64 (tk : Nat) ∧ i = .int .i64 (j : Nat) ∧ tk ≤ j ∧ j ≤ 100 ∧ Hid (PacV wx w.heap.size g gb vk T) ∧ Hid (PcK (newS r u (pk + 1) (py + 1)) T) ∧ (mny T.qs : Int) ≤ pk + 1 ∧ (siz T.qs : Int) ≤ py + 1 ∧ 0 ≤ T.hav ∧ T.hav ≤ u ∧ T.gone + mny T.qs ≤ j ∧ (sn : Int) + T.hav ≤ u + tk * r ∧ Hid (BW w wx))
  case atStart => exact ⟨0, 0, 0, nil4, newS r u (pk + 1) (py + 1), by omega, by omega, rfl, rfl, rfl, by omega, by omega, H2, K2, M2, S2, u0, Int.le_refl _, Nat.le_refl _, by show (0 : Int) + u ≤ _; omega, B2⟩
  case round =>
    clear H2 K2 M2 S2 B2
    obtain ⟨j, sn, tk, vk, T, rfl, hj, rfl, rfl, rfl, htk, hj100, H, K, hm, hs, h0, h1, hgo, hinv, B⟩ := hrel
    by_cases hjl : j < len
    case neg =>
      have d1 : decide ((j : Int) < (len : Int)) = false := by simp; omega
      go_wp2_with fail
      go_ret
      exact ⟨rfl, B.out⟩
    have d1 : decide ((j : Int) < (len : Int)) = true := by simp; omega
    by_cases hj1 : j < 100
    case neg =>
      have d2 : decide ((j : Int) < 100) = false := by simp; omega
      go_wp2_with fail
      go_ret
      exact ⟨rfl, B.out⟩
    have d2 : decide ((j : Int) < 100) = true := by simp; omega
    rcases hops.out with h | ⟨b, o, rfl, hbw, hi⟩
    · omega
    obtain ⟨k, c, sa, n, cp, l, e0, e1, e2, hv, k0, k1, c0, c1⟩ := hi j hjl
    clear hops hi
    have x0 := B.out.cell e0
    have x1 := B.out.cell e1
    have x2 := B.out.cell e2
    replace e0 := Lib.hid e0
    replace e1 := Lib.hid e1
    replace e2 := Lib.hid e2
    replace hv := Lib.hid hv
    by_cases hn : 300 < n
    · have d3 : decide ((300 : Int) < (n : Int)) = true := by simp; omega
      go_wp2_with fail
      go_ret
      exact ⟨rfl, B.out⟩
    have d3 : decide ((300 : Int) < (n : Int)) = false := by simp; omega
    go_upto_region 14 with (fail)
    clear d1 d2 d3 x0
    by_cases h3 : k % 5 = 3
    · have d4 : (k % 5 == 3) = true := by simpa using h3
      have hB : PcB T := ⟨by omega, by omega, by rw [K.out.packets]; show (1 : Int) ≤ pk + 1; omega, by rw [K.out.packets]; show pk + 1 ≤ _; omega, by rw [K.out.bytes]; show (1 : Int) ≤ py + 1; omega, by rw [K.out.bytes]; show py + 1 ≤ _; omega⟩
      have cO := Lib.hid (out_any w.heap.size g gb vk T wr H.out hB h0 (by omega) B.out.size)
      have OL := outN_keeps T H.out.ql h0
      have hso : srt (outN T).1 := outN_sorted T
      go_wp2_with fail
      refine Calls.mono cO.out ?_
      rintro e w5 ⟨v, rfl, O, ⟨v2, H2, -⟩, -, TS⟩
      have B5 := Lib.hid (BW.stP B.out TS (by simp; omega))
      replace H2 := Lib.hid H2
      obtain ⟨T2, hT2⟩ : ∃ T2 : PcS, T2 = (outN T).2 := ⟨_, rfl⟩
      have K2 : Hid (PcK (newS r u (pk + 1) (py + 1)) T2) := by rw [hT2]; exact K.out.trans OL.k
      have e1 : mny T2.qs ≤ mny T.qs := by rw [hT2]; exact OL.m
      have e2 : siz T2.qs ≤ siz T.qs := by rw [hT2]; exact OL.s
      have e3 : T2.gone = T.gone := by rw [hT2]; exact OL.gone
      have h02 : 0 ≤ T2.hav := by rw [hT2]; exact OL.hav
      have hsum : T2.hav + (lensL (outN T).1 : Nat) = T.hav := by rw [hT2]; have := OL.sum; rw [show lensL ([] : List (Int × List Nat)) = 0 from rfl] at this; omega
      rw [← hT2] at H2
      clear hT2 OL cO TS hB
      generalize (outN T).1 = L at *
      have hle := fun q => lensL_le L q
      obtain ⟨so, co, rfl, hlo, hmo⟩ := O.len
      unfold maxLen at hmo
      generalize hL : L.length = n2 at *
      replace O := Lib.hid O
      replace hL := Lib.hid hL
      replace hso := Lib.hid hso
      replace hle := Lib.hid hle
      have h12 : T2.hav ≤ u := by omega
      have hm2 : (mny T2.qs : Int) ≤ pk + 1 := by omega
      have hs2 : (siz T2.qs : Int) ≤ py + 1 := by omega
      have hgo2 : T2.gone + mny T2.qs ≤ j + 1 := by omega
      have hsn0 : sn ≤ 10000000 := by
        have hP1 : (tk : Int) * r ≤ 101 * 65535 := Int.mul_le_mul (by omega) (by omega) r0 (by omega)
        omega
      have hbd : lensL L ≤ 65535 := by omega
      clear e1 e2 e3
      dsimp only
      go_upto_region 17 with (fail)
      go_loopg [12, 16] n2 (fun m' s k wx => ∃ q : Nat, m' = n2 - q ∧ q ≤ n2 ∧ s = .int .u64 (sn + lensL (L.take q) : Nat) ∧ k = .int .i64 (q : Nat) ∧ Hid (BW w5 wx))
      case atStart => exact ⟨0, by omega, by omega, rfl, rfl, BW.refl _⟩
      case round =>
        obtain ⟨q, rfl, hq, rfl, rfl, BQ⟩ := hrel
        by_cases hqn : q < n2
        · have d6 : decide ((q : Int) < (n2 : Int)) = true := by simp; omega
          obtain ⟨g1, o1, c1, hsl, _, _, _, _, hce⟩ := (O.out.bw BQ.out).form (by omega)
          simp only [Value.slice.injEq] at hsl
          obtain ⟨rfl, -, rfl⟩ := hsl
          obtain ⟨u1, y1, y2, y3⟩ := hce q (by rw [hL.out]; exact hqn)
          rw [← Nat.add_assoc] at y2
          have ht := lensL_take L q (by rw [hL.out]; exact hqn)
          have hl1 := hle.out (q + 1)
          obtain ⟨su, cu, rfl, _, _⟩ := y3.len
          generalize hL1 : lensL (L.take (q + 1)) = L1 at *
          generalize lensL (L.take q) = L0 at *
          generalize (L[q]'(by rw [hL.out]; exact hqn)).2.length = bl at *
          replace hL1 := Lib.hid hL1
          clear y3
          have q8 : IntKind.u64.wrap (bl : Int) = (bl : Int) := IntWalk.u64_in _ (by omega)
          cases q with
          | zero =>
            clear hce
            have d7 : decide ((0 : Int) < ((0 : Nat) : Int)) = false := by simp
            go_upto_region 20 with (fail)
            refine wp_region_gg [] [] [] (by kernel_rfl) ?_
            refine hoist [] [] (a1 := ?_) 0 rfl (by kernel_rfl) (.inl ⟨rfl, rfl⟩) rfl rfl rfl (fun x K hK => ?_) ?_
            rotate_left
            · go_big_quiet_op
              exact hK
            refine hoist [] [] (a1 := ?_) 1 rfl (by kernel_rfl) (.inl ⟨rfl, rfl⟩) rfl rfl rfl (fun x K hK => ?_) ?_
            rotate_left
            · go_big_quiet_op
              exact hK
            refine hoist [] [] (a1 := ?_) 2 rfl (by kernel_rfl) (.inl ⟨rfl, rfl⟩) rfl rfl rfl (fun x K hK => ?_) ?_
            rotate_left
            · go_big_quiet_op
              exact hK
            refine hoist_skip [] [] 3 rfl (by kernel_rfl) (.inl ⟨rfl, rfl⟩) rfl (a1 := ?_) ?_ ?_
            rotate_left
            · simp only [Act.put, List.setIfInBounds_toArray, List.set_cons_succ, List.set_cons_zero]; rfl
            refine hoist_skip [] [] 4 rfl (by kernel_rfl) (.inl ⟨rfl, rfl⟩) rfl (a1 := ?_) ?_ ?_
            rotate_left
            · simp only [Act.put, List.setIfInBounds_toArray, List.set_cons_succ, List.set_cons_zero]; rfl
            refine hoist_skip [] [] 5 rfl (by kernel_rfl) (.inl ⟨rfl, rfl⟩) rfl (a1 := ?_) ?_ ?_
            rotate_left
            · simp only [Act.put, List.setIfInBounds_toArray, List.set_cons_succ, List.set_cons_zero]; rfl
            refine hoist_skip [] [] 6 rfl (by kernel_rfl) (.inl ⟨rfl, rfl⟩) rfl (a1 := ?_) ?_ ?_
            rotate_left
            · simp only [Act.put, List.setIfInBounds_toArray, List.set_cons_succ, List.set_cons_zero]; rfl
            refine hoist_skip [] [] 7 rfl (by kernel_rfl) (.inl ⟨rfl, rfl⟩) rfl (a1 := ?_) ?_ ?_
            rotate_left
            · simp only [Act.put, List.setIfInBounds_toArray, List.set_cons_succ, List.set_cons_zero]; rfl
            refine hoist_skip [] [] 8 rfl (by kernel_rfl) (.inl ⟨rfl, rfl⟩) rfl (a1 := ?_) ?_ ?_
            rotate_left
            · simp only [Act.put, List.setIfInBounds_toArray, List.set_cons_succ, List.set_cons_zero]; rfl
            refine hoist_skip [] [] 9 rfl (by kernel_rfl) (.inl ⟨rfl, rfl⟩) rfl (a1 := ?_) ?_ ?_
            rotate_left
            · simp only [Act.put, List.setIfInBounds_toArray, List.set_cons_succ, List.set_cons_zero]; rfl
            refine hoist_skip [] [] 10 rfl (by kernel_rfl) (.inl ⟨rfl, rfl⟩) rfl (a1 := ?_) ?_ ?_
            rotate_left
            · simp only [Act.put, List.setIfInBounds_toArray, List.set_cons_succ, List.set_cons_zero]; rfl
            refine hoist_skip [] [] 11 rfl (by kernel_rfl) (.inl ⟨rfl, rfl⟩) rfl (a1 := ?_) ?_ ?_
            rotate_left
            · simp only [Act.put, List.setIfInBounds_toArray, List.set_cons_succ, List.set_cons_zero]; rfl
            refine hoist_skip [] [] 12 rfl (by kernel_rfl) (.inl ⟨rfl, rfl⟩) rfl (a1 := ?_) ?_ ?_
            rotate_left
            · simp only [Act.put, List.setIfInBounds_toArray, List.set_cons_succ, List.set_cons_zero]; rfl
            refine hoist_skip [] [] 13 rfl (by kernel_rfl) (.inl ⟨rfl, rfl⟩) rfl (a1 := ?_) ?_ ?_
            rotate_left
            · simp only [Act.put, List.setIfInBounds_toArray, List.set_cons_succ, List.set_cons_zero]; rfl
            refine hoist_skip [] [] 14 rfl (by kernel_rfl) (.inl ⟨rfl, rfl⟩) rfl (a1 := ?_) ?_ ?_
            rotate_left
            · simp only [Act.put, List.setIfInBounds_toArray, List.set_cons_succ, List.set_cons_zero]; rfl
            refine hoist [] [] (a1 := ?_) 15 rfl (by kernel_rfl) (.inl ⟨rfl, rfl⟩) rfl rfl rfl (fun x K hK => ?_) ?_
            rotate_left
            · go_big_quiet_op
              exact hK
            refine done (by kernel_rfl) (fun xr => ?_)
            have BX := Lib.hid (BQ.out.trans xr.bw)
            clear d6 d7 q8 y1 y2 hl1
            replace ht := Lib.hid ht
            go_wp2_with fail
            go_roundg (n2 - (0 + 1))
            case measure => omega
            case rel => exact ⟨0 + 1, rfl, by omega, by rw [hL1.out, ht.out]; push_cast; congr 1; omega, rfl, BX⟩
          | succ p =>
            obtain ⟨u2, z1, -, -⟩ := hce p (by rw [hL.out]; omega)
            have hle2 := hso.out p (by rw [hL.out]; omega)
            clear hce
            generalize (L[p + 1]'(by rw [hL.out]; exact hqn)).1 = ca at *
            generalize (L[p]'(by rw [hL.out]; omega)).1 = cb at *
            have d7 : decide ((0 : Int) < ((p + 1 : Nat) : Int)) = true := decide_eq_true (by omega)
            have d8 : decide (ca < cb) = false := by simp; omega
            have q9 : IntKind.i64.wrap (((p + 1 : Nat) : Int) - 1) = (p : Int) := by rw [show ((p + 1 : Nat) : Int) - 1 = p by omega]; exact IntWalk.i64_in _ (by omega)
            go_upto_region 20 with (fail)
            have ly := fun x : LaterS [] wr => x.cell y1 (by simp)
            have lz := fun x : LaterS [] wr => x.cell z1 (by simp)
            clear y1 y2 z1
            refine wp_region_gg [] [] [] (by kernel_rfl) ?_
            refine hoist [] [] (a1 := ?_) 0 rfl (by kernel_rfl) (.inl ⟨rfl, rfl⟩) rfl rfl rfl (fun x K hK => ?_) ?_
            rotate_left
            · go_big_quiet_op
              exact hK
            refine hoist [] [] (a1 := ?_) 1 rfl (by kernel_rfl) (.inl ⟨rfl, rfl⟩) rfl rfl rfl (fun x K hK => ?_) ?_
            rotate_left
            · go_big_quiet_op
              exact hK
            refine hoist [] [] (a1 := ?_) 2 rfl (by kernel_rfl) (.inl ⟨rfl, rfl⟩) rfl rfl rfl (fun x K hK => ?_) ?_
            rotate_left
            · go_big_quiet_op
              exact hK
            refine hoist [] [] (a1 := ?_) 3 rfl (by kernel_rfl) (.inl ⟨rfl, rfl⟩) rfl rfl rfl (fun x K hK => ?_) ?_
            rotate_left
            · go_big_quiet_op
              exact hK
            refine hoist [] [] (a1 := ?_) 4 rfl (by kernel_rfl) (.inl ⟨rfl, rfl⟩) rfl rfl rfl (fun x K hK => ?_) ?_
            rotate_left
            · go_big_quiet_op
              exact hK
            refine hoist [] [] (a1 := ?_) 5 rfl (by kernel_rfl) (.inl ⟨rfl, rfl⟩) rfl rfl rfl (fun x K hK => ?_) ?_
            rotate_left
            · go_big_quiet_op
              exact hK
            refine hoist [] [] (a1 := ?_) 6 rfl (by kernel_rfl) (.inl ⟨rfl, rfl⟩) rfl rfl rfl (fun x K hK => ?_) ?_
            rotate_left
            · go_big_quiet_op
              exact hK
            refine hoist [] [] (a1 := ?_) 7 rfl (by kernel_rfl) (.inl ⟨rfl, rfl⟩) rfl rfl rfl (fun x K hK => ?_) ?_
            rotate_left
            · go_big_quiet_op
              exact hK
            refine hoist [] [] (a1 := ?_) 8 rfl (by kernel_rfl) (.inl ⟨rfl, rfl⟩) rfl rfl rfl (fun x K hK => ?_) ?_
            rotate_left
            · go_big_quiet_op
              exact hK
            refine hoist [] [] (a1 := ?_) 9 rfl (by kernel_rfl) (.inl ⟨rfl, rfl⟩) rfl rfl rfl (fun x K hK => ?_) ?_
            rotate_left
            · go_big_quiet_op
              exact hK
            refine hoist [] [] (a1 := ?_) 10 rfl (by kernel_rfl) (.inl ⟨rfl, rfl⟩) rfl rfl rfl (fun x K hK => ?_) ?_
            rotate_left
            · go_big_quiet_op
              exact hK
            refine hoist [] [] (a1 := ?_) 11 rfl (by kernel_rfl) (.inl ⟨rfl, rfl⟩) rfl rfl rfl (fun x K hK => ?_) ?_
            rotate_left
            · go_big_quiet_op
              exact hK
            refine hoist [] [] (a1 := ?_) 12 rfl (by kernel_rfl) (.inl ⟨rfl, rfl⟩) rfl rfl rfl (fun x K hK => ?_) ?_
            rotate_left
            · go_big_quiet_op
              exact hK
            refine hoist [] [] (a1 := ?_) 13 rfl (by kernel_rfl) (.inl ⟨rfl, rfl⟩) rfl rfl rfl (fun x K hK => ?_) ?_
            rotate_left
            · go_big_quiet_op
              exact hK
            refine hoist [] [] (a1 := ?_) 14 rfl (by kernel_rfl) (.inl ⟨rfl, rfl⟩) rfl rfl rfl (fun x K hK => ?_) ?_
            rotate_left
            · go_big_quiet_op
              exact hK
            refine hoist [] [] (a1 := ?_) 15 rfl (by kernel_rfl) (.inl ⟨rfl, rfl⟩) rfl rfl rfl (fun x K hK => ?_) ?_
            rotate_left
            · go_big_quiet_op
              exact hK
            refine done (by kernel_rfl) (fun xr => ?_)
            have BX := Lib.hid (BQ.out.trans xr.bw)
            clear d6 d7 d8 q8 q9 ly lz hl1 hle2
            replace ht := Lib.hid ht
            go_wp2_with fail
            go_roundg (n2 - (p + 1 + 1))
            case measure => omega
            case rel => exact ⟨p + 1 + 1, rfl, by omega, by rw [hL1.out, ht.out]; push_cast; congr 1; omega, by push_cast; rfl, BX⟩
        · obtain rfl : q = n2 := by omega
          have d6 : decide ((q : Int) < (q : Int)) = false := by simp
          rw [List.take_of_length_le (by rw [hL.out]; exact Nat.le_refl _)]
          obtain ⟨sn2, hsn2⟩ : ∃ sn2, sn2 = sn + lensL L := ⟨_, rfl⟩
          obtain ⟨tk2, htk2⟩ : ∃ tk2, tk2 = tk := ⟨_, rfl⟩
          have hinv2 : (sn2 : Int) + T2.hav ≤ u + (tk2 : Int) * r := by rw [htk2]; omega
          have htk3 : tk2 ≤ j + 1 := by omega
          replace H2 := Lib.hid (H2.out.bw BQ.out)
          have B2 := Lib.hid (B5.out.trans BQ.out)
          rw [← hsn2, ← htk2]
          clear hsn2 htk2 hinv h0 h1 hm hs hgo H K B hsum hle hso hL O B5 BQ hbd hsn0 hlo hmo
          obtain ⟨wz, rfl⟩ : ∃ wz, wz = wr := ⟨_, rfl⟩
          go_upto_region 25 with (fail)
          clear d6
          have q2 : IntKind.u64.wrap u = u := IntWalk.u64_in _ (by omega)
          have q3 : IntKind.u64.wrap r = r := IntWalk.u64_in _ (by omega)
          have hP0 : 0 ≤ (tk2 : Int) * r := Int.mul_nonneg (by omega) r0
          have hP1 : (tk2 : Int) * r ≤ 101 * 65535 := Int.mul_le_mul (by omega) (by omega) r0 (by omega)
          have q4 : IntKind.u64.wrap ((tk2 : Int) * r) = (tk2 : Int) * r := IntWalk.u64_in _ (by omega)
          have q5 : IntKind.u64.wrap (u + (tk2 : Int) * r) = u + (tk2 : Int) * r := IntWalk.u64_in _ (by omega)
          have q6 : IntKind.i64.wrap (pk + 1) = pk + 1 := IntWalk.i64_in _ (by omega)
          have q7 : IntKind.i64.wrap (py + 1) = py + 1 := IntWalk.i64_in _ (by omega)
          have t1 : decide (u + (tk2 : Int) * r < (sn2 : Int)) = false := by simp; omega
          have t2 : decide (pk + 1 < (mny T2.qs : Int)) = false := by simp; omega
          have t3 : decide (py + 1 < (siz T2.qs : Int)) = false := by simp; omega
          have cL := Lib.hid (len_any w.heap.size g gb v2 T2 wz H2.out (by omega) (by omega))
          have nm1 : mny T2.qs ≤ 1000000 := by omega
          have nm2 : siz T2.qs ≤ 1000000000 := by omega
          have hgo2' := hgo2
          generalize hM : mny T2.qs = M at *
          generalize hZ : siz T2.qs = Z at *
          replace hM := Lib.hid hM
          replace hZ := Lib.hid hZ
          go_wp2_with fail
          refine Calls.mono cL.out ?_
          rintro e wl ⟨rfl, hb⟩
          have H3 := Lib.hid (H2.out.bw hb)
          have B3 := Lib.hid (B2.out.trans hb)
          have cS := Lib.hid (size_any w.heap.size g gb v2 T2 wl H3.out (by rw [hM.out]; exact nm1) (by rw [hZ.out]; exact nm2))
          rw [hZ.out] at cS
          clear cL hb
          dsimp only
          go_wp2_with fail
          refine Calls.mono cS.out ?_
          rintro e wk ⟨rfl, hb⟩
          have H4 := Lib.hid (H3.out.bw hb)
          have B4 := Lib.hid (B3.out.trans hb)
          clear cS hb q2 q3 q4 q5 q6 q7
          dsimp only
          go_wp2_with fail
          go_roundg (len - (j + 1))
          case measure => omega
          case rel => exact ⟨j + 1, sn2, tk2, v2, T2, rfl, by omega, rfl, rfl, by push_cast; rfl, by omega, by omega, H4, K2, by rw [hM.out]; omega, by rw [hZ.out]; omega, h02, h12, by rw [hM.out]; omega, hinv2, B4⟩
    have d4 : (k % 5 == 3) = false := by simpa using h3
    by_cases h4 : k % 5 = 4
    · have d5 : (k % 5 == 4) = true := by simpa using h4
      have cT := Lib.hid (ptick_any w.heap.size g gb vk T wr H.out (by rw [K.out.rate]; exact r0) h0 (by omega))
      have gbd := give_bound T.burst T.hav T.rate h0 (by rw [K.out.rate]; exact r0)
      rw [show T.burst = u from K.out.burst] at gbd
      rw [show T.rate = r from K.out.rate] at gbd
      obtain ⟨g1, g2, g3⟩ := gbd
      replace g3 := g3 u0
      have hGE := Lib.hid H.out.ge
      go_wp2_with fail
      refine Calls.mono cT.out ?_
      rintro e wz ⟨rfl, H2, TS⟩
      replace H2 := Lib.hid H2
      have B2 := Lib.hid (BW.stP B.out TS (by simp; omega))
      obtain ⟨T2, hT2⟩ : ∃ T2 : PcS, T2 = { T with hav := giveN T.burst T.hav T.rate } := ⟨_, rfl⟩
      have K2 : Hid (PcK (newS r u (pk + 1) (py + 1)) T2) := by subst hT2; exact ⟨K.out.rate, K.out.burst, K.out.packets, K.out.bytes, K.out.ql⟩
      have e1 : mny T2.qs = mny T.qs := by subst hT2; rfl
      have e2 : siz T2.qs = siz T.qs := by subst hT2; rfl
      have e3 : T2.gone = T.gone := by subst hT2; rfl
      have h02 : 0 ≤ T2.hav := by rw [hT2]; show 0 ≤ giveN T.burst T.hav T.rate; rw [show T.burst = u from K.out.burst, show T.rate = r from K.out.rate]; exact g3
      have h12 : T2.hav ≤ u := by rw [hT2]; show giveN T.burst T.hav T.rate ≤ u; rw [show T.burst = u from K.out.burst, show T.rate = r from K.out.rate]; exact g2
      have h13 : T2.hav ≤ T.hav + r := by rw [hT2]; show giveN T.burst T.hav T.rate ≤ _; rw [show T.burst = u from K.out.burst, show T.rate = r from K.out.rate]; exact g1
      rw [← hT2] at H2
      clear K
      have hinv2 : (sn : Int) + T2.hav ≤ u + ((tk + 1 : Nat) : Int) * r := by push_cast; rw [Int.add_mul, Int.one_mul]; omega
      obtain ⟨tk2, htk2⟩ : ∃ tk2, tk2 = tk + 1 := ⟨_, rfl⟩
      obtain ⟨sn2, hsn2⟩ : ∃ sn2, sn2 = sn := ⟨_, rfl⟩
      obtain ⟨v2, hv2⟩ : ∃ v2, v2 = vk := ⟨_, rfl⟩
      have hm2 : (mny T2.qs : Int) ≤ pk + 1 := by omega
      have hs2 : (siz T2.qs : Int) ≤ py + 1 := by omega
      have hgo2 : T2.gone + mny T2.qs ≤ j + 1 := by omega
      have e4 : ((tk : Nat) : Int) + 1 = (tk2 : Int) := by omega
      rw [← htk2, ← hsn2] at hinv2
      rw [← hv2] at H2
      rw [← hsn2]
      have htk3 : tk2 ≤ j + 1 := by omega
      clear cT TS hGE g1 g2 g3 h13 e1 e2 e3 hT2 htk2 hsn2 hv2 hinv h0 h1 hm hs hgo H B
      dsimp only
      go_upto_region 25 with (fail)
      clear e4
      have q2 : IntKind.u64.wrap u = u := IntWalk.u64_in _ (by omega)
      have q3 : IntKind.u64.wrap r = r := IntWalk.u64_in _ (by omega)
      have hP0 : 0 ≤ (tk2 : Int) * r := Int.mul_nonneg (by omega) r0
      have hP1 : (tk2 : Int) * r ≤ 101 * 65535 := Int.mul_le_mul (by omega) (by omega) r0 (by omega)
      have q4 : IntKind.u64.wrap ((tk2 : Int) * r) = (tk2 : Int) * r := IntWalk.u64_in _ (by omega)
      have q5 : IntKind.u64.wrap (u + (tk2 : Int) * r) = u + (tk2 : Int) * r := IntWalk.u64_in _ (by omega)
      have q6 : IntKind.i64.wrap (pk + 1) = pk + 1 := IntWalk.i64_in _ (by omega)
      have q7 : IntKind.i64.wrap (py + 1) = py + 1 := IntWalk.i64_in _ (by omega)
      have t1 : decide (u + (tk2 : Int) * r < (sn2 : Int)) = false := by simp; omega
      have t2 : decide (pk + 1 < (mny T2.qs : Int)) = false := by simp; omega
      have t3 : decide (py + 1 < (siz T2.qs : Int)) = false := by simp; omega
      have cL := Lib.hid (len_any w.heap.size g gb v2 T2 wz H2.out (by omega) (by omega))
      have nm1 : mny T2.qs ≤ 1000000 := by omega
      have nm2 : siz T2.qs ≤ 1000000000 := by omega
      have hgo2' := hgo2
      generalize hM : mny T2.qs = M at *
      generalize hZ : siz T2.qs = Z at *
      replace hM := Lib.hid hM
      replace hZ := Lib.hid hZ
      go_wp2_with fail
      refine Calls.mono cL.out ?_
      rintro e wl ⟨rfl, hb⟩
      have H3 := Lib.hid (H2.out.bw hb)
      have B3 := Lib.hid (B2.out.trans hb)
      have cS := Lib.hid (size_any w.heap.size g gb v2 T2 wl H3.out (by rw [hM.out]; exact nm1) (by rw [hZ.out]; exact nm2))
      rw [hZ.out] at cS
      clear cL hb
      dsimp only
      go_wp2_with fail
      refine Calls.mono cS.out ?_
      rintro e wk ⟨rfl, hb⟩
      have H4 := Lib.hid (H3.out.bw hb)
      have B4 := Lib.hid (B3.out.trans hb)
      clear cS hb q2 q3 q4 q5 q6 q7
      dsimp only
      go_wp2_with fail
      go_roundg (len - (j + 1))
      case measure => omega
      case rel => exact ⟨j + 1, sn2, tk2, v2, T2, rfl, by omega, rfl, rfl, by push_cast; rfl, by omega, by omega, H4, K2, by rw [hM.out]; omega, by rw [hZ.out]; omega, h02, h12, by rw [hM.out]; omega, hinv2, B4⟩
    have d5 : (k % 5 == 4) = false := by simpa using h4
    have hB : PcB T := ⟨by omega, by omega, by rw [K.out.packets]; show (1 : Int) ≤ pk + 1; omega, by rw [K.out.packets]; show pk + 1 ≤ _; omega, by rw [K.out.bytes]; show (1 : Int) ≤ py + 1; omega, by rw [K.out.bytes]; show py + 1 ≤ _; omega⟩
    have hlen := hv.out.1
    have hGE := Lib.hid H.out.ge
    have cP := Lib.hid (push_any w.heap.size g gb vk T c (.slice sa n cp) l wr H.out hB (by rw [K.out.burst]; exact u0) (by rw [K.out.burst]; show u ≤ _; omega) B.out.size (by rw [hlen]; exact hv.out.bw B.out) (by omega) c0 c1 (by omega) (fun h0 k hk hm => by
      have h1 := sb_lt hv.out (by omega) k hk
      rcases List.mem_cons.1 hm with rfl | hm
      · omega
      · have := hGE.out k hm; omega))
    have PL := pushN_keeps T c l H.out.ql (by rw [K.out.packets]; exact hm) (by rw [K.out.bytes]; exact hs)
    go_wp2_with fail
    refine Calls.mono cP.out ?_
    rintro e wz ⟨rfl, ⟨v2, H2, -⟩, TS⟩
    replace H2 := Lib.hid H2
    have B2 := Lib.hid (BW.stP B.out TS (fun k hm => by
      rcases List.mem_cons.1 hm with rfl | hm
      · omega
      · exact hGE.out k hm))
    generalize (pushN T c l).2 = T2 at *
    generalize (pushN T c l).1 = en at *
    have K2 : Hid (PcK (newS r u (pk + 1) (py + 1)) T2) := Lib.hid (K.out.trans PL.k)
    have hm2 : (mny T2.qs : Int) ≤ pk + 1 := by have := PL.m; rw [K.out.packets] at this; exact this
    have hs2 : (siz T2.qs : Int) ≤ py + 1 := by have := PL.s; rw [K.out.bytes] at this; exact this
    have hgo2 : T2.gone + mny T2.qs ≤ j + 1 := by have := PL.g; omega
    have h02 : 0 ≤ T2.hav := by rw [PL.hav]; exact h0
    have h12 : T2.hav ≤ u := by rw [PL.hav]; exact h1
    obtain ⟨tk2, htk2⟩ : ∃ tk2, tk2 = tk := ⟨_, rfl⟩
    obtain ⟨sn2, hsn2⟩ : ∃ sn2, sn2 = sn := ⟨_, rfl⟩
    have hinv2 : (sn2 : Int) + T2.hav ≤ u + (tk2 : Int) * r := by rw [PL.hav, htk2, hsn2]; exact hinv
    have htk3 : tk2 ≤ j + 1 := by omega
    rw [← htk2, ← hsn2]
    clear cP TS hGE PL hB htk2 hsn2 hinv h0 h1 hm hs hgo H K B x1 x2 d4 d5 hlen
    dsimp only
    go_upto_region 25 with (fail)
    have q2 : IntKind.u64.wrap u = u := IntWalk.u64_in _ (by omega)
    have q3 : IntKind.u64.wrap r = r := IntWalk.u64_in _ (by omega)
    have hP0 : 0 ≤ (tk2 : Int) * r := Int.mul_nonneg (by omega) r0
    have hP1 : (tk2 : Int) * r ≤ 101 * 65535 := Int.mul_le_mul (by omega) (by omega) r0 (by omega)
    have q4 : IntKind.u64.wrap ((tk2 : Int) * r) = (tk2 : Int) * r := IntWalk.u64_in _ (by omega)
    have q5 : IntKind.u64.wrap (u + (tk2 : Int) * r) = u + (tk2 : Int) * r := IntWalk.u64_in _ (by omega)
    have q6 : IntKind.i64.wrap (pk + 1) = pk + 1 := IntWalk.i64_in _ (by omega)
    have q7 : IntKind.i64.wrap (py + 1) = py + 1 := IntWalk.i64_in _ (by omega)
    have t1 : decide (u + (tk2 : Int) * r < (sn2 : Int)) = false := by simp; omega
    have t2 : decide (pk + 1 < (mny T2.qs : Int)) = false := by simp; omega
    have t3 : decide (py + 1 < (siz T2.qs : Int)) = false := by simp; omega
    have cL := Lib.hid (len_any w.heap.size g gb v2 T2 wz H2.out (by omega) (by omega))
    have nm1 : mny T2.qs ≤ 1000000 := by omega
    have nm2 : siz T2.qs ≤ 1000000000 := by omega
    have hgo2' := hgo2
    generalize hM : mny T2.qs = M at *
    generalize hZ : siz T2.qs = Z at *
    replace hM := Lib.hid hM
    replace hZ := Lib.hid hZ
    go_wp2_with fail
    refine Calls.mono cL.out ?_
    rintro e wl ⟨rfl, hb⟩
    have H3 := Lib.hid (H2.out.bw hb)
    have B3 := Lib.hid (B2.out.trans hb)
    have cS := Lib.hid (size_any w.heap.size g gb v2 T2 wl H3.out (by rw [hM.out]; exact nm1) (by rw [hZ.out]; exact nm2))
    rw [hZ.out] at cS
    clear cL hb
    dsimp only
    go_wp2_with fail
    refine Calls.mono cS.out ?_
    rintro e wk ⟨rfl, hb⟩
    have H4 := Lib.hid (H3.out.bw hb)
    have B4 := Lib.hid (B3.out.trans hb)
    clear cS hb q2 q3 q4 q5 q6 q7
    dsimp only
    go_wp2_with fail
    go_roundg (len - (j + 1))
    case measure => omega
    case rel => exact ⟨j + 1, sn2, tk2, v2, T2, rfl, by omega, rfl, rfl, by push_cast; rfl, by omega, by omega, H4, K2, by rw [hM.out]; omega, by rw [hZ.out]; omega, h02, h12, by rw [hM.out]; omega, hinv2, B4⟩
end Go.Proofs.Ytgiajnfmjpdodaa
