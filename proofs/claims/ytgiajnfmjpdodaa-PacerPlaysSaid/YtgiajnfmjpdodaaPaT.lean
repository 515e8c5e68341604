/- The reference's pacer: last, drop. No condition but the sizes'. -/
import Derived.Test.YtgiajnfmjpdodaaPaS
namespace Go.Proofs.Ytgiajnfmjpdodaa
open Go.RowKit

def atI : Option Nat → Int
  | none => -1
  | some a => (a : Nat)
theorem er_succ (L : PL) (at_ k : Nat) (h : k < L.length) : (L.take (k + 1)).eraseIdx at_ = if k = at_ then (L.take k).eraseIdx at_ else (L.take k).eraseIdx at_ ++ [L[k]] := by
  rw [List.take_succ_eq_append_getElem h]
  have hl : (L.take k).length = k := by rw [List.length_take]; omega
  by_cases h1 : at_ < k
  · rw [if_neg (by omega), List.eraseIdx_append_of_lt_length (by omega)]
  · rw [List.eraseIdx_append_of_length_le (by omega), hl, List.eraseIdx_of_length_le (l := L.take k) (by omega)]
    by_cases e : k = at_
    · subst e; rw [if_pos rfl, Nat.sub_self]; simp
    · rw [if_neg e, List.eraseIdx_of_length_le (by simp; omega)]
set_option maxRecDepth 100000 in
set_option maxHeartbeats 8000000 in
theorem rlast_any (base g : Nat) (bp : Value) (pk by_ : Int) (v : Value) (L : PL) (gone : Nat) (above : Int) (w : World) (h : RpV w base g bp pk by_ v L gone) :
    Calls Try.prog 72 #[.pointer (some ⟨g, 0, none⟩), .int .i64 above] w fun e w' => e = .returned (.int .i64 (atI (lastR above L L.length))) ∧ BW w w' := by
  obtain ⟨sv, cv, rfl, hnc, hmc⟩ := h.pq.len
  have z3 : w.cell? ⟨g, 3, none⟩ = some (.slice sv L.length cv) := hp_cell h.cells 3
  have hQ := Lib.hid h.pq
  have hIs := Lib.hid (lastR_is above L)
  unfold maxLen at hmc
  clear h
  generalize hn : L.length = n at *
  replace hn := Lib.hid hn
  replace z3 := Lib.hid z3
  go_enter Try.func72, Try.ntmps72
  go_upto_region 3 with (fail)
  go_loopg [5, 6] n (fun m' s i wx => ∃ k : Nat, m' = n - k ∧ k ≤ n ∧ s = .int .i64 (atI (lastR above L k)) ∧ i = .int .i64 (k : Nat) ∧ Hid (BW w wx))
  case atStart => exact ⟨0, by omega, by omega, rfl, rfl, BW.refl _⟩
  case round =>
    obtain ⟨k, rfl, hk, rfl, rfl, B⟩ := hrel
    have z3 := B.out.cell z3.out
    by_cases hkn : k < n
    · have d : decide ((k : Int) < (n : Int)) = true := by simp; omega
      have hks : Hid (atI (lastR above L (k + 1)) = match lastR above L k with
        | none => if above < cl L k then (k : Int) else -1
        | some a => if above < cl L k ∧ cl L a ≤ cl L k then (k : Int) else (a : Int)) := Lib.hid (by
          conv => lhs; unfold lastR
          cases lastR above L k with
          | none => dsimp only; split <;> rfl
          | some a => dsimp only; split <;> rfl)
      have hia := hIs.out k
      obtain ⟨g1, o1, c1, hsl, _, _, _, _, hce⟩ := (hQ.out.bw B.out).form (by omega)
      simp only [Value.slice.injEq] at hsl
      obtain ⟨rfl, -, rfl⟩ := hsl
      have hcx : ∀ i, i < n → wr.cell? ⟨g1, o1 + i * 2, none⟩ = some (.int .i64 (cl L i)) := fun i hi => by
        obtain ⟨u1, y1, -, -⟩ := hce i (by rw [hn.out]; exact hi)
        rw [y1, cl_get (by rw [hn.out]; exact hi)]
      clear hce
      have y1 := hcx k hkn
      replace hcx := Lib.hid hcx
      cases hl : lastR above L k with
      | none =>
        rw [hl] at hks hia
        dsimp only at hks
        clear hia
        have e1 : atI none = -1 := rfl
        rw [e1]
        by_cases hc : above < cl L k
        · rw [if_pos hc] at hks
          have d2 : decide (above < cl L k) = true := by simpa using hc
          go_upto_region 5 with (fail)
          have l3 := fun x : LaterS [] wr => x.cell z3 (by simp)
          have ly := fun x : LaterS [] wr => x.cell y1 (by simp)
          clear y1 z3
          refine wp_region_gg [] [] [] (by kernel_rfl) ?_
          refine hoist [] [] (a1 := ?_) 0 rfl (by kernel_rfl) (.inl ⟨rfl, rfl⟩) rfl rfl rfl (fun x K hK => ?_) ?_
          rotate_left
          · go_big_quiet_op
            exact hK
          refine hoist [] [] (a1 := ?_) 1 rfl (by kernel_rfl) (.inl ⟨rfl, rfl⟩) rfl rfl rfl (fun x K hK => ?_) ?_
          rotate_left
          · go_big_quiet_op
            exact hK
          refine hoist [] [] (a1 := ?_) 2 rfl (by kernel_rfl) (.inl ⟨rfl, rfl⟩) rfl rfl rfl (fun x K hK => ?_) ?_
          rotate_left
          · go_big_quiet_op
            exact hK
          refine hoist [] [] (a1 := ?_) 3 rfl (by kernel_rfl) (.inl ⟨rfl, rfl⟩) rfl rfl rfl (fun x K hK => ?_) ?_
          rotate_left
          · go_big_quiet_op
            exact hK
          refine hoist [] [] (a1 := ?_) 4 rfl (by kernel_rfl) (.inl ⟨rfl, rfl⟩) rfl rfl rfl (fun x K hK => ?_) ?_
          rotate_left
          · go_big_quiet_op
            exact hK
          refine hoist [] [] (a1 := ?_) 5 rfl (by kernel_rfl) (.inl ⟨rfl, rfl⟩) rfl rfl rfl (fun x K hK => ?_) ?_
          rotate_left
          · go_big_quiet_op
            exact hK
          refine hoist [] [] (a1 := ?_) 6 rfl (by kernel_rfl) (.inl ⟨rfl, rfl⟩) rfl rfl rfl (fun x K hK => ?_) ?_
          rotate_left
          · go_big_quiet_op
            exact hK
          refine hoist [] [] (a1 := ?_) 7 rfl (by kernel_rfl) (.inl ⟨rfl, rfl⟩) rfl rfl rfl (fun x K hK => ?_) ?_
          rotate_left
          · go_big_quiet_op
            exact hK
          refine hoist [] [] (a1 := ?_) 8 rfl (by kernel_rfl) (.inl ⟨rfl, rfl⟩) rfl rfl rfl (fun x K hK => ?_) ?_
          rotate_left
          · go_big_quiet_op
            exact hK
          refine hoist [] [] (a1 := ?_) 9 rfl (by kernel_rfl) (.inl ⟨rfl, rfl⟩) rfl rfl rfl (fun x K hK => ?_) ?_
          rotate_left
          · go_big_quiet_op
            exact hK
          refine hoist [] [] (a1 := ?_) 10 rfl (by kernel_rfl) (.inl ⟨rfl, rfl⟩) rfl rfl rfl (fun x K hK => ?_) ?_
          rotate_left
          · go_big_quiet_op
            exact hK
          refine hoist [] [] (a1 := ?_) 11 rfl (by kernel_rfl) (.inl ⟨rfl, rfl⟩) rfl rfl rfl (fun x K hK => ?_) ?_
          rotate_left
          · go_big_quiet_op
            exact hK
          refine hoist [] [] (a1 := ?_) 12 rfl (by kernel_rfl) (.inl ⟨rfl, rfl⟩) rfl rfl rfl (fun x K hK => ?_) ?_
          rotate_left
          · go_big_quiet_op
            exact hK
          refine hoist [] [] (a1 := ?_) 13 rfl (by kernel_rfl) (.inl ⟨rfl, rfl⟩) rfl rfl rfl (fun x K hK => ?_) ?_
          rotate_left
          · go_big_quiet_op
            exact hK
          refine hoist_skip [] [] 14 rfl (by kernel_rfl) (.inl ⟨rfl, rfl⟩) rfl (a1 := ?_) ?_ ?_
          rotate_left
          · simp only [Act.put, List.setIfInBounds_toArray, List.set_cons_succ, List.set_cons_zero]; rfl
          refine hoist_skip [] [] 15 rfl (by kernel_rfl) (.inl ⟨rfl, rfl⟩) rfl (a1 := ?_) ?_ ?_
          rotate_left
          · simp only [Act.put, List.setIfInBounds_toArray, List.set_cons_succ, List.set_cons_zero]; rfl
          refine hoist_skip [] [] 16 rfl (by kernel_rfl) (.inl ⟨rfl, rfl⟩) rfl (a1 := ?_) ?_ ?_
          rotate_left
          · simp only [Act.put, List.setIfInBounds_toArray, List.set_cons_succ, List.set_cons_zero]; rfl
          refine hoist_skip [] [] 17 rfl (by kernel_rfl) (.inl ⟨rfl, rfl⟩) rfl (a1 := ?_) ?_ ?_
          rotate_left
          · simp only [Act.put, List.setIfInBounds_toArray, List.set_cons_succ, List.set_cons_zero]; rfl
          refine hoist_skip [] [] 18 rfl (by kernel_rfl) (.inl ⟨rfl, rfl⟩) rfl (a1 := ?_) ?_ ?_
          rotate_left
          · simp only [Act.put, List.setIfInBounds_toArray, List.set_cons_succ, List.set_cons_zero]; rfl
          refine hoist_skip [] [] 19 rfl (by kernel_rfl) (.inl ⟨rfl, rfl⟩) rfl (a1 := ?_) ?_ ?_
          rotate_left
          · simp only [Act.put, List.setIfInBounds_toArray, List.set_cons_succ, List.set_cons_zero]; rfl
          refine hoist_skip [] [] 20 rfl (by kernel_rfl) (.inl ⟨rfl, rfl⟩) rfl (a1 := ?_) ?_ ?_
          rotate_left
          · simp only [Act.put, List.setIfInBounds_toArray, List.set_cons_succ, List.set_cons_zero]; rfl
          refine hoist_skip [] [] 21 rfl (by kernel_rfl) (.inl ⟨rfl, rfl⟩) rfl (a1 := ?_) ?_ ?_
          rotate_left
          · simp only [Act.put, List.setIfInBounds_toArray, List.set_cons_succ, List.set_cons_zero]; rfl
          refine hoist_skip [] [] 22 rfl (by kernel_rfl) (.inl ⟨rfl, rfl⟩) rfl (a1 := ?_) ?_ ?_
          rotate_left
          · simp only [Act.put, List.setIfInBounds_toArray, List.set_cons_succ, List.set_cons_zero]; rfl
          refine hoist_skip [] [] 23 rfl (by kernel_rfl) (.inl ⟨rfl, rfl⟩) rfl (a1 := ?_) ?_ ?_
          rotate_left
          · simp only [Act.put, List.setIfInBounds_toArray, List.set_cons_succ, List.set_cons_zero]; rfl
          refine hoist_skip [] [] 24 rfl (by kernel_rfl) (.inl ⟨rfl, rfl⟩) rfl (a1 := ?_) ?_ ?_
          rotate_left
          · simp only [Act.put, List.setIfInBounds_toArray, List.set_cons_succ, List.set_cons_zero]; rfl
          refine hoist_skip [] [] 25 rfl (by kernel_rfl) (.inl ⟨rfl, rfl⟩) rfl (a1 := ?_) ?_ ?_
          rotate_left
          · simp only [Act.put, List.setIfInBounds_toArray, List.set_cons_succ, List.set_cons_zero]; rfl
          refine hoist_skip [] [] 26 rfl (by kernel_rfl) (.inl ⟨rfl, rfl⟩) rfl (a1 := ?_) ?_ ?_
          rotate_left
          · simp only [Act.put, List.setIfInBounds_toArray, List.set_cons_succ, List.set_cons_zero]; rfl
          refine hoist_skip [] [] 27 rfl (by kernel_rfl) (.inl ⟨rfl, rfl⟩) rfl (a1 := ?_) ?_ ?_
          rotate_left
          · simp only [Act.put, List.setIfInBounds_toArray, List.set_cons_succ, List.set_cons_zero]; rfl
          refine hoist_skip [] [] 28 rfl (by kernel_rfl) (.inl ⟨rfl, rfl⟩) rfl (a1 := ?_) ?_ ?_
          rotate_left
          · simp only [Act.put, List.setIfInBounds_toArray, List.set_cons_succ, List.set_cons_zero]; rfl
          refine hoist_skip [] [] 29 rfl (by kernel_rfl) (.inl ⟨rfl, rfl⟩) rfl (a1 := ?_) ?_ ?_
          rotate_left
          · simp only [Act.put, List.setIfInBounds_toArray, List.set_cons_succ, List.set_cons_zero]; rfl
          refine hoist_skip [] [] 30 rfl (by kernel_rfl) (.inl ⟨rfl, rfl⟩) rfl (a1 := ?_) ?_ ?_
          rotate_left
          · simp only [Act.put, List.setIfInBounds_toArray, List.set_cons_succ, List.set_cons_zero]; rfl
          refine hoist [] [] (a1 := ?_) 31 rfl (by kernel_rfl) (.inl ⟨rfl, rfl⟩) rfl rfl rfl (fun x K hK => ?_) ?_
          rotate_left
          · go_big_quiet_op
            exact hK
          refine hoist [] [] (a1 := ?_) 32 rfl (by kernel_rfl) (.inl ⟨rfl, rfl⟩) rfl rfl rfl (fun x K hK => ?_) ?_
          rotate_left
          · go_big_quiet_op
            exact hK
          refine done (by kernel_rfl) (fun xr => ?_)
          have BX := Lib.hid (B.out.trans xr.bw)
          replace hc := Lib.hid hc
          clear d2 d l3 ly e1
          go_wp2_with fail
          go_roundg (n - (k + 1))
          case measure => omega
          case rel => exact ⟨k + 1, rfl, by omega, by rw [hks.out], by push_cast; rfl, BX⟩
        · rw [if_neg hc] at hks
          have d2 : decide (above < cl L k) = false := by simpa using hc
          go_upto_region 5 with (fail)
          have l3 := fun x : LaterS [] wr => x.cell z3 (by simp)
          have ly := fun x : LaterS [] wr => x.cell y1 (by simp)
          clear y1 z3
          refine wp_region_gg [] [] [] (by kernel_rfl) ?_
          refine hoist [] [] (a1 := ?_) 0 rfl (by kernel_rfl) (.inl ⟨rfl, rfl⟩) rfl rfl rfl (fun x K hK => ?_) ?_
          rotate_left
          · go_big_quiet_op
            exact hK
          refine hoist [] [] (a1 := ?_) 1 rfl (by kernel_rfl) (.inl ⟨rfl, rfl⟩) rfl rfl rfl (fun x K hK => ?_) ?_
          rotate_left
          · go_big_quiet_op
            exact hK
          refine hoist [] [] (a1 := ?_) 2 rfl (by kernel_rfl) (.inl ⟨rfl, rfl⟩) rfl rfl rfl (fun x K hK => ?_) ?_
          rotate_left
          · go_big_quiet_op
            exact hK
          refine hoist [] [] (a1 := ?_) 3 rfl (by kernel_rfl) (.inl ⟨rfl, rfl⟩) rfl rfl rfl (fun x K hK => ?_) ?_
          rotate_left
          · go_big_quiet_op
            exact hK
          refine hoist [] [] (a1 := ?_) 4 rfl (by kernel_rfl) (.inl ⟨rfl, rfl⟩) rfl rfl rfl (fun x K hK => ?_) ?_
          rotate_left
          · go_big_quiet_op
            exact hK
          refine hoist [] [] (a1 := ?_) 5 rfl (by kernel_rfl) (.inl ⟨rfl, rfl⟩) rfl rfl rfl (fun x K hK => ?_) ?_
          rotate_left
          · go_big_quiet_op
            exact hK
          refine hoist [] [] (a1 := ?_) 6 rfl (by kernel_rfl) (.inl ⟨rfl, rfl⟩) rfl rfl rfl (fun x K hK => ?_) ?_
          rotate_left
          · go_big_quiet_op
            exact hK
          refine hoist [] [] (a1 := ?_) 7 rfl (by kernel_rfl) (.inl ⟨rfl, rfl⟩) rfl rfl rfl (fun x K hK => ?_) ?_
          rotate_left
          · go_big_quiet_op
            exact hK
          refine hoist [] [] (a1 := ?_) 8 rfl (by kernel_rfl) (.inl ⟨rfl, rfl⟩) rfl rfl rfl (fun x K hK => ?_) ?_
          rotate_left
          · go_big_quiet_op
            exact hK
          refine hoist [] [] (a1 := ?_) 9 rfl (by kernel_rfl) (.inl ⟨rfl, rfl⟩) rfl rfl rfl (fun x K hK => ?_) ?_
          rotate_left
          · go_big_quiet_op
            exact hK
          refine hoist [] [] (a1 := ?_) 10 rfl (by kernel_rfl) (.inl ⟨rfl, rfl⟩) rfl rfl rfl (fun x K hK => ?_) ?_
          rotate_left
          · go_big_quiet_op
            exact hK
          refine hoist_skip [] [] 11 rfl (by kernel_rfl) (.inl ⟨rfl, rfl⟩) rfl (a1 := ?_) ?_ ?_
          rotate_left
          · simp only [Act.put, List.setIfInBounds_toArray, List.set_cons_succ, List.set_cons_zero]; rfl
          refine hoist_skip [] [] 12 rfl (by kernel_rfl) (.inl ⟨rfl, rfl⟩) rfl (a1 := ?_) ?_ ?_
          rotate_left
          · simp only [Act.put, List.setIfInBounds_toArray, List.set_cons_succ, List.set_cons_zero]; rfl
          refine hoist_skip [] [] 13 rfl (by kernel_rfl) (.inl ⟨rfl, rfl⟩) rfl (a1 := ?_) ?_ ?_
          rotate_left
          · simp only [Act.put, List.setIfInBounds_toArray, List.set_cons_succ, List.set_cons_zero]; rfl
          refine hoist_skip [] [] 14 rfl (by kernel_rfl) (.inl ⟨rfl, rfl⟩) rfl (a1 := ?_) ?_ ?_
          rotate_left
          · simp only [Act.put, List.setIfInBounds_toArray, List.set_cons_succ, List.set_cons_zero]; rfl
          refine hoist_skip [] [] 15 rfl (by kernel_rfl) (.inl ⟨rfl, rfl⟩) rfl (a1 := ?_) ?_ ?_
          rotate_left
          · simp only [Act.put, List.setIfInBounds_toArray, List.set_cons_succ, List.set_cons_zero]; rfl
          refine hoist_skip [] [] 16 rfl (by kernel_rfl) (.inl ⟨rfl, rfl⟩) rfl (a1 := ?_) ?_ ?_
          rotate_left
          · simp only [Act.put, List.setIfInBounds_toArray, List.set_cons_succ, List.set_cons_zero]; rfl
          refine hoist_skip [] [] 17 rfl (by kernel_rfl) (.inl ⟨rfl, rfl⟩) rfl (a1 := ?_) ?_ ?_
          rotate_left
          · simp only [Act.put, List.setIfInBounds_toArray, List.set_cons_succ, List.set_cons_zero]; rfl
          refine hoist_skip [] [] 18 rfl (by kernel_rfl) (.inl ⟨rfl, rfl⟩) rfl (a1 := ?_) ?_ ?_
          rotate_left
          · simp only [Act.put, List.setIfInBounds_toArray, List.set_cons_succ, List.set_cons_zero]; rfl
          refine hoist_skip [] [] 19 rfl (by kernel_rfl) (.inl ⟨rfl, rfl⟩) rfl (a1 := ?_) ?_ ?_
          rotate_left
          · simp only [Act.put, List.setIfInBounds_toArray, List.set_cons_succ, List.set_cons_zero]; rfl
          refine hoist_skip [] [] 20 rfl (by kernel_rfl) (.inl ⟨rfl, rfl⟩) rfl (a1 := ?_) ?_ ?_
          rotate_left
          · simp only [Act.put, List.setIfInBounds_toArray, List.set_cons_succ, List.set_cons_zero]; rfl
          refine hoist_skip [] [] 21 rfl (by kernel_rfl) (.inl ⟨rfl, rfl⟩) rfl (a1 := ?_) ?_ ?_
          rotate_left
          · simp only [Act.put, List.setIfInBounds_toArray, List.set_cons_succ, List.set_cons_zero]; rfl
          refine hoist_skip [] [] 22 rfl (by kernel_rfl) (.inl ⟨rfl, rfl⟩) rfl (a1 := ?_) ?_ ?_
          rotate_left
          · simp only [Act.put, List.setIfInBounds_toArray, List.set_cons_succ, List.set_cons_zero]; rfl
          refine hoist_skip [] [] 23 rfl (by kernel_rfl) (.inl ⟨rfl, rfl⟩) rfl (a1 := ?_) ?_ ?_
          rotate_left
          · simp only [Act.put, List.setIfInBounds_toArray, List.set_cons_succ, List.set_cons_zero]; rfl
          refine hoist_skip [] [] 24 rfl (by kernel_rfl) (.inl ⟨rfl, rfl⟩) rfl (a1 := ?_) ?_ ?_
          rotate_left
          · simp only [Act.put, List.setIfInBounds_toArray, List.set_cons_succ, List.set_cons_zero]; rfl
          refine hoist_skip [] [] 25 rfl (by kernel_rfl) (.inl ⟨rfl, rfl⟩) rfl (a1 := ?_) ?_ ?_
          rotate_left
          · simp only [Act.put, List.setIfInBounds_toArray, List.set_cons_succ, List.set_cons_zero]; rfl
          refine hoist_skip [] [] 26 rfl (by kernel_rfl) (.inl ⟨rfl, rfl⟩) rfl (a1 := ?_) ?_ ?_
          rotate_left
          · simp only [Act.put, List.setIfInBounds_toArray, List.set_cons_succ, List.set_cons_zero]; rfl
          refine hoist_skip [] [] 27 rfl (by kernel_rfl) (.inl ⟨rfl, rfl⟩) rfl (a1 := ?_) ?_ ?_
          rotate_left
          · simp only [Act.put, List.setIfInBounds_toArray, List.set_cons_succ, List.set_cons_zero]; rfl
          refine hoist_skip [] [] 28 rfl (by kernel_rfl) (.inl ⟨rfl, rfl⟩) rfl (a1 := ?_) ?_ ?_
          rotate_left
          · simp only [Act.put, List.setIfInBounds_toArray, List.set_cons_succ, List.set_cons_zero]; rfl
          refine hoist_skip [] [] 29 rfl (by kernel_rfl) (.inl ⟨rfl, rfl⟩) rfl (a1 := ?_) ?_ ?_
          rotate_left
          · simp only [Act.put, List.setIfInBounds_toArray, List.set_cons_succ, List.set_cons_zero]; rfl
          refine hoist_skip [] [] 30 rfl (by kernel_rfl) (.inl ⟨rfl, rfl⟩) rfl (a1 := ?_) ?_ ?_
          rotate_left
          · simp only [Act.put, List.setIfInBounds_toArray, List.set_cons_succ, List.set_cons_zero]; rfl
          refine hoist_skip [] [] 31 rfl (by kernel_rfl) (.inl ⟨rfl, rfl⟩) rfl (a1 := ?_) ?_ ?_
          rotate_left
          · simp only [Act.put, List.setIfInBounds_toArray, List.set_cons_succ, List.set_cons_zero]; rfl
          refine hoist [] [] (a1 := ?_) 32 rfl (by kernel_rfl) (.inl ⟨rfl, rfl⟩) rfl rfl rfl (fun x K hK => ?_) ?_
          rotate_left
          · go_big_quiet_op
            exact hK
          refine done (by kernel_rfl) (fun xr => ?_)
          have BX := Lib.hid (B.out.trans xr.bw)
          replace hc := Lib.hid hc
          clear d2 d l3 ly e1
          go_wp2_with fail
          go_roundg (n - (k + 1))
          case measure => omega
          case rel => exact ⟨k + 1, rfl, by omega, by rw [hks.out], by push_cast; rfl, BX⟩
      | some a =>
        rw [hl] at hks hia
        dsimp only at hks
        have e1 : atI (some a) = (a : Nat) := rfl
        rw [e1]
        have ha : a < k := hia.1
        have y2 := hcx.out a (by omega)
        have d3 : decide ((a : Int) < 0) = false := by simp
        clear hia
        by_cases hc : above < cl L k
        · have d2 : decide (above < cl L k) = true := by simpa using hc
          by_cases hc2 : cl L a ≤ cl L k
          · rw [if_pos ⟨hc, hc2⟩] at hks
            have d4 : decide (cl L a ≤ cl L k) = true := by simpa using hc2
            go_upto_region 5 with (fail)
            have l3 := fun x : LaterS [] wr => x.cell z3 (by simp)
            have ly := fun x : LaterS [] wr => x.cell y1 (by simp)
            have la := fun x : LaterS [] wr => x.cell y2 (by simp)
            clear y1 z3 y2
            refine wp_region_gg [] [] [] (by kernel_rfl) ?_
            refine hoist [] [] (a1 := ?_) 0 rfl (by kernel_rfl) (.inl ⟨rfl, rfl⟩) rfl rfl rfl (fun x K hK => ?_) ?_
            rotate_left
            · go_big_quiet_op
              exact hK
            refine hoist [] [] (a1 := ?_) 1 rfl (by kernel_rfl) (.inl ⟨rfl, rfl⟩) rfl rfl rfl (fun x K hK => ?_) ?_
            rotate_left
            · go_big_quiet_op
              exact hK
            refine hoist [] [] (a1 := ?_) 2 rfl (by kernel_rfl) (.inl ⟨rfl, rfl⟩) rfl rfl rfl (fun x K hK => ?_) ?_
            rotate_left
            · go_big_quiet_op
              exact hK
            refine hoist [] [] (a1 := ?_) 3 rfl (by kernel_rfl) (.inl ⟨rfl, rfl⟩) rfl rfl rfl (fun x K hK => ?_) ?_
            rotate_left
            · go_big_quiet_op
              exact hK
            refine hoist [] [] (a1 := ?_) 4 rfl (by kernel_rfl) (.inl ⟨rfl, rfl⟩) rfl rfl rfl (fun x K hK => ?_) ?_
            rotate_left
            · go_big_quiet_op
              exact hK
            refine hoist [] [] (a1 := ?_) 5 rfl (by kernel_rfl) (.inl ⟨rfl, rfl⟩) rfl rfl rfl (fun x K hK => ?_) ?_
            rotate_left
            · go_big_quiet_op
              exact hK
            refine hoist [] [] (a1 := ?_) 6 rfl (by kernel_rfl) (.inl ⟨rfl, rfl⟩) rfl rfl rfl (fun x K hK => ?_) ?_
            rotate_left
            · go_big_quiet_op
              exact hK
            refine hoist [] [] (a1 := ?_) 7 rfl (by kernel_rfl) (.inl ⟨rfl, rfl⟩) rfl rfl rfl (fun x K hK => ?_) ?_
            rotate_left
            · go_big_quiet_op
              exact hK
            refine hoist [] [] (a1 := ?_) 8 rfl (by kernel_rfl) (.inl ⟨rfl, rfl⟩) rfl rfl rfl (fun x K hK => ?_) ?_
            rotate_left
            · go_big_quiet_op
              exact hK
            refine hoist [] [] (a1 := ?_) 9 rfl (by kernel_rfl) (.inl ⟨rfl, rfl⟩) rfl rfl rfl (fun x K hK => ?_) ?_
            rotate_left
            · go_big_quiet_op
              exact hK
            refine hoist [] [] (a1 := ?_) 10 rfl (by kernel_rfl) (.inl ⟨rfl, rfl⟩) rfl rfl rfl (fun x K hK => ?_) ?_
            rotate_left
            · go_big_quiet_op
              exact hK
            refine hoist [] [] (a1 := ?_) 11 rfl (by kernel_rfl) (.inl ⟨rfl, rfl⟩) rfl rfl rfl (fun x K hK => ?_) ?_
            rotate_left
            · go_big_quiet_op
              exact hK
            refine hoist [] [] (a1 := ?_) 12 rfl (by kernel_rfl) (.inl ⟨rfl, rfl⟩) rfl rfl rfl (fun x K hK => ?_) ?_
            rotate_left
            · go_big_quiet_op
              exact hK
            refine hoist [] [] (a1 := ?_) 13 rfl (by kernel_rfl) (.inl ⟨rfl, rfl⟩) rfl rfl rfl (fun x K hK => ?_) ?_
            rotate_left
            · go_big_quiet_op
              exact hK
            refine hoist [] [] (a1 := ?_) 14 rfl (by kernel_rfl) (.inl ⟨rfl, rfl⟩) rfl rfl rfl (fun x K hK => ?_) ?_
            rotate_left
            · go_big_quiet_op
              exact hK
            refine hoist [] [] (a1 := ?_) 15 rfl (by kernel_rfl) (.inl ⟨rfl, rfl⟩) rfl rfl rfl (fun x K hK => ?_) ?_
            rotate_left
            · go_big_quiet_op
              exact hK
            refine hoist [] [] (a1 := ?_) 16 rfl (by kernel_rfl) (.inl ⟨rfl, rfl⟩) rfl rfl rfl (fun x K hK => ?_) ?_
            rotate_left
            · go_big_quiet_op
              exact hK
            refine hoist [] [] (a1 := ?_) 17 rfl (by kernel_rfl) (.inl ⟨rfl, rfl⟩) rfl rfl rfl (fun x K hK => ?_) ?_
            rotate_left
            · go_big_quiet_op
              exact hK
            refine hoist [] [] (a1 := ?_) 18 rfl (by kernel_rfl) (.inl ⟨rfl, rfl⟩) rfl rfl rfl (fun x K hK => ?_) ?_
            rotate_left
            · go_big_quiet_op
              exact hK
            refine hoist [] [] (a1 := ?_) 19 rfl (by kernel_rfl) (.inl ⟨rfl, rfl⟩) rfl rfl rfl (fun x K hK => ?_) ?_
            rotate_left
            · go_big_quiet_op
              exact hK
            refine hoist [] [] (a1 := ?_) 20 rfl (by kernel_rfl) (.inl ⟨rfl, rfl⟩) rfl rfl rfl (fun x K hK => ?_) ?_
            rotate_left
            · go_big_quiet_op
              exact hK
            refine hoist [] [] (a1 := ?_) 21 rfl (by kernel_rfl) (.inl ⟨rfl, rfl⟩) rfl rfl rfl (fun x K hK => ?_) ?_
            rotate_left
            · go_big_quiet_op
              exact hK
            refine hoist [] [] (a1 := ?_) 22 rfl (by kernel_rfl) (.inl ⟨rfl, rfl⟩) rfl rfl rfl (fun x K hK => ?_) ?_
            rotate_left
            · go_big_quiet_op
              exact hK
            refine hoist [] [] (a1 := ?_) 23 rfl (by kernel_rfl) (.inl ⟨rfl, rfl⟩) rfl rfl rfl (fun x K hK => ?_) ?_
            rotate_left
            · go_big_quiet_op
              exact hK
            refine hoist [] [] (a1 := ?_) 24 rfl (by kernel_rfl) (.inl ⟨rfl, rfl⟩) rfl rfl rfl (fun x K hK => ?_) ?_
            rotate_left
            · go_big_quiet_op
              exact hK
            refine hoist [] [] (a1 := ?_) 25 rfl (by kernel_rfl) (.inl ⟨rfl, rfl⟩) rfl rfl rfl (fun x K hK => ?_) ?_
            rotate_left
            · go_big_quiet_op
              exact hK
            refine hoist [] [] (a1 := ?_) 26 rfl (by kernel_rfl) (.inl ⟨rfl, rfl⟩) rfl rfl rfl (fun x K hK => ?_) ?_
            rotate_left
            · go_big_quiet_op
              exact hK
            refine hoist [] [] (a1 := ?_) 27 rfl (by kernel_rfl) (.inl ⟨rfl, rfl⟩) rfl rfl rfl (fun x K hK => ?_) ?_
            rotate_left
            · go_big_quiet_op
              exact hK
            refine hoist [] [] (a1 := ?_) 28 rfl (by kernel_rfl) (.inl ⟨rfl, rfl⟩) rfl rfl rfl (fun x K hK => ?_) ?_
            rotate_left
            · go_big_quiet_op
              exact hK
            refine hoist [] [] (a1 := ?_) 29 rfl (by kernel_rfl) (.inl ⟨rfl, rfl⟩) rfl rfl rfl (fun x K hK => ?_) ?_
            rotate_left
            · go_big_quiet_op
              exact hK
            refine hoist [] [] (a1 := ?_) 30 rfl (by kernel_rfl) (.inl ⟨rfl, rfl⟩) rfl rfl rfl (fun x K hK => ?_) ?_
            rotate_left
            · go_big_quiet_op
              exact hK
            refine hoist [] [] (a1 := ?_) 31 rfl (by kernel_rfl) (.inl ⟨rfl, rfl⟩) rfl rfl rfl (fun x K hK => ?_) ?_
            rotate_left
            · go_big_quiet_op
              exact hK
            refine hoist [] [] (a1 := ?_) 32 rfl (by kernel_rfl) (.inl ⟨rfl, rfl⟩) rfl rfl rfl (fun x K hK => ?_) ?_
            rotate_left
            · go_big_quiet_op
              exact hK
            refine done (by kernel_rfl) (fun xr => ?_)
            have BX := Lib.hid (B.out.trans xr.bw)
            replace hc := Lib.hid hc
            replace hc2 := Lib.hid hc2
            clear d2 d3 d4 d l3 ly la e1
            go_wp2_with fail
            go_roundg (n - (k + 1))
            case measure => omega
            case rel => exact ⟨k + 1, rfl, by omega, by rw [hks.out], by push_cast; rfl, BX⟩
          · rw [if_neg (fun h => hc2 h.2)] at hks
            have d4 : decide (cl L a ≤ cl L k) = false := by simpa using hc2
            go_upto_region 5 with (fail)
            have l3 := fun x : LaterS [] wr => x.cell z3 (by simp)
            have ly := fun x : LaterS [] wr => x.cell y1 (by simp)
            have la := fun x : LaterS [] wr => x.cell y2 (by simp)
            clear y1 z3 y2
            refine wp_region_gg [] [] [] (by kernel_rfl) ?_
            refine hoist [] [] (a1 := ?_) 0 rfl (by kernel_rfl) (.inl ⟨rfl, rfl⟩) rfl rfl rfl (fun x K hK => ?_) ?_
            rotate_left
            · go_big_quiet_op
              exact hK
            refine hoist [] [] (a1 := ?_) 1 rfl (by kernel_rfl) (.inl ⟨rfl, rfl⟩) rfl rfl rfl (fun x K hK => ?_) ?_
            rotate_left
            · go_big_quiet_op
              exact hK
            refine hoist [] [] (a1 := ?_) 2 rfl (by kernel_rfl) (.inl ⟨rfl, rfl⟩) rfl rfl rfl (fun x K hK => ?_) ?_
            rotate_left
            · go_big_quiet_op
              exact hK
            refine hoist [] [] (a1 := ?_) 3 rfl (by kernel_rfl) (.inl ⟨rfl, rfl⟩) rfl rfl rfl (fun x K hK => ?_) ?_
            rotate_left
            · go_big_quiet_op
              exact hK
            refine hoist [] [] (a1 := ?_) 4 rfl (by kernel_rfl) (.inl ⟨rfl, rfl⟩) rfl rfl rfl (fun x K hK => ?_) ?_
            rotate_left
            · go_big_quiet_op
              exact hK
            refine hoist [] [] (a1 := ?_) 5 rfl (by kernel_rfl) (.inl ⟨rfl, rfl⟩) rfl rfl rfl (fun x K hK => ?_) ?_
            rotate_left
            · go_big_quiet_op
              exact hK
            refine hoist [] [] (a1 := ?_) 6 rfl (by kernel_rfl) (.inl ⟨rfl, rfl⟩) rfl rfl rfl (fun x K hK => ?_) ?_
            rotate_left
            · go_big_quiet_op
              exact hK
            refine hoist [] [] (a1 := ?_) 7 rfl (by kernel_rfl) (.inl ⟨rfl, rfl⟩) rfl rfl rfl (fun x K hK => ?_) ?_
            rotate_left
            · go_big_quiet_op
              exact hK
            refine hoist [] [] (a1 := ?_) 8 rfl (by kernel_rfl) (.inl ⟨rfl, rfl⟩) rfl rfl rfl (fun x K hK => ?_) ?_
            rotate_left
            · go_big_quiet_op
              exact hK
            refine hoist [] [] (a1 := ?_) 9 rfl (by kernel_rfl) (.inl ⟨rfl, rfl⟩) rfl rfl rfl (fun x K hK => ?_) ?_
            rotate_left
            · go_big_quiet_op
              exact hK
            refine hoist [] [] (a1 := ?_) 10 rfl (by kernel_rfl) (.inl ⟨rfl, rfl⟩) rfl rfl rfl (fun x K hK => ?_) ?_
            rotate_left
            · go_big_quiet_op
              exact hK
            refine hoist [] [] (a1 := ?_) 11 rfl (by kernel_rfl) (.inl ⟨rfl, rfl⟩) rfl rfl rfl (fun x K hK => ?_) ?_
            rotate_left
            · go_big_quiet_op
              exact hK
            refine hoist [] [] (a1 := ?_) 12 rfl (by kernel_rfl) (.inl ⟨rfl, rfl⟩) rfl rfl rfl (fun x K hK => ?_) ?_
            rotate_left
            · go_big_quiet_op
              exact hK
            refine hoist [] [] (a1 := ?_) 13 rfl (by kernel_rfl) (.inl ⟨rfl, rfl⟩) rfl rfl rfl (fun x K hK => ?_) ?_
            rotate_left
            · go_big_quiet_op
              exact hK
            refine hoist [] [] (a1 := ?_) 14 rfl (by kernel_rfl) (.inl ⟨rfl, rfl⟩) rfl rfl rfl (fun x K hK => ?_) ?_
            rotate_left
            · go_big_quiet_op
              exact hK
            refine hoist [] [] (a1 := ?_) 15 rfl (by kernel_rfl) (.inl ⟨rfl, rfl⟩) rfl rfl rfl (fun x K hK => ?_) ?_
            rotate_left
            · go_big_quiet_op
              exact hK
            refine hoist [] [] (a1 := ?_) 16 rfl (by kernel_rfl) (.inl ⟨rfl, rfl⟩) rfl rfl rfl (fun x K hK => ?_) ?_
            rotate_left
            · go_big_quiet_op
              exact hK
            refine hoist [] [] (a1 := ?_) 17 rfl (by kernel_rfl) (.inl ⟨rfl, rfl⟩) rfl rfl rfl (fun x K hK => ?_) ?_
            rotate_left
            · go_big_quiet_op
              exact hK
            refine hoist [] [] (a1 := ?_) 18 rfl (by kernel_rfl) (.inl ⟨rfl, rfl⟩) rfl rfl rfl (fun x K hK => ?_) ?_
            rotate_left
            · go_big_quiet_op
              exact hK
            refine hoist [] [] (a1 := ?_) 19 rfl (by kernel_rfl) (.inl ⟨rfl, rfl⟩) rfl rfl rfl (fun x K hK => ?_) ?_
            rotate_left
            · go_big_quiet_op
              exact hK
            refine hoist [] [] (a1 := ?_) 20 rfl (by kernel_rfl) (.inl ⟨rfl, rfl⟩) rfl rfl rfl (fun x K hK => ?_) ?_
            rotate_left
            · go_big_quiet_op
              exact hK
            refine hoist [] [] (a1 := ?_) 21 rfl (by kernel_rfl) (.inl ⟨rfl, rfl⟩) rfl rfl rfl (fun x K hK => ?_) ?_
            rotate_left
            · go_big_quiet_op
              exact hK
            refine hoist [] [] (a1 := ?_) 22 rfl (by kernel_rfl) (.inl ⟨rfl, rfl⟩) rfl rfl rfl (fun x K hK => ?_) ?_
            rotate_left
            · go_big_quiet_op
              exact hK
            refine hoist [] [] (a1 := ?_) 23 rfl (by kernel_rfl) (.inl ⟨rfl, rfl⟩) rfl rfl rfl (fun x K hK => ?_) ?_
            rotate_left
            · go_big_quiet_op
              exact hK
            refine hoist [] [] (a1 := ?_) 24 rfl (by kernel_rfl) (.inl ⟨rfl, rfl⟩) rfl rfl rfl (fun x K hK => ?_) ?_
            rotate_left
            · go_big_quiet_op
              exact hK
            refine hoist [] [] (a1 := ?_) 25 rfl (by kernel_rfl) (.inl ⟨rfl, rfl⟩) rfl rfl rfl (fun x K hK => ?_) ?_
            rotate_left
            · go_big_quiet_op
              exact hK
            refine hoist [] [] (a1 := ?_) 26 rfl (by kernel_rfl) (.inl ⟨rfl, rfl⟩) rfl rfl rfl (fun x K hK => ?_) ?_
            rotate_left
            · go_big_quiet_op
              exact hK
            refine hoist [] [] (a1 := ?_) 27 rfl (by kernel_rfl) (.inl ⟨rfl, rfl⟩) rfl rfl rfl (fun x K hK => ?_) ?_
            rotate_left
            · go_big_quiet_op
              exact hK
            refine hoist [] [] (a1 := ?_) 28 rfl (by kernel_rfl) (.inl ⟨rfl, rfl⟩) rfl rfl rfl (fun x K hK => ?_) ?_
            rotate_left
            · go_big_quiet_op
              exact hK
            refine hoist [] [] (a1 := ?_) 29 rfl (by kernel_rfl) (.inl ⟨rfl, rfl⟩) rfl rfl rfl (fun x K hK => ?_) ?_
            rotate_left
            · go_big_quiet_op
              exact hK
            refine hoist [] [] (a1 := ?_) 30 rfl (by kernel_rfl) (.inl ⟨rfl, rfl⟩) rfl rfl rfl (fun x K hK => ?_) ?_
            rotate_left
            · go_big_quiet_op
              exact hK
            refine hoist [] [] (a1 := ?_) 31 rfl (by kernel_rfl) (.inl ⟨rfl, rfl⟩) rfl rfl rfl (fun x K hK => ?_) ?_
            rotate_left
            · go_big_quiet_op
              exact hK
            refine hoist [] [] (a1 := ?_) 32 rfl (by kernel_rfl) (.inl ⟨rfl, rfl⟩) rfl rfl rfl (fun x K hK => ?_) ?_
            rotate_left
            · go_big_quiet_op
              exact hK
            refine done (by kernel_rfl) (fun xr => ?_)
            have BX := Lib.hid (B.out.trans xr.bw)
            replace hc := Lib.hid hc
            replace hc2 := Lib.hid hc2
            clear d2 d3 d4 d l3 ly la e1
            go_wp2_with fail
            go_roundg (n - (k + 1))
            case measure => omega
            case rel => exact ⟨k + 1, rfl, by omega, by rw [hks.out], by push_cast; rfl, BX⟩
        · rw [if_neg (fun h => hc h.1)] at hks
          have d2 : decide (above < cl L k) = false := by simpa using hc
          go_upto_region 5 with (fail)
          have l3 := fun x : LaterS [] wr => x.cell z3 (by simp)
          have ly := fun x : LaterS [] wr => x.cell y1 (by simp)
          clear y1 z3 y2
          refine wp_region_gg [] [] [] (by kernel_rfl) ?_
          refine hoist [] [] (a1 := ?_) 0 rfl (by kernel_rfl) (.inl ⟨rfl, rfl⟩) rfl rfl rfl (fun x K hK => ?_) ?_
          rotate_left
          · go_big_quiet_op
            exact hK
          refine hoist [] [] (a1 := ?_) 1 rfl (by kernel_rfl) (.inl ⟨rfl, rfl⟩) rfl rfl rfl (fun x K hK => ?_) ?_
          rotate_left
          · go_big_quiet_op
            exact hK
          refine hoist [] [] (a1 := ?_) 2 rfl (by kernel_rfl) (.inl ⟨rfl, rfl⟩) rfl rfl rfl (fun x K hK => ?_) ?_
          rotate_left
          · go_big_quiet_op
            exact hK
          refine hoist [] [] (a1 := ?_) 3 rfl (by kernel_rfl) (.inl ⟨rfl, rfl⟩) rfl rfl rfl (fun x K hK => ?_) ?_
          rotate_left
          · go_big_quiet_op
            exact hK
          refine hoist [] [] (a1 := ?_) 4 rfl (by kernel_rfl) (.inl ⟨rfl, rfl⟩) rfl rfl rfl (fun x K hK => ?_) ?_
          rotate_left
          · go_big_quiet_op
            exact hK
          refine hoist [] [] (a1 := ?_) 5 rfl (by kernel_rfl) (.inl ⟨rfl, rfl⟩) rfl rfl rfl (fun x K hK => ?_) ?_
          rotate_left
          · go_big_quiet_op
            exact hK
          refine hoist [] [] (a1 := ?_) 6 rfl (by kernel_rfl) (.inl ⟨rfl, rfl⟩) rfl rfl rfl (fun x K hK => ?_) ?_
          rotate_left
          · go_big_quiet_op
            exact hK
          refine hoist [] [] (a1 := ?_) 7 rfl (by kernel_rfl) (.inl ⟨rfl, rfl⟩) rfl rfl rfl (fun x K hK => ?_) ?_
          rotate_left
          · go_big_quiet_op
            exact hK
          refine hoist [] [] (a1 := ?_) 8 rfl (by kernel_rfl) (.inl ⟨rfl, rfl⟩) rfl rfl rfl (fun x K hK => ?_) ?_
          rotate_left
          · go_big_quiet_op
            exact hK
          refine hoist [] [] (a1 := ?_) 9 rfl (by kernel_rfl) (.inl ⟨rfl, rfl⟩) rfl rfl rfl (fun x K hK => ?_) ?_
          rotate_left
          · go_big_quiet_op
            exact hK
          refine hoist [] [] (a1 := ?_) 10 rfl (by kernel_rfl) (.inl ⟨rfl, rfl⟩) rfl rfl rfl (fun x K hK => ?_) ?_
          rotate_left
          · go_big_quiet_op
            exact hK
          refine hoist_skip [] [] 11 rfl (by kernel_rfl) (.inl ⟨rfl, rfl⟩) rfl (a1 := ?_) ?_ ?_
          rotate_left
          · simp only [Act.put, List.setIfInBounds_toArray, List.set_cons_succ, List.set_cons_zero]; rfl
          refine hoist_skip [] [] 12 rfl (by kernel_rfl) (.inl ⟨rfl, rfl⟩) rfl (a1 := ?_) ?_ ?_
          rotate_left
          · simp only [Act.put, List.setIfInBounds_toArray, List.set_cons_succ, List.set_cons_zero]; rfl
          refine hoist_skip [] [] 13 rfl (by kernel_rfl) (.inl ⟨rfl, rfl⟩) rfl (a1 := ?_) ?_ ?_
          rotate_left
          · simp only [Act.put, List.setIfInBounds_toArray, List.set_cons_succ, List.set_cons_zero]; rfl
          refine hoist_skip [] [] 14 rfl (by kernel_rfl) (.inl ⟨rfl, rfl⟩) rfl (a1 := ?_) ?_ ?_
          rotate_left
          · simp only [Act.put, List.setIfInBounds_toArray, List.set_cons_succ, List.set_cons_zero]; rfl
          refine hoist_skip [] [] 15 rfl (by kernel_rfl) (.inl ⟨rfl, rfl⟩) rfl (a1 := ?_) ?_ ?_
          rotate_left
          · simp only [Act.put, List.setIfInBounds_toArray, List.set_cons_succ, List.set_cons_zero]; rfl
          refine hoist_skip [] [] 16 rfl (by kernel_rfl) (.inl ⟨rfl, rfl⟩) rfl (a1 := ?_) ?_ ?_
          rotate_left
          · simp only [Act.put, List.setIfInBounds_toArray, List.set_cons_succ, List.set_cons_zero]; rfl
          refine hoist_skip [] [] 17 rfl (by kernel_rfl) (.inl ⟨rfl, rfl⟩) rfl (a1 := ?_) ?_ ?_
          rotate_left
          · simp only [Act.put, List.setIfInBounds_toArray, List.set_cons_succ, List.set_cons_zero]; rfl
          refine hoist_skip [] [] 18 rfl (by kernel_rfl) (.inl ⟨rfl, rfl⟩) rfl (a1 := ?_) ?_ ?_
          rotate_left
          · simp only [Act.put, List.setIfInBounds_toArray, List.set_cons_succ, List.set_cons_zero]; rfl
          refine hoist_skip [] [] 19 rfl (by kernel_rfl) (.inl ⟨rfl, rfl⟩) rfl (a1 := ?_) ?_ ?_
          rotate_left
          · simp only [Act.put, List.setIfInBounds_toArray, List.set_cons_succ, List.set_cons_zero]; rfl
          refine hoist_skip [] [] 20 rfl (by kernel_rfl) (.inl ⟨rfl, rfl⟩) rfl (a1 := ?_) ?_ ?_
          rotate_left
          · simp only [Act.put, List.setIfInBounds_toArray, List.set_cons_succ, List.set_cons_zero]; rfl
          refine hoist_skip [] [] 21 rfl (by kernel_rfl) (.inl ⟨rfl, rfl⟩) rfl (a1 := ?_) ?_ ?_
          rotate_left
          · simp only [Act.put, List.setIfInBounds_toArray, List.set_cons_succ, List.set_cons_zero]; rfl
          refine hoist_skip [] [] 22 rfl (by kernel_rfl) (.inl ⟨rfl, rfl⟩) rfl (a1 := ?_) ?_ ?_
          rotate_left
          · simp only [Act.put, List.setIfInBounds_toArray, List.set_cons_succ, List.set_cons_zero]; rfl
          refine hoist_skip [] [] 23 rfl (by kernel_rfl) (.inl ⟨rfl, rfl⟩) rfl (a1 := ?_) ?_ ?_
          rotate_left
          · simp only [Act.put, List.setIfInBounds_toArray, List.set_cons_succ, List.set_cons_zero]; rfl
          refine hoist_skip [] [] 24 rfl (by kernel_rfl) (.inl ⟨rfl, rfl⟩) rfl (a1 := ?_) ?_ ?_
          rotate_left
          · simp only [Act.put, List.setIfInBounds_toArray, List.set_cons_succ, List.set_cons_zero]; rfl
          refine hoist_skip [] [] 25 rfl (by kernel_rfl) (.inl ⟨rfl, rfl⟩) rfl (a1 := ?_) ?_ ?_
          rotate_left
          · simp only [Act.put, List.setIfInBounds_toArray, List.set_cons_succ, List.set_cons_zero]; rfl
          refine hoist_skip [] [] 26 rfl (by kernel_rfl) (.inl ⟨rfl, rfl⟩) rfl (a1 := ?_) ?_ ?_
          rotate_left
          · simp only [Act.put, List.setIfInBounds_toArray, List.set_cons_succ, List.set_cons_zero]; rfl
          refine hoist_skip [] [] 27 rfl (by kernel_rfl) (.inl ⟨rfl, rfl⟩) rfl (a1 := ?_) ?_ ?_
          rotate_left
          · simp only [Act.put, List.setIfInBounds_toArray, List.set_cons_succ, List.set_cons_zero]; rfl
          refine hoist_skip [] [] 28 rfl (by kernel_rfl) (.inl ⟨rfl, rfl⟩) rfl (a1 := ?_) ?_ ?_
          rotate_left
          · simp only [Act.put, List.setIfInBounds_toArray, List.set_cons_succ, List.set_cons_zero]; rfl
          refine hoist_skip [] [] 29 rfl (by kernel_rfl) (.inl ⟨rfl, rfl⟩) rfl (a1 := ?_) ?_ ?_
          rotate_left
          · simp only [Act.put, List.setIfInBounds_toArray, List.set_cons_succ, List.set_cons_zero]; rfl
          refine hoist_skip [] [] 30 rfl (by kernel_rfl) (.inl ⟨rfl, rfl⟩) rfl (a1 := ?_) ?_ ?_
          rotate_left
          · simp only [Act.put, List.setIfInBounds_toArray, List.set_cons_succ, List.set_cons_zero]; rfl
          refine hoist_skip [] [] 31 rfl (by kernel_rfl) (.inl ⟨rfl, rfl⟩) rfl (a1 := ?_) ?_ ?_
          rotate_left
          · simp only [Act.put, List.setIfInBounds_toArray, List.set_cons_succ, List.set_cons_zero]; rfl
          refine hoist [] [] (a1 := ?_) 32 rfl (by kernel_rfl) (.inl ⟨rfl, rfl⟩) rfl rfl rfl (fun x K hK => ?_) ?_
          rotate_left
          · go_big_quiet_op
            exact hK
          refine done (by kernel_rfl) (fun xr => ?_)
          have BX := Lib.hid (B.out.trans xr.bw)
          replace hc := Lib.hid hc
          clear d2 d3 d l3 ly e1
          go_wp2_with fail
          go_roundg (n - (k + 1))
          case measure => omega
          case rel => exact ⟨k + 1, rfl, by omega, by rw [hks.out], by push_cast; rfl, BX⟩
    · obtain rfl : k = n := by omega
      have d : decide ((k : Int) < (k : Int)) = false := by simp
      go_wp2_with fail
      go_ret
      exact ⟨rfl, B.out⟩

set_option maxRecDepth 100000 in
set_option maxHeartbeats 8000000 in
theorem rdrop_any (base g : Nat) (bp : Value) (pk by_ : Int) (v : Value) (L : PL) (gone at_ : Nat) (w : World) (h : RpV w base g bp pk by_ v L gone) (hl : L.length ≤ 1000000) (hbase : base ≤ w.heap.size) (hat : at_ < L.length) :
    Calls Try.prog 69 #[.pointer (some ⟨g, 0, none⟩), .int .i64 (at_ : Nat)] w fun e w' => e = .returned (.tuple #[]) ∧ (∃ v', RpV w' base g bp pk by_ v' (L.eraseIdx at_) gone ∧ ∀ k, v'.ownBlock = some k → w.heap.size ≤ k) ∧ Still [g] w w' := by
  obtain ⟨sv, cv, rfl, hnc, hmc⟩ := h.pq.len
  have hH := Lib.hid h
  unfold maxLen at hmc
  have hgw := HpB.lt h.cells
  clear h
  generalize hn : L.length = n at *
  replace hn := Lib.hid hn
  go_enter Try.func69, Try.ntmps69
  go_upto_region 2 with (fail)
  go_loopg [4, 5] n (fun m' s i wx => ∃ (k m : Nat) (s4 : Option Addr) (c4 : Nat), m' = n - k ∧ k ≤ n ∧ s = .slice s4 m c4 ∧ c4 ≤ 9223372036854775807 ∧ m ≤ k ∧ i = .int .i64 (k : Nat) ∧ Hid (PQ wx base (.slice s4 m c4) m ((L.take k).eraseIdx at_)) ∧ Hid (∀ j, (Value.slice s4 m c4).ownBlock = some j → w.heap.size ≤ j) ∧ Hid (BW w wx))
  case atStart => exact ⟨0, 0, none, 0, by omega, by omega, rfl, by omega, by omega, rfl, PQ.nil _ _, (fun j hj => by cases hj), BW.refl _⟩
  case round =>
    obtain ⟨k, m, s4, c4, rfl, hk, rfl, hc4, hmk, rfl, Q, F, B⟩ := hrel
    have hHr := Lib.hid (hH.out.bw B.out)
    have z3 : wr.cell? ⟨g, 3, none⟩ = some (.slice sv n cv) := hp_cell hHr.out.cells 3
    by_cases hkn : k < n
    · have d : decide ((k : Int) < (n : Int)) = true := by simp; omega
      have her := er_succ L at_ k (by rw [hn.out]; exact hkn)
      obtain ⟨g1, o1, c1, hsl, _, _, _, _, hce⟩ := hHr.out.pq.form (by rw [hn.out]; omega)
      simp only [Value.slice.injEq] at hsl
      obtain ⟨rfl, -, rfl⟩ := hsl
      obtain ⟨u1, y1, y2, y3⟩ := hce k (by rw [hn.out]; exact hkn)
      rw [← Nat.add_assoc] at y2
      obtain ⟨su, cu, rfl, _, _⟩ := y3.len
      clear hce
      by_cases hka : k = at_
      · have d2 : ((k : Int) != (at_ : Int)) = false := by simp; omega
        rw [if_pos hka] at her
        rw [← her] at Q
        replace her := Lib.hid her
        replace hka := Lib.hid hka
        replace y3 := Lib.hid y3
        go_wp2_with fail
        go_roundg (n - (k + 1))
        case measure => omega
        case rel => exact ⟨k + 1, m, s4, c4, rfl, by omega, rfl, hc4, by omega, by push_cast; rfl, Q, F, B⟩
      · have d2 : ((k : Int) != (at_ : Int)) = true := by simp; omega
        rw [if_neg hka] at her
        generalize hcl : (L[k]'(by rw [hn.out]; exact hkn)) = p at *
        obtain ⟨c, x⟩ := p
        dsimp only at y1 y2 y3
        have BA : BW wr (wr.alloc (.cells #[.int .i64 c, .slice su x.length cu] 43)) := (BW.refl _).alloc
        have L5 := Lib.hid (Sls.pace wr c (.slice su x.length cu))
        have Q5 := Lib.hid (Q.out.bw BA)
        have U5 := Lib.hid (y3.bw BA)
        have B5 := Lib.hid (B.out.trans BA)
        have hz5 := Nat.le_trans hbase B5.out.size
        generalize hbl : x.length = bl at *
        have U6 := Lib.hid (show OB _ base 5 (.slice su bl cu) x.length x from by rw [hbl]; exact U5.out)
        replace hbl := Lib.hid hbl
        replace her := Lib.hid her
        replace hka := Lib.hid hka
        replace y3 := Lib.hid y3
        replace hcl := Lib.hid hcl
        clear BA
        go_wp2_with (at_builtin; go_must (refine wpList_apPc rfl _ _ rfl base (.slice s4 m c4) m _ rfl Q5.out _ rfl c (.slice su bl cu) x L5.out U6.out (by omega) hz5 ?_; intro s6 c6 w6 hc6 hm6 O6 T6 hb6 G6; unfold maxLen at hm6; replace O6 := Lib.hid O6; replace T6 := Lib.hid T6; replace G6 := Lib.hid G6; clear hb6))
        have F6 : ∀ j, (Value.slice s6 (m + 1) c6).ownBlock = some j → w.heap.size ≤ j := fun j h1 => by
          rcases G6.out j h1 with h2 | h2
          · exact F.out j h2
          · exact Nat.le_trans B5.out.size h2
        have B6 := Lib.hid (BW.stP B5.out T6.out (fun j hj => F.out j (by simpa using hj)))
        have O7 : Hid (PQ w6 base (.slice s6 (m + 1) c6) (m + 1) ((L.take (k + 1)).eraseIdx at_)) := Lib.hid (by rw [her.out]; exact O6.out)
        clear O6 U5 U6 L5 Q5 T6 G6 y1 y2 z3
        replace F6 := Lib.hid F6
        go_wp2_with fail
        go_roundg (n - (k + 1))
        case measure => omega
        case rel => exact ⟨k + 1, m + 1, s6, c6, rfl, by omega, rfl, hm6, by omega, by push_cast; rfl, O7, F6, B6⟩
    · obtain rfl : k = n := by omega
      have d : decide ((k : Int) < (k : Int)) = false := by simp
      rw [List.take_of_length_le (by rw [hn.out]; exact Nat.le_refl _)] at Q
      have hle : (L.eraseIdx at_).length = m := Q.out.1
      have hQ2 : PQ wr base (.slice s4 m c4) (L.eraseIdx at_).length (L.eraseIdx at_) := by rw [hle]; exact Q.out
      have H3 := Lib.hid (hHr.out.setL (.slice s4 m c4) _ hQ2)
      have y3 := hp_frz hHr.out.cells 3
      have T3 := Lib.hid ((B.out.still [g]).trans (still_setCP wr g 3 (.slice s4 m c4)))
      replace hle := Lib.hid hle
      replace hQ2 := Lib.hid hQ2
      go_wp2_with fail
      go_end0
      exact ⟨rfl, ⟨_, H3.out, F.out⟩, T3.out⟩
end Go.Proofs.Ytgiajnfmjpdodaa
