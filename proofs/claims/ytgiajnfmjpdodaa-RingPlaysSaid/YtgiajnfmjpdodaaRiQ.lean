/- The reference's ring: At, Size, Least, drop. No condition but the sizes'. -/
import Derived.Test.YtgiajnfmjpdodaaRiP
import Derived.Test.YtgiajnfmjpdodaaRiF
namespace Go.Proofs.Ytgiajnfmjpdodaa
open Go.RowKit

theorem bstr_size (l : List Nat) : (bstr l).size = l.length := by unfold bstr; rw [strOfNums_size, List.length_map]
/-- Texts of bytes. -/
def S1 : Elt (List Nat) where
  size := 1
  R := fun _ _ a c => c = [.string (bstr a)]
  Ok := fun _ _ => True
  pos := by decide
  len := fun e => by rw [e]; rfl
  one := fun e u hu => by rw [e] at hu; simp at hu; rw [hu]; rfl
  bw := fun e _ => e
  up := fun e _ => e
  still := fun e _ _ => e
  old := fun e _ _ => e
theorem slStr : SlTy Try.prog 78 9 1 16 := SlTy.mk' Try.underlying78 (by kernel_rfl) (by decide)
theorem s1_form {T : TypeId} {w : World} {base : Nat} {sv : Option Addr} {n cap : Nat} {L : List (List Nat)} (h : EQ S1 T w base (.slice sv n cap) n L) (h0 : 0 < n) :
    ∃ g o, sv = some ⟨g, o, none⟩ ∧ ∀ i (hi : i < L.length), w.cell? ⟨g, o + i, none⟩ = some (.string (bstr L[i])) := by
  obtain ⟨g, o, cap', hsl, _, _, _, _, hce⟩ := h.form h0
  simp only [Value.slice.injEq] at hsl
  refine ⟨g, o, hsl.1, fun i hi => ?_⟩
  obtain ⟨c, hc, hcc⟩ := hce i hi
  have hc' : c = [.string (bstr L[i])] := hc
  have z0 := hcc 0 (by decide)
  have e2 : S1.size = 1 := rfl
  rw [hc', e2, Nat.mul_one] at z0
  exact z0
structure RefV (w : World) (base g : Nat) (pk by_ : Int) (vi vb : Value) (M : PL) : Prop where
  cells : HpB w g (.cells #[.int .i64 pk, .int .i64 by_, vi, vb] 80)
  qi : EQ I1 2 w base vi M.length (M.map Prod.fst)
  qb : EQ S1 9 w base vb M.length (M.map Prod.snd)
theorem RefV.bw {w w' : World} {base g : Nat} {pk by_ : Int} {vi vb : Value} {M : PL} (h : RefV w base g pk by_ vi vb M) (hb : BW w w') : RefV w' base g pk by_ vi vb M := ⟨h.cells.bw hb, h.qi.bw hb, h.qb.bw hb⟩
theorem RefV.i_form {w : World} {base g : Nat} {pk by_ : Int} {sv : Option Addr} {n cap : Nat} {vb : Value} {M : PL} (h : RefV w base g pk by_ (.slice sv n cap) vb M) (hn : M.length = n) (h0 : 0 < n) : ∃ b o, sv = some ⟨b, o, none⟩ ∧ ∀ i, i < n → w.cell? ⟨b, o + i, none⟩ = some (.int .i64 (cl M i)) := by
  subst hn
  obtain ⟨b, o, e, hc⟩ := i1_form h.qi h0
  refine ⟨b, o, e, fun i hi => ?_⟩
  have := hc i (by simpa using hi)
  rw [List.getElem_map, ← cl_get hi] at this
  exact this
theorem RefV.b_form {w : World} {base g : Nat} {pk by_ : Int} {sv : Option Addr} {n cap : Nat} {vi : Value} {M : PL} (h : RefV w base g pk by_ vi (.slice sv n cap) M) (hn : M.length = n) (h0 : 0 < n) : ∃ b o, sv = some ⟨b, o, none⟩ ∧ ∀ i (hi : i < M.length), w.cell? ⟨b, o + i, none⟩ = some (.string (bstr (M[i]).2)) := by
  subst hn
  obtain ⟨b, o, e, hc⟩ := s1_form h.qb h0
  refine ⟨b, o, e, fun i hi => ?_⟩
  have := hc i (by simpa using hi)
  rw [List.getElem_map] at this
  exact this
set_option maxRecDepth 100000 in
set_option maxHeartbeats 8000000 in
theorem rat_any (base g : Nat) (pk by_ : Int) (vi vb : Value) (M : PL) (x : Int) (w : World) (h : RefV w base g pk by_ vi vb M) :
    Calls Try.prog 47 #[.pointer (some ⟨g, 0, none⟩), .int .i64 x] w fun e w' => e = .returned (.int .i64 (atI (atN M x))) ∧ w = w' := by
  obtain ⟨sv, cv, rfl, hnc, hmc⟩ := h.qi.len
  have z2 : w.cell? ⟨g, 2, none⟩ = some (.slice sv M.length cv) := hp_cell h.cells 2
  have hH := Lib.hid h
  unfold maxLen at hmc
  clear h
  generalize hn : M.length = n at *
  have hR : atR M x 0 n = atN M x := by unfold atN; rw [hn]
  generalize atN M x = R at *
  replace hn := Lib.hid hn
  replace hR := Lib.hid hR
  go_enter Try.func47, Try.ntmps47
  go_upto_region 2 with (fail)
  go_loopg [5] n (fun m' i wx => ∃ k : Nat, m' = n - k ∧ k ≤ n ∧ i = .int .i64 (k : Nat) ∧ Hid (atR M x k (n - k) = R) ∧ w = wx)
  case atStart => exact ⟨0, by omega, by omega, rfl, hR, rfl⟩
  case round =>
    clear hR
    obtain ⟨k, rfl, hk, rfl, hR, rfl⟩ := hrel
    by_cases hkn : k < n
    · have d : decide ((k : Int) < (n : Int)) = true := by simp; omega
      obtain ⟨b, o, rfl, hc⟩ := hH.out.i_form hn.out (by omega)
      have z0 := hc k hkn
      have hR2 : (if cl M k = x then some k else atR M x (k + 1) (n - (k + 1))) = R := by
        rw [← hR.out, show n - k = (n - (k + 1)) + 1 by omega]
        conv => rhs; unfold atR
      clear hc
      by_cases he : cl M k = x
      · have d2 : (cl M k == x) = true := by simpa using he
        rw [if_pos he] at hR2
        have hR3 : R = some k := hR2.symm
        replace he := Lib.hid he
        replace hR2 := Lib.hid hR2
        replace hR3 := Lib.hid hR3
        replace hR := Lib.hid hR
        go_wp2_with fail
        go_ret
        rw [hR3.out]
        exact ⟨rfl, rfl⟩
      · have d2 : (cl M k == x) = false := by simpa using he
        rw [if_neg he] at hR2
        replace he := Lib.hid he
        replace hR2 := Lib.hid hR2
        go_wp2_with fail
        go_roundg (n - (k + 1))
        case measure => omega
        case rel => exact ⟨k + 1, rfl, by omega, by push_cast; rfl, hR2, rfl⟩
    · obtain rfl : k = n := by omega
      have d : decide ((k : Int) < (k : Int)) = false := by simp
      have hR3 : R = none := by rw [← hR.out, Nat.sub_self]; rfl
      replace hR3 := Lib.hid hR3
      go_wp2_with fail
      go_ret
      rw [hR3.out]
      exact ⟨rfl, rfl⟩
set_option maxRecDepth 100000 in
set_option maxHeartbeats 8000000 in
theorem rsz_any (base g : Nat) (pk by_ : Int) (vi vb : Value) (M : PL) (w : World) (h : RefV w base g pk by_ vi vb M) (hl : lensL M ≤ 1000000000) :
    Calls Try.prog 50 #[.pointer (some ⟨g, 0, none⟩)] w fun e w' => e = .returned (.int .i64 (lensL M : Nat)) ∧ w = w' := by
  obtain ⟨sv, cv, rfl, hnc, hmc⟩ := h.qb.len
  have z3 : w.cell? ⟨g, 3, none⟩ = some (.slice sv M.length cv) := hp_cell h.cells 3
  have hH := Lib.hid h
  have hle := Lib.hid fun j => lensL_le M j
  unfold maxLen at hmc
  clear h
  generalize hn : M.length = n at *
  replace hn := Lib.hid hn
  go_enter Try.func50, Try.ntmps50
  go_upto_region 3 with (fail)
  go_loopg [3, 4] n (fun m' s i wx => ∃ k : Nat, m' = n - k ∧ k ≤ n ∧ s = .int .i64 (lensL (M.take k) : Nat) ∧ i = .int .i64 (k : Nat) ∧ w = wx)
  case atStart => exact ⟨0, by omega, by omega, rfl, rfl, rfl⟩
  case round =>
    obtain ⟨k, rfl, hk, rfl, rfl, rfl⟩ := hrel
    by_cases hkn : k < n
    · have d : decide ((k : Int) < (n : Int)) = true := by simp; omega
      obtain ⟨b, o, rfl, hc⟩ := hH.out.b_form hn.out (by omega)
      have z0 := hc k (by rw [hn.out]; exact hkn)
      have ht := lensL_take M k (by rw [hn.out]; exact hkn)
      have hl1 := hle.out (k + 1)
      have hsz : (bstr (M[k]'(by rw [hn.out]; exact hkn)).2).size = (M[k]'(by rw [hn.out]; exact hkn)).2.length := bstr_size _
      clear hc
      generalize hbs : bstr (M[k]'(by rw [hn.out]; exact hkn)).2 = bs at *
      generalize (M[k]'(by rw [hn.out]; exact hkn)).2.length = bl at *
      generalize hL1 : lensL (M.take (k + 1)) = L1 at *
      generalize lensL (M.take k) = L0 at *
      replace hL1 := Lib.hid hL1
      replace hbs := Lib.hid hbs
      have hu : (L0 : Int) + (bl : Int) ≤ 1000000000 := by omega
      replace ht := Lib.hid ht
      go_wp2_with fail
      go_roundg (n - (k + 1))
      case measure => omega
      case rel => exact ⟨k + 1, rfl, by omega, by rw [hL1.out, ht.out]; push_cast; rfl, by push_cast; rfl, rfl⟩
    · obtain rfl : k = n := by omega
      have d : decide ((k : Int) < (k : Int)) = false := by simp
      rw [List.take_of_length_le (by rw [hn.out]; exact Nat.le_refl _)]
      go_wp2_with fail
      go_ret
      exact ⟨rfl, rfl⟩
theorem leastR_succ (M : PL) (k : Nat) : leastR M (k + 1) = match leastR M k with
    | none => some k
    | some a => if cl M k < cl M a then some k else some a := rfl
set_option maxRecDepth 100000 in
set_option maxHeartbeats 8000000 in
theorem rleast_any (base g : Nat) (pk by_ : Int) (vi vb : Value) (M : PL) (w : World) (h : RefV w base g pk by_ vi vb M) :
    Calls Try.prog 84 #[.pointer (some ⟨g, 0, none⟩)] w fun e w' => e = .returned (.int .i64 (atI (leastR M M.length))) ∧ BW w w' := by
  obtain ⟨sv, cv, rfl, hnc, hmc⟩ := h.qi.len
  have z2 : w.cell? ⟨g, 2, none⟩ = some (.slice sv M.length cv) := hp_cell h.cells 2
  have hH := Lib.hid h
  have hsp := Lib.hid (leastR_spec M)
  unfold maxLen at hmc
  clear h
  have hsu := Lib.hid (leastR_succ M)
  generalize hn : M.length = n at *
  replace hn := Lib.hid hn
  replace z2 := Lib.hid z2
  go_enter Try.func84, Try.ntmps84
  go_upto_region 3 with (fail)
  go_loopg [3, 4] n (fun m' s i wx => ∃ k : Nat, m' = n - k ∧ k ≤ n ∧ s = .int .i64 (atI (leastR M k)) ∧ i = .int .i64 (k : Nat) ∧ Hid (BW w wx))
  case atStart => exact ⟨0, by omega, by omega, rfl, rfl, BW.refl _⟩
  case round =>
    obtain ⟨k, rfl, hk, rfl, rfl, B⟩ := hrel
    have z2 := B.out.cell z2.out
    by_cases hkn : k < n
    · have d : decide ((k : Int) < (n : Int)) = true := by simp; omega
      have hks := hsu.out k
      have hia := hsp.out k
      obtain ⟨b, o, rfl, hc⟩ := (hH.out.bw B.out).i_form hn.out (by omega)
      have y1 := hc k hkn
      replace hc := Lib.hid hc
      cases hl : leastR M k with
      | none =>
        rw [hl] at hks
        dsimp only at hks
        have e1 : atI none = -1 := rfl
        rw [e1]
        clear hia e1
        replace hks := Lib.hid hks
        replace hl := Lib.hid hl
        go_upto_region 5 with (fail)
        refine wp_region_gg [] [] [] (by kernel_rfl) ?_
        refine hoist [] [] (a1 := ?_) 0 rfl (by kernel_rfl) (.inl ⟨rfl, rfl⟩) rfl rfl rfl (fun x K hK => ?_) ?_
        rotate_left
        · go_big_quiet_op
          exact hK
        refine hoist [] [] (a1 := ?_) 1 rfl (by kernel_rfl) (.inl ⟨rfl, rfl⟩) rfl rfl rfl (fun x K hK => ?_) ?_
        rotate_left
        · go_big_quiet_op
          exact hK
        refine hoist [] [] (a1 := ?_) 2 rfl (by kernel_rfl) (.inl ⟨rfl, rfl⟩) rfl rfl rfl (fun x K hK => ?_) ?_
        rotate_left
        · go_big_quiet_op
          exact hK
        refine hoist_skip [] [] 3 rfl (by kernel_rfl) (.inl ⟨rfl, rfl⟩) rfl (a1 := ?_) ?_ ?_
        rotate_left
        · simp only [Act.put, List.setIfInBounds_toArray, List.set_cons_succ, List.set_cons_zero]; rfl
        refine hoist_skip [] [] 4 rfl (by kernel_rfl) (.inl ⟨rfl, rfl⟩) rfl (a1 := ?_) ?_ ?_
        rotate_left
        · simp only [Act.put, List.setIfInBounds_toArray, List.set_cons_succ, List.set_cons_zero]; rfl
        refine hoist_skip [] [] 5 rfl (by kernel_rfl) (.inl ⟨rfl, rfl⟩) rfl (a1 := ?_) ?_ ?_
        rotate_left
        · simp only [Act.put, List.setIfInBounds_toArray, List.set_cons_succ, List.set_cons_zero]; rfl
        refine hoist_skip [] [] 6 rfl (by kernel_rfl) (.inl ⟨rfl, rfl⟩) rfl (a1 := ?_) ?_ ?_
        rotate_left
        · simp only [Act.put, List.setIfInBounds_toArray, List.set_cons_succ, List.set_cons_zero]; rfl
        refine hoist_skip [] [] 7 rfl (by kernel_rfl) (.inl ⟨rfl, rfl⟩) rfl (a1 := ?_) ?_ ?_
        rotate_left
        · simp only [Act.put, List.setIfInBounds_toArray, List.set_cons_succ, List.set_cons_zero]; rfl
        refine hoist_skip [] [] 8 rfl (by kernel_rfl) (.inl ⟨rfl, rfl⟩) rfl (a1 := ?_) ?_ ?_
        rotate_left
        · simp only [Act.put, List.setIfInBounds_toArray, List.set_cons_succ, List.set_cons_zero]; rfl
        refine hoist_skip [] [] 9 rfl (by kernel_rfl) (.inl ⟨rfl, rfl⟩) rfl (a1 := ?_) ?_ ?_
        rotate_left
        · simp only [Act.put, List.setIfInBounds_toArray, List.set_cons_succ, List.set_cons_zero]; rfl
        refine hoist_skip [] [] 10 rfl (by kernel_rfl) (.inl ⟨rfl, rfl⟩) rfl (a1 := ?_) ?_ ?_
        rotate_left
        · simp only [Act.put, List.setIfInBounds_toArray, List.set_cons_succ, List.set_cons_zero]; rfl
        refine hoist_skip [] [] 11 rfl (by kernel_rfl) (.inl ⟨rfl, rfl⟩) rfl (a1 := ?_) ?_ ?_
        rotate_left
        · simp only [Act.put, List.setIfInBounds_toArray, List.set_cons_succ, List.set_cons_zero]; rfl
        refine hoist_skip [] [] 12 rfl (by kernel_rfl) (.inl ⟨rfl, rfl⟩) rfl (a1 := ?_) ?_ ?_
        rotate_left
        · simp only [Act.put, List.setIfInBounds_toArray, List.set_cons_succ, List.set_cons_zero]; rfl
        refine hoist_skip [] [] 13 rfl (by kernel_rfl) (.inl ⟨rfl, rfl⟩) rfl (a1 := ?_) ?_ ?_
        rotate_left
        · simp only [Act.put, List.setIfInBounds_toArray, List.set_cons_succ, List.set_cons_zero]; rfl
        refine hoist_skip [] [] 14 rfl (by kernel_rfl) (.inl ⟨rfl, rfl⟩) rfl (a1 := ?_) ?_ ?_
        rotate_left
        · simp only [Act.put, List.setIfInBounds_toArray, List.set_cons_succ, List.set_cons_zero]; rfl
        refine hoist_skip [] [] 15 rfl (by kernel_rfl) (.inl ⟨rfl, rfl⟩) rfl (a1 := ?_) ?_ ?_
        rotate_left
        · simp only [Act.put, List.setIfInBounds_toArray, List.set_cons_succ, List.set_cons_zero]; rfl
        refine hoist_skip [] [] 16 rfl (by kernel_rfl) (.inl ⟨rfl, rfl⟩) rfl (a1 := ?_) ?_ ?_
        rotate_left
        · simp only [Act.put, List.setIfInBounds_toArray, List.set_cons_succ, List.set_cons_zero]; rfl
        refine hoist_skip [] [] 17 rfl (by kernel_rfl) (.inl ⟨rfl, rfl⟩) rfl (a1 := ?_) ?_ ?_
        rotate_left
        · simp only [Act.put, List.setIfInBounds_toArray, List.set_cons_succ, List.set_cons_zero]; rfl
        refine hoist [] [] (a1 := ?_) 18 rfl (by kernel_rfl) (.inl ⟨rfl, rfl⟩) rfl rfl rfl (fun x K hK => ?_) ?_
        rotate_left
        · go_big_quiet_op
          exact hK
        refine done (by kernel_rfl) (fun xr => ?_)
        have BX := Lib.hid (B.out.trans xr.bw)
        clear y1 z2 d
        go_wp2_with fail
        go_roundg (n - (k + 1))
        case measure => omega
        case rel => exact ⟨k + 1, rfl, by omega, by rw [hks.out]; rfl, by push_cast; rfl, BX⟩
      | some a =>
        rw [hl] at hks hia
        dsimp only at hks
        have e1 : atI (some a) = (a : Nat) := rfl
        rw [e1]
        have ha : a < k := hia.1
        have y2 := hc.out a (by omega)
        have d3 : decide ((a : Int) < 0) = false := by simp
        clear hia e1
        by_cases hc2 : cl M k < cl M a
        · rw [if_pos hc2] at hks
          have d4 : decide (cl M k < cl M a) = true := by simpa using hc2
          replace hks := Lib.hid hks
          replace hl := Lib.hid hl
          replace hc2 := Lib.hid hc2
          go_upto_region 5 with (fail)
          have l3 := fun x : LaterS [] wr => x.cell z2 (by simp)
          have ly := fun x : LaterS [] wr => x.cell y1 (by simp)
          have la := fun x : LaterS [] wr => x.cell y2 (by simp)
          clear y1 y2 z2
          refine wp_region_gg [] [] [] (by kernel_rfl) ?_
          refine hoist [] [] (a1 := ?_) 0 rfl (by kernel_rfl) (.inl ⟨rfl, rfl⟩) rfl rfl rfl (fun x K hK => ?_) ?_
          rotate_left
          · go_big_quiet_op
            exact hK
          refine hoist [] [] (a1 := ?_) 1 rfl (by kernel_rfl) (.inl ⟨rfl, rfl⟩) rfl rfl rfl (fun x K hK => ?_) ?_
          rotate_left
          · go_big_quiet_op
            exact hK
          refine hoist [] [] (a1 := ?_) 2 rfl (by kernel_rfl) (.inl ⟨rfl, rfl⟩) rfl rfl rfl (fun x K hK => ?_) ?_
          rotate_left
          · go_big_quiet_op
            exact hK
          refine hoist [] [] (a1 := ?_) 3 rfl (by kernel_rfl) (.inl ⟨rfl, rfl⟩) rfl rfl rfl (fun x K hK => ?_) ?_
          rotate_left
          · go_big_quiet_op
            exact hK
          refine hoist [] [] (a1 := ?_) 4 rfl (by kernel_rfl) (.inl ⟨rfl, rfl⟩) rfl rfl rfl (fun x K hK => ?_) ?_
          rotate_left
          · go_big_quiet_op
            exact hK
          refine hoist [] [] (a1 := ?_) 5 rfl (by kernel_rfl) (.inl ⟨rfl, rfl⟩) rfl rfl rfl (fun x K hK => ?_) ?_
          rotate_left
          · go_big_quiet_op
            exact hK
          refine hoist [] [] (a1 := ?_) 6 rfl (by kernel_rfl) (.inl ⟨rfl, rfl⟩) rfl rfl rfl (fun x K hK => ?_) ?_
          rotate_left
          · go_big_quiet_op
            exact hK
          refine hoist [] [] (a1 := ?_) 7 rfl (by kernel_rfl) (.inl ⟨rfl, rfl⟩) rfl rfl rfl (fun x K hK => ?_) ?_
          rotate_left
          · go_big_quiet_op
            exact hK
          refine hoist [] [] (a1 := ?_) 8 rfl (by kernel_rfl) (.inl ⟨rfl, rfl⟩) rfl rfl rfl (fun x K hK => ?_) ?_
          rotate_left
          · go_big_quiet_op
            exact hK
          refine hoist [] [] (a1 := ?_) 9 rfl (by kernel_rfl) (.inl ⟨rfl, rfl⟩) rfl rfl rfl (fun x K hK => ?_) ?_
          rotate_left
          · go_big_quiet_op
            exact hK
          refine hoist [] [] (a1 := ?_) 10 rfl (by kernel_rfl) (.inl ⟨rfl, rfl⟩) rfl rfl rfl (fun x K hK => ?_) ?_
          rotate_left
          · go_big_quiet_op
            exact hK
          refine hoist [] [] (a1 := ?_) 11 rfl (by kernel_rfl) (.inl ⟨rfl, rfl⟩) rfl rfl rfl (fun x K hK => ?_) ?_
          rotate_left
          · go_big_quiet_op
            exact hK
          refine hoist [] [] (a1 := ?_) 12 rfl (by kernel_rfl) (.inl ⟨rfl, rfl⟩) rfl rfl rfl (fun x K hK => ?_) ?_
          rotate_left
          · go_big_quiet_op
            exact hK
          refine hoist [] [] (a1 := ?_) 13 rfl (by kernel_rfl) (.inl ⟨rfl, rfl⟩) rfl rfl rfl (fun x K hK => ?_) ?_
          rotate_left
          · go_big_quiet_op
            exact hK
          refine hoist [] [] (a1 := ?_) 14 rfl (by kernel_rfl) (.inl ⟨rfl, rfl⟩) rfl rfl rfl (fun x K hK => ?_) ?_
          rotate_left
          · go_big_quiet_op
            exact hK
          refine hoist [] [] (a1 := ?_) 15 rfl (by kernel_rfl) (.inl ⟨rfl, rfl⟩) rfl rfl rfl (fun x K hK => ?_) ?_
          rotate_left
          · go_big_quiet_op
            exact hK
          refine hoist [] [] (a1 := ?_) 16 rfl (by kernel_rfl) (.inl ⟨rfl, rfl⟩) rfl rfl rfl (fun x K hK => ?_) ?_
          rotate_left
          · go_big_quiet_op
            exact hK
          refine hoist [] [] (a1 := ?_) 17 rfl (by kernel_rfl) (.inl ⟨rfl, rfl⟩) rfl rfl rfl (fun x K hK => ?_) ?_
          rotate_left
          · go_big_quiet_op
            exact hK
          refine hoist [] [] (a1 := ?_) 18 rfl (by kernel_rfl) (.inl ⟨rfl, rfl⟩) rfl rfl rfl (fun x K hK => ?_) ?_
          rotate_left
          · go_big_quiet_op
            exact hK
          refine done (by kernel_rfl) (fun xr => ?_)
          have BX := Lib.hid (B.out.trans xr.bw)
          clear d3 d4 d l3 ly la
          go_wp2_with fail
          go_roundg (n - (k + 1))
          case measure => omega
          case rel => exact ⟨k + 1, rfl, by omega, by rw [hks.out]; rfl, by push_cast; rfl, BX⟩
        · rw [if_neg hc2] at hks
          have d4 : decide (cl M k < cl M a) = false := by simpa using hc2
          replace hks := Lib.hid hks
          replace hl := Lib.hid hl
          replace hc2 := Lib.hid hc2
          go_upto_region 5 with (fail)
          have l3 := fun x : LaterS [] wr => x.cell z2 (by simp)
          have ly := fun x : LaterS [] wr => x.cell y1 (by simp)
          have la := fun x : LaterS [] wr => x.cell y2 (by simp)
          clear y1 y2 z2
          refine wp_region_gg [] [] [] (by kernel_rfl) ?_
          refine hoist [] [] (a1 := ?_) 0 rfl (by kernel_rfl) (.inl ⟨rfl, rfl⟩) rfl rfl rfl (fun x K hK => ?_) ?_
          rotate_left
          · go_big_quiet_op
            exact hK
          refine hoist [] [] (a1 := ?_) 1 rfl (by kernel_rfl) (.inl ⟨rfl, rfl⟩) rfl rfl rfl (fun x K hK => ?_) ?_
          rotate_left
          · go_big_quiet_op
            exact hK
          refine hoist [] [] (a1 := ?_) 2 rfl (by kernel_rfl) (.inl ⟨rfl, rfl⟩) rfl rfl rfl (fun x K hK => ?_) ?_
          rotate_left
          · go_big_quiet_op
            exact hK
          refine hoist [] [] (a1 := ?_) 3 rfl (by kernel_rfl) (.inl ⟨rfl, rfl⟩) rfl rfl rfl (fun x K hK => ?_) ?_
          rotate_left
          · go_big_quiet_op
            exact hK
          refine hoist [] [] (a1 := ?_) 4 rfl (by kernel_rfl) (.inl ⟨rfl, rfl⟩) rfl rfl rfl (fun x K hK => ?_) ?_
          rotate_left
          · go_big_quiet_op
            exact hK
          refine hoist [] [] (a1 := ?_) 5 rfl (by kernel_rfl) (.inl ⟨rfl, rfl⟩) rfl rfl rfl (fun x K hK => ?_) ?_
          rotate_left
          · go_big_quiet_op
            exact hK
          refine hoist [] [] (a1 := ?_) 6 rfl (by kernel_rfl) (.inl ⟨rfl, rfl⟩) rfl rfl rfl (fun x K hK => ?_) ?_
          rotate_left
          · go_big_quiet_op
            exact hK
          refine hoist [] [] (a1 := ?_) 7 rfl (by kernel_rfl) (.inl ⟨rfl, rfl⟩) rfl rfl rfl (fun x K hK => ?_) ?_
          rotate_left
          · go_big_quiet_op
            exact hK
          refine hoist [] [] (a1 := ?_) 8 rfl (by kernel_rfl) (.inl ⟨rfl, rfl⟩) rfl rfl rfl (fun x K hK => ?_) ?_
          rotate_left
          · go_big_quiet_op
            exact hK
          refine hoist [] [] (a1 := ?_) 9 rfl (by kernel_rfl) (.inl ⟨rfl, rfl⟩) rfl rfl rfl (fun x K hK => ?_) ?_
          rotate_left
          · go_big_quiet_op
            exact hK
          refine hoist [] [] (a1 := ?_) 10 rfl (by kernel_rfl) (.inl ⟨rfl, rfl⟩) rfl rfl rfl (fun x K hK => ?_) ?_
          rotate_left
          · go_big_quiet_op
            exact hK
          refine hoist [] [] (a1 := ?_) 11 rfl (by kernel_rfl) (.inl ⟨rfl, rfl⟩) rfl rfl rfl (fun x K hK => ?_) ?_
          rotate_left
          · go_big_quiet_op
            exact hK
          refine hoist [] [] (a1 := ?_) 12 rfl (by kernel_rfl) (.inl ⟨rfl, rfl⟩) rfl rfl rfl (fun x K hK => ?_) ?_
          rotate_left
          · go_big_quiet_op
            exact hK
          refine hoist [] [] (a1 := ?_) 13 rfl (by kernel_rfl) (.inl ⟨rfl, rfl⟩) rfl rfl rfl (fun x K hK => ?_) ?_
          rotate_left
          · go_big_quiet_op
            exact hK
          refine hoist [] [] (a1 := ?_) 14 rfl (by kernel_rfl) (.inl ⟨rfl, rfl⟩) rfl rfl rfl (fun x K hK => ?_) ?_
          rotate_left
          · go_big_quiet_op
            exact hK
          refine hoist [] [] (a1 := ?_) 15 rfl (by kernel_rfl) (.inl ⟨rfl, rfl⟩) rfl rfl rfl (fun x K hK => ?_) ?_
          rotate_left
          · go_big_quiet_op
            exact hK
          refine hoist [] [] (a1 := ?_) 16 rfl (by kernel_rfl) (.inl ⟨rfl, rfl⟩) rfl rfl rfl (fun x K hK => ?_) ?_
          rotate_left
          · go_big_quiet_op
            exact hK
          refine hoist [] [] (a1 := ?_) 17 rfl (by kernel_rfl) (.inl ⟨rfl, rfl⟩) rfl rfl rfl (fun x K hK => ?_) ?_
          rotate_left
          · go_big_quiet_op
            exact hK
          refine hoist [] [] (a1 := ?_) 18 rfl (by kernel_rfl) (.inl ⟨rfl, rfl⟩) rfl rfl rfl (fun x K hK => ?_) ?_
          rotate_left
          · go_big_quiet_op
            exact hK
          refine done (by kernel_rfl) (fun xr => ?_)
          have BX := Lib.hid (B.out.trans xr.bw)
          clear d3 d4 d l3 ly la
          go_wp2_with fail
          go_roundg (n - (k + 1))
          case measure => omega
          case rel => exact ⟨k + 1, rfl, by omega, by rw [hks.out]; rfl, by push_cast; rfl, BX⟩
    · obtain rfl : k = n := by omega
      have d : decide ((k : Int) < (k : Int)) = false := by simp
      go_wp2_with fail
      go_ret
      exact ⟨rfl, B.out⟩
end Go.Proofs.Ytgiajnfmjpdodaa
