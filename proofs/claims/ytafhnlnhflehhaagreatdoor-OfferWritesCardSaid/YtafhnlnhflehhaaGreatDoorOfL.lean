/- slices: pdqsort of numbers of 32 bits: the row stays a row (printed by wip/gen/genOfL.py). No condition but the sizes'. -/
import Derived.Test.YtafhnlnhflehhaaGreatDoorOfK
namespace Go.Proofs.YtafhnlnhflehhaaGreatDoor
open Go.RowKit
theorem SR.ofIs {w : World} {base g o n cap a b : Nat} {l : List Nat} (h : IsR w base g o n cap a b l) : SR w base g o n cap := let ⟨l', q, _⟩ := h; ⟨l', q⟩
set_option maxRecDepth 100000 in
set_option maxHeartbeats 8000000 in
theorem pdq_any (base g o n cap : Nat) (hn : n ≤ 1000000) : ∀ (len a b lim : Nat) (_ : b - a ≤ len) (_ : a ≤ b) (_ : b ≤ n) (_ : lim ≤ 1000000) (w : World) (_ : SR w base g o n cap),
  Calls Tryz.prog 64 #[.slice (some ⟨g, o, none⟩) n cap, .int .i64 (a : Nat), .int .i64 (b : Nat), .int .i64 (lim : Nat)] w fun e w' => e = .returned (.tuple #[]) ∧ SR w' base g o n cap ∧ Still [g] w w' := by
 intro len
 induction len using Nat.strongRecOn with
 | _ len ih =>
 intro a b lim hlen hab hbn hlim w h
 have hcm : cap ≤ 9223372036854775807 ∧ n ≤ cap := by
  obtain ⟨l, q⟩ := h
  obtain ⟨_, _, he, hcn, hcm⟩ := q.len
  cases he
  exact ⟨hcm, hcn⟩
 obtain ⟨hcm, hcn⟩ := hcm
 have Q := Lib.hid h
 have T := Lib.hid (Still.refl [g] w)
 clear h
 go_enter Tryz.func64, Tryz.ntmps64
 go_upto_region 2 with (fail)
 go_loopg [1, 2, 3, 8, 9] (b - a) (fun m' v1 v2 v3 v8 v9 wx => ∃ (a' b' lim' : Nat) (x y : Bool), m' = b' - a' ∧ a ≤ a' ∧ a' ≤ b' ∧ b' ≤ b ∧ lim' ≤ 1000000 ∧ v1 = .int .i64 (a' : Nat) ∧ v2 = .int .i64 (b' : Nat) ∧ v3 = .int .i64 (lim' : Nat) ∧ v8 = .bool x ∧ v9 = .bool y ∧ Hid (SR wx base g o n cap) ∧ Hid (Still [g] w wx))
 case atStart => exact ⟨a, b, lim, true, true, rfl, by omega, by omega, by omega, hlim, rfl, rfl, rfl, rfl, rfl, Q, T⟩
 case round =>
  clear Q T
  obtain ⟨a', b', lim', x, y, rfl, haa, hab', hbb, hlim', rfl, rfl, rfl, rfl, rfl, Q, T⟩ := hrel
  obtain ⟨l, hl⟩ : ∃ l, b' - a' = l := ⟨_, rfl⟩
  have el : (b' : Int) - (a' : Int) = (l : Int) := by omega
  by_cases h12 : l ≤ 12
  ·have d : decide ((l : Int) ≤ 12) = true := by simp; omega
   obtain ⟨L, hL⟩ := Q.out
   go_wp2_with fail
   refine Calls.mono (isort_any base g o n cap a' b' L hab' (by omega) hn _ hL) ?_
   rintro e w1 ⟨rfl, hi, ht⟩
   have Q1 := Lib.hid (SR.ofIs hi)
   replace T := Lib.hid (T.out.trans ht)
   clear hi ht
   dsimp only
   go_wp2_with fail
   refine bodyPost_ret (results_none rfl _ _ _) rfl ?_
   exact ⟨rfl, Q1.out, T.out⟩
  have d : decide ((l : Int) ≤ 12) = false := by simp; omega
  by_cases hl0 : lim' = 0
  ·subst hl0
   go_wp2_with fail
   refine Calls.mono (heap_any base g o n cap a' b' (by omega) (by omega) hn _ Q.out) ?_
   rintro e w1 ⟨rfl, hi, ht⟩
   replace Q := Lib.hid hi
   replace T := Lib.hid (T.out.trans ht)
   clear hi ht
   dsimp only
   go_wp2_with fail
   refine bodyPost_ret (results_none rfl _ _ _) rfl ?_
   exact ⟨rfl, Q.out, T.out⟩
  obtain ⟨lim0, hlim0⟩ : ∃ z, lim' = z + 1 := ⟨lim' - 1, by omega⟩
  have elim : (lim' : Int) - 1 = (lim0 : Int) := by omega
  have i0 : ¬ ((lim' : Int) = 0) := by omega
  have d0 : decide ((lim' : Int) = 0) = false := decide_eq_false i0
  have b0 : ((lim' : Int) == 0) = false := by simp; omega
  replace hlim0 := Lib.hid hlim0
  go_upto_if 35 with (fail)
  clear i0 d0 b0
  go_cut [3] (fun y3 wc => ∃ lim2 : Nat, y3 = .int .i64 (lim2 : Nat) ∧ lim2 ≤ 1000000 ∧ Hid (SR wc base g o n cap) ∧ Hid (Still [g] w wc))
  case first =>
   cases x
   ·go_wp2_with fail
    refine Calls.mono (brk_any base g o n cap a' b' (by omega) (by omega) hn _ Q.out) ?_
    rintro e w1 ⟨rfl, hi, ht⟩
    replace Q := Lib.hid hi
    replace T := Lib.hid (T.out.trans ht)
    clear hi ht
    dsimp only
    go_wp2_with fail
    go_meet
    exact ⟨lim0, rfl, by have := hlim0.out; omega, Q, T⟩
   ·go_wp2_with fail
    go_meet
    exact ⟨lim', rfl, hlim', Q, T⟩
  case rest =>
  clear Q T
  obtain ⟨lim2, rfl, hlim2, Q, T⟩ := hcut
  clear elim hlim0
  go_wp2_with fail
  refine Calls.mono (piv_any base g o n cap a' b' (by omega) (by omega) hn _ Q.out) ?_
  rintro e w2 ⟨p, hh, hp1, hp2, hh2, rfl, hb⟩
  replace Q := Lib.hid (Q.out.bw hb)
  replace T := Lib.hid (T.out.trans (hb.still [g]))
  clear hb
  dsimp only
  go_upto_if 50 with (fail)
  go_cut [11, 12] (fun y11 y12 wc => ∃ p2 h2 : Nat, y11 = .int .i64 (p2 : Nat) ∧ y12 = .int .i64 (h2 : Nat) ∧ a' ≤ p2 ∧ p2 < b' ∧ h2 ≤ 2 ∧ Hid (SR wc base g o n cap) ∧ Hid (Still [g] w wc))
  case first =>
   by_cases h2 : hh = 2
   ·subst h2
    obtain ⟨b1, hb1⟩ : ∃ z, b' = z + 1 := ⟨b' - 1, by omega⟩
    have eb1 : (b' : Int) - 1 = (b1 : Int) := by omega
    obtain ⟨pa, hpa⟩ : ∃ z, p - a' = z := ⟨_, rfl⟩
    have epa : (p : Int) - (a' : Int) = (pa : Int) := by omega
    obtain ⟨p2, hp3⟩ : ∃ z, b1 - pa = z := ⟨_, rfl⟩
    have ep2 : (b1 : Int) - (pa : Int) = (p2 : Int) := by omega
    have hp4 : a' ≤ p2 ∧ p2 < b' := by omega
    replace hb1 := Lib.hid hb1
    replace hpa := Lib.hid hpa
    replace hp3 := Lib.hid hp3
    go_wp2_with fail
    refine Calls.mono (rev_any base g o n cap a' b' (by omega) (by omega) hn _ Q.out) ?_
    rintro e w3 ⟨rfl, hi, ht⟩
    replace Q := Lib.hid hi
    replace T := Lib.hid (T.out.trans ht)
    clear hi ht
    dsimp only
    go_wp2_with fail
    go_meet
    exact ⟨p2, 1, rfl, rfl, by omega, by omega, by omega, Q, T⟩
   ·have i0 : ¬ ((hh : Int) = 2) := by omega
    have d0 : decide ((hh : Int) = 2) = false := decide_eq_false i0
    have b0 : ((hh : Int) == 2) = false := by simp; omega
    go_wp2_with fail
    go_meet
    exact ⟨p, hh, rfl, rfl, hp1, hp2, hh2, Q, T⟩
  case rest =>
  clear Q T
  obtain ⟨p2, h2, rfl, rfl, hp3, hp4, hh3, Q, T⟩ := hcut
  clear hp1 hp2 hh2
  rename_i K2 hK2
  refine hK2 _ _ ?_
  refine wp_seq_k ?_
  intro K3 hK3
  clear hK2
  go_cut [] (fun wc => Hid (SR wc base g o n cap) ∧ Hid (Still [g] w wc))
  case first =>
   cases x
   ·go_wp2_with fail
    go_meet
    exact ⟨Q, T⟩
   cases y
   ·go_wp2_with fail
    go_meet
    exact ⟨Q, T⟩
   by_cases hh1 : h2 = 1
   ·subst hh1
    go_wp2_with fail
    refine Calls.mono (pis_any base g o n cap a' b' (by omega) (by omega) hn _ Q.out) ?_
    rintro e w3 ⟨f, rfl, hi, ht⟩
    replace Q := Lib.hid hi
    replace T := Lib.hid (T.out.trans ht)
    clear hi ht
    dsimp only
    cases f
    ·go_wp2_with fail
     go_meet
     exact ⟨Q, T⟩
    ·go_wp2_with fail
     refine bodyPost_ret (results_none rfl _ _ _) rfl ?_
     exact ⟨rfl, Q.out, T.out⟩
   ·have i0 : ¬ ((h2 : Int) = 1) := by omega
    have d0 : decide ((h2 : Int) = 1) = false := decide_eq_false i0
    have b0 : ((h2 : Int) == 1) = false := by simp; omega
    go_wp2_with fail
    go_meet
    exact ⟨Q, T⟩
  case rest =>
  clear Q T
  obtain ⟨Q, T⟩ := hcut
  go_upto_region 17 with (fail)
  by_cases ha0 : 0 < a'
  ·have da : decide ((0 : Int) < (a' : Int)) = true := by simp; omega
   obtain ⟨a0, ha1⟩ : ∃ z, a' = z + 1 := ⟨a' - 1, by omega⟩
   have ea0 : (a' : Int) - 1 = (a0 : Int) := by omega
   have ha0n : a0 < n := by omega
   have hp2n : p2 < n := by omega
   replace ha1 := Lib.hid ha1
   obtain ⟨vi, ci⟩ := Q.out.cell (a0) (by omega)
   obtain ⟨vj, cj⟩ := Q.out.cell (p2) (by omega)
   have mi : ∀ y : LaterS [] wc, _ := fun y => y.bw.cell ci
   have mj : ∀ y : LaterS [] wc, _ := fun y => y.bw.cell cj
   clear ci cj
   refine wp_region_gg [] [] [] (by kernel_rfl) ?_
   refine hoist [] [] (a1 := ?_) 0 rfl (by kernel_rfl) (.inl ⟨rfl, rfl⟩) rfl rfl rfl (fun x K hK => ?_) ?_
   rotate_left
   ·go_big_quiet_op
    exact hK
   refine hoist [] [] (a1 := ?_) 1 rfl (by kernel_rfl) (.inl ⟨rfl, rfl⟩) rfl rfl rfl (fun x K hK => ?_) ?_
   rotate_left
   ·go_big_quiet_op
    exact hK
   refine hoist [] [] (a1 := ?_) 2 rfl (by kernel_rfl) (.inl ⟨rfl, rfl⟩) rfl rfl rfl (fun x K hK => ?_) ?_
   rotate_left
   ·go_big_quiet_op
    exact hK
   refine hoist [] [] (a1 := ?_) 3 rfl (by kernel_rfl) (.inl ⟨rfl, rfl⟩) rfl rfl rfl (fun x K hK => ?_) ?_
   rotate_left
   ·go_big_quiet_op
    exact hK
   refine hoist [] [] (a1 := ?_) 4 rfl (by kernel_rfl) (.inl ⟨rfl, rfl⟩) rfl rfl rfl (fun x K hK => ?_) ?_
   rotate_left
   ·go_big_quiet_op
    exact hK
   refine hoist [] [] (a1 := ?_) 5 rfl (by kernel_rfl) (.inl ⟨rfl, rfl⟩) rfl rfl rfl (fun x K hK => ?_) ?_
   rotate_left
   ·go_big_quiet_op
    exact hK
   refine hoist [] [] (a1 := ?_) 6 rfl (by kernel_rfl) (.inl ⟨rfl, rfl⟩) rfl rfl rfl (fun x K hK => ?_) ?_
   rotate_left
   ·go_big_quiet_op
    exact hK
   refine hoist [] [] (a1 := ?_) 7 rfl (by kernel_rfl) (.inl ⟨rfl, rfl⟩) rfl rfl rfl (fun x K hK => ?_) ?_
   rotate_left
   ·go_big_quiet_op
    exact hK
   refine hoist [] [] (a1 := ?_) 8 rfl (by kernel_rfl) (.inl ⟨rfl, rfl⟩) rfl rfl rfl (fun x K hK => ?_) ?_
   rotate_left
   ·go_big_quiet_op
    exact hK
   refine hoist [] [] (a1 := ?_) 9 rfl (by kernel_rfl) (.inl ⟨rfl, rfl⟩) rfl rfl rfl (fun x K hK => ?_) ?_
   rotate_left
   ·go_big_quiet_op
    exact hK
   refine hoist [] [] (a1 := ?_) 10 rfl (by kernel_rfl) (.inl ⟨rfl, rfl⟩) rfl rfl rfl (fun x K hK => ?_) ?_
   rotate_left
   ·go_big_quiet_op
    exact hK
   refine hoist [] [] (a1 := ?_) 11 rfl (by kernel_rfl) (.inl ⟨rfl, rfl⟩) rfl rfl rfl (fun x K hK => ?_) ?_
   rotate_left
   ·go_big_quiet_op
    exact hK
   refine effect 12 rfl (by kernel_rfl) (by kernel_rfl) rfl (fun x12 K hK => ?_)
   go_simp
   refine Calls.mono (less_any vi vj x12.now) ?_
   rintro e wl ⟨rfl, hb⟩
   refine hK _ _ (hb.still _) ?_
   clear hK K mi mj
   have b2 := Lib.hid (x12.bw.trans hb)
   clear hb
   try simp only [Act.put, List.setIfInBounds_toArray, List.set_cons_succ, List.set_cons_zero]
   refine hoist [] [] (a1 := ?_) 13 rfl (by kernel_rfl) (.inl ⟨rfl, rfl⟩) rfl rfl rfl (fun x K hK => ?_) ?_
   rotate_left
   ·go_big_quiet_op
    exact hK
   refine hoist [] [] (a1 := ?_) 14 rfl (by kernel_rfl) (.inl ⟨rfl, rfl⟩) rfl rfl rfl (fun x K hK => ?_) ?_
   rotate_left
   ·go_big_quiet_op
    exact hK
   refine done (by kernel_rfl) (fun xr => ?_)
   have hb := b2.out.trans xr.bw
   replace Q := Lib.hid (Q.out.bw hb)
   replace T := Lib.hid (T.out.trans (hb.still [g]))
   clear hb b2
   generalize xr.now = w5 at *
   clear xr
   by_cases hlt : vi < vj
   ·rw [decide_eq_true hlt, Bool.not_true]
    go_wp2_with fail
    refine Calls.mono (part_any base g o n cap a' b' p2 hp3 hp4 (by omega) hn _ Q.out) ?_
    rintro e w6 ⟨mid, f, hm1, hm2, rfl, hi, ht⟩
    replace Q := Lib.hid hi
    replace T := Lib.hid (T.out.trans ht)
    clear hi ht
    dsimp only
    obtain ⟨lf, hlf⟩ : ∃ z, mid - a' = z := ⟨_, rfl⟩
    obtain ⟨rg, hrg⟩ : ∃ z, b' - mid = z := ⟨_, rfl⟩
    obtain ⟨l8, hl8⟩ : ∃ z, l / 8 = z := ⟨_, rfl⟩
    obtain ⟨m1, hm3⟩ : ∃ z, mid + 1 = z := ⟨_, rfl⟩
    have elf : (mid : Int) - (a' : Int) = (lf : Int) := by omega
    have erg : (b' : Int) - (mid : Int) = (rg : Int) := by omega
    have el8 : (l : Int).tdiv 8 = (l8 : Int) := by rw [← hl8]; rfl
    have em1 : (mid : Int) + 1 = (m1 : Int) := by omega
    have hm4 : m1 ≤ b' ∧ a' < m1 := by omega
    replace hl8 := Lib.hid hl8
    by_cases hlr : lf < rg
    ·have dlr : decide ((lf : Int) < (rg : Int)) = true := by simp; omega
     go_wp2_with fail
     refine Calls.mono (ih (mid - a') (by omega) a' mid lim2 (by omega) (by omega) (by omega) hlim2 _ Q.out) ?_
     rintro e w7 ⟨rfl, hi, ht⟩
     replace Q := Lib.hid hi
     replace T := Lib.hid (T.out.trans ht)
     clear hi ht
     dsimp only
     go_wp2_with fail
     go_roundg (b' - m1)
     case measure => omega
     case rel => exact ⟨m1, b', lim2, _, f, rfl, by omega, by omega, by omega, hlim2, rfl, rfl, rfl, rfl, rfl, Q, T⟩
    ·have dlr : decide ((lf : Int) < (rg : Int)) = false := by simp; omega
     go_wp2_with fail
     refine Calls.mono (ih (b' - m1) (by omega) m1 b' lim2 (by omega) (by omega) (by omega) hlim2 _ Q.out) ?_
     rintro e w7 ⟨rfl, hi, ht⟩
     replace Q := Lib.hid hi
     replace T := Lib.hid (T.out.trans ht)
     clear hi ht
     dsimp only
     go_wp2_with fail
     go_roundg (mid - a')
     case measure => omega
     case rel => exact ⟨a', mid, lim2, _, f, rfl, by omega, by omega, by omega, hlim2, rfl, rfl, rfl, rfl, rfl, Q, T⟩
   ·rw [decide_eq_false hlt, Bool.not_false]
    go_wp2_with fail
    refine Calls.mono (peq_any base g o n cap a' b' p2 hp3 hp4 (by omega) hn _ Q.out) ?_
    rintro e w6 ⟨mid, hm1, hm2, rfl, hi, ht⟩
    replace Q := Lib.hid hi
    replace T := Lib.hid (T.out.trans ht)
    clear hi ht
    dsimp only
    go_wp2_with fail
    go_roundg (b' - mid)
    case measure => omega
    case rel => exact ⟨mid, b', lim2, x, y, rfl, by omega, by omega, by omega, hlim2, rfl, rfl, rfl, rfl, rfl, Q, T⟩
  ·have da : decide ((0 : Int) < (a' : Int)) = false := by simp; omega
   refine wp_region_gg [] [] [] (by kernel_rfl) ?_
   refine hoist [] [] (a1 := ?_) 0 rfl (by kernel_rfl) (.inl ⟨rfl, rfl⟩) rfl rfl rfl (fun x K hK => ?_) ?_
   rotate_left
   ·go_big_quiet_op
    exact hK
   refine hoist [] [] (a1 := ?_) 1 rfl (by kernel_rfl) (.inl ⟨rfl, rfl⟩) rfl rfl rfl (fun x K hK => ?_) ?_
   rotate_left
   ·go_big_quiet_op
    exact hK
   refine hoist [] [] (a1 := ?_) 2 rfl (by kernel_rfl) (.inl ⟨rfl, rfl⟩) rfl rfl rfl (fun x K hK => ?_) ?_
   rotate_left
   ·go_big_quiet_op
    exact hK
   refine hoist_skip [] [] 3 rfl (by kernel_rfl) (.inl ⟨rfl, rfl⟩) rfl (a1 := ?_) ?_ ?_
   rotate_left
   ·simp only [Act.put, List.setIfInBounds_toArray, List.set_cons_succ, List.set_cons_zero]; rfl
   refine hoist_skip [] [] 4 rfl (by kernel_rfl) (.inl ⟨rfl, rfl⟩) rfl (a1 := ?_) ?_ ?_
   rotate_left
   ·simp only [Act.put, List.setIfInBounds_toArray, List.set_cons_succ, List.set_cons_zero]; rfl
   refine hoist_skip [] [] 5 rfl (by kernel_rfl) (.inl ⟨rfl, rfl⟩) rfl (a1 := ?_) ?_ ?_
   rotate_left
   ·simp only [Act.put, List.setIfInBounds_toArray, List.set_cons_succ, List.set_cons_zero]; rfl
   refine hoist_skip [] [] 6 rfl (by kernel_rfl) (.inl ⟨rfl, rfl⟩) rfl (a1 := ?_) ?_ ?_
   rotate_left
   ·simp only [Act.put, List.setIfInBounds_toArray, List.set_cons_succ, List.set_cons_zero]; rfl
   refine hoist_skip [] [] 7 rfl (by kernel_rfl) (.inl ⟨rfl, rfl⟩) rfl (a1 := ?_) ?_ ?_
   rotate_left
   ·simp only [Act.put, List.setIfInBounds_toArray, List.set_cons_succ, List.set_cons_zero]; rfl
   refine hoist_skip [] [] 8 rfl (by kernel_rfl) (.inl ⟨rfl, rfl⟩) rfl (a1 := ?_) ?_ ?_
   rotate_left
   ·simp only [Act.put, List.setIfInBounds_toArray, List.set_cons_succ, List.set_cons_zero]; rfl
   refine hoist_skip [] [] 9 rfl (by kernel_rfl) (.inl ⟨rfl, rfl⟩) rfl (a1 := ?_) ?_ ?_
   rotate_left
   ·simp only [Act.put, List.setIfInBounds_toArray, List.set_cons_succ, List.set_cons_zero]; rfl
   refine hoist_skip [] [] 10 rfl (by kernel_rfl) (.inl ⟨rfl, rfl⟩) rfl (a1 := ?_) ?_ ?_
   rotate_left
   ·simp only [Act.put, List.setIfInBounds_toArray, List.set_cons_succ, List.set_cons_zero]; rfl
   refine hoist_skip [] [] 11 rfl (by kernel_rfl) (.inl ⟨rfl, rfl⟩) rfl (a1 := ?_) ?_ ?_
   rotate_left
   ·simp only [Act.put, List.setIfInBounds_toArray, List.set_cons_succ, List.set_cons_zero]; rfl
   refine hoist_skip [] [] 12 rfl (by kernel_rfl) (.inl ⟨rfl, rfl⟩) rfl (a1 := ?_) ?_ ?_
   rotate_left
   ·simp only [Act.put, List.setIfInBounds_toArray, List.set_cons_succ, List.set_cons_zero]; rfl
   refine hoist_skip [] [] 13 rfl (by kernel_rfl) (.inl ⟨rfl, rfl⟩) rfl (a1 := ?_) ?_ ?_
   rotate_left
   ·simp only [Act.put, List.setIfInBounds_toArray, List.set_cons_succ, List.set_cons_zero]; rfl
   refine hoist [] [] (a1 := ?_) 14 rfl (by kernel_rfl) (.inl ⟨rfl, rfl⟩) rfl rfl rfl (fun x K hK => ?_) ?_
   rotate_left
   ·go_big_quiet_op
    exact hK
   refine done (by kernel_rfl) (fun xr => ?_)
   have hb := xr.bw
   replace Q := Lib.hid (Q.out.bw hb)
   replace T := Lib.hid (T.out.trans (hb.still [g]))
   clear hb
   generalize xr.now = w5 at *
   clear xr
   go_wp2_with fail
   refine Calls.mono (part_any base g o n cap a' b' p2 hp3 hp4 (by omega) hn _ Q.out) ?_
   rintro e w6 ⟨mid, f, hm1, hm2, rfl, hi, ht⟩
   replace Q := Lib.hid hi
   replace T := Lib.hid (T.out.trans ht)
   clear hi ht
   dsimp only
   obtain ⟨lf, hlf⟩ : ∃ z, mid - a' = z := ⟨_, rfl⟩
   obtain ⟨rg, hrg⟩ : ∃ z, b' - mid = z := ⟨_, rfl⟩
   obtain ⟨l8, hl8⟩ : ∃ z, l / 8 = z := ⟨_, rfl⟩
   obtain ⟨m1, hm3⟩ : ∃ z, mid + 1 = z := ⟨_, rfl⟩
   have elf : (mid : Int) - (a' : Int) = (lf : Int) := by omega
   have erg : (b' : Int) - (mid : Int) = (rg : Int) := by omega
   have el8 : (l : Int).tdiv 8 = (l8 : Int) := by rw [← hl8]; rfl
   have em1 : (mid : Int) + 1 = (m1 : Int) := by omega
   have hm4 : m1 ≤ b' ∧ a' < m1 := by omega
   replace hl8 := Lib.hid hl8
   by_cases hlr : lf < rg
   ·have dlr : decide ((lf : Int) < (rg : Int)) = true := by simp; omega
    go_wp2_with fail
    refine Calls.mono (ih (mid - a') (by omega) a' mid lim2 (by omega) (by omega) (by omega) hlim2 _ Q.out) ?_
    rintro e w7 ⟨rfl, hi, ht⟩
    replace Q := Lib.hid hi
    replace T := Lib.hid (T.out.trans ht)
    clear hi ht
    dsimp only
    go_wp2_with fail
    go_roundg (b' - m1)
    case measure => omega
    case rel => exact ⟨m1, b', lim2, _, f, rfl, by omega, by omega, by omega, hlim2, rfl, rfl, rfl, rfl, rfl, Q, T⟩
   ·have dlr : decide ((lf : Int) < (rg : Int)) = false := by simp; omega
    go_wp2_with fail
    refine Calls.mono (ih (b' - m1) (by omega) m1 b' lim2 (by omega) (by omega) (by omega) hlim2 _ Q.out) ?_
    rintro e w7 ⟨rfl, hi, ht⟩
    replace Q := Lib.hid hi
    replace T := Lib.hid (T.out.trans ht)
    clear hi ht
    dsimp only
    go_wp2_with fail
    go_roundg (mid - a')
    case measure => omega
    case rel => exact ⟨a', mid, lim2, _, f, rfl, by omega, by omega, by omega, hlim2, rfl, rfl, rfl, rfl, rfl, Q, T⟩
end Go.Proofs.YtafhnlnhflehhaaGreatDoor
