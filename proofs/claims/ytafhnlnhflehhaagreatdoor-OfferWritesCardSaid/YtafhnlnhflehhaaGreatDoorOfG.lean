/- slices: order2, median, medianAdjacent of numbers of 32 bits: the row is not touched (printed by wip/gen/genOfG.py). No condition but the sizes'. -/
import Derived.Test.YtafhnlnhflehhaaGreatDoorOfF
namespace Go.Proofs.YtafhnlnhflehhaaGreatDoor
open Go.RowKit
theorem SR.st {w w' : World} {base g o n cap : Nat} (h : SR w base g o n cap) {S : List Nat} (hs : Still S w w') (hg : g ∉ S) : SR w' base g o n cap := by
 obtain ⟨l, q⟩ := h
 refine ⟨l, q.still hs (fun _ _ => trivial) (fun k hk => ?_)⟩
 cases hk
 exact hg
def BX (w : World) (s k : Nat) : Prop := HpB w s (.cells #[.int .i64 (k : Nat)] 3)
theorem BX.cell {w : World} {s k : Nat} (h : BX w s k) : w.cell? ⟨s, 0, none⟩ = some (.int .i64 (k : Nat)) := (hp_cell h 0).trans rfl
theorem BX.frz {w : World} {s k : Nat} (h : BX w s k) : w.frozen? ⟨s, 0, none⟩ = false := hp_frz h 0
theorem BX.set {w : World} {s k : Nat} (h : BX w s k) (v : Nat) : BX (w.setCell ⟨s, 0, none⟩ (.int .i64 (v : Nat))) s v := hp_set h 0 _
theorem BX.st {w w' : World} {s k : Nat} (h : BX w s k) {S : List Nat} (hs : Still S w w') (hg : s ∉ S) : BX w' s k := HpB.st h hs hg
theorem BX.bw {w w' : World} {s k : Nat} (h : BX w s k) (hb : BW w w') : BX w' s k := h.st (hb.still []) (by simp)
def O2R (w w' : World) (s k i j : Nat) (e : Ending) : Prop := ∃ k' x y : Nat, k' ≤ k + 1 ∧ BX w' s k' ∧ (x = i ∨ x = j) ∧ (y = i ∨ y = j) ∧ e = .returned (.tuple #[.int .i64 (x : Nat), .int .i64 (y : Nat)]) ∧ Still [s] w w'
set_option maxRecDepth 100000 in
set_option maxHeartbeats 8000000 in
theorem ord2_any (base g o n cap s k i j : Nat) (hi : i < n) (hj : j < n) (w : World) (h : SR w base g o n cap) (hb : BX w s k) (hgs : g ≠ s) (hk : k ≤ 1000000) :
  Calls Tryz.prog 111 #[.slice (some ⟨g, o, none⟩) n cap, .int .i64 (i : Nat), .int .i64 (j : Nat), .pointer (some ⟨s, 0, none⟩)] w fun e w' => O2R w w' s k i j e := by
 have hcm : cap ≤ 9223372036854775807 ∧ n ≤ cap := by
  obtain ⟨l, q⟩ := h
  obtain ⟨_, _, he, hcn, hcm⟩ := q.len
  cases he
  exact ⟨hcm, hcn⟩
 obtain ⟨hcm, hcn⟩ := hcm
 have Q := Lib.hid h
 have B := Lib.hid hb
 have T := Lib.hid (Still.refl [s] w)
 clear h hb
 go_enter Tryz.func111, Tryz.ntmps111
 go_upto_region 1 with (fail)
 obtain ⟨vi, ci⟩ := Q.out.cell (j) (by omega)
 obtain ⟨vj, cj⟩ := Q.out.cell (i) (by omega)
 have mi : ∀ y : LaterS [] w, _ := fun y => y.bw.cell ci
 have mj : ∀ y : LaterS [] w, _ := fun y => y.bw.cell cj
 clear ci cj
 refine wp_region_gg [] [] [] (by kernel_rfl) ?_
 refine hoist [] [] (a1 := ?_) 0 rfl (by kernel_rfl) (.inl ⟨rfl, rfl⟩) rfl rfl rfl (fun x K hK => ?_) ?_
 rotate_left
 ·go_big_quiet_op
  exact hK
 refine hoist [] [] (a1 := ?_) 1 rfl (by kernel_rfl) (.inl ⟨rfl, rfl⟩) rfl rfl rfl (fun x K hK => ?_) ?_
 rotate_left
 ·go_big_quiet_op
  exact hK
 refine hoist [] [] (a1 := ?_) 2 rfl (by kernel_rfl) (.inl ⟨rfl, rfl⟩) rfl rfl rfl (fun x K hK => ?_) ?_
 rotate_left
 ·go_big_quiet_op
  exact hK
 refine hoist [] [] (a1 := ?_) 3 rfl (by kernel_rfl) (.inl ⟨rfl, rfl⟩) rfl rfl rfl (fun x K hK => ?_) ?_
 rotate_left
 ·go_big_quiet_op
  exact hK
 refine hoist [] [] (a1 := ?_) 4 rfl (by kernel_rfl) (.inl ⟨rfl, rfl⟩) rfl rfl rfl (fun x K hK => ?_) ?_
 rotate_left
 ·go_big_quiet_op
  exact hK
 refine hoist [] [] (a1 := ?_) 5 rfl (by kernel_rfl) (.inl ⟨rfl, rfl⟩) rfl rfl rfl (fun x K hK => ?_) ?_
 rotate_left
 ·go_big_quiet_op
  exact hK
 refine hoist [] [] (a1 := ?_) 6 rfl (by kernel_rfl) (.inl ⟨rfl, rfl⟩) rfl rfl rfl (fun x K hK => ?_) ?_
 rotate_left
 ·go_big_quiet_op
  exact hK
 refine hoist [] [] (a1 := ?_) 7 rfl (by kernel_rfl) (.inl ⟨rfl, rfl⟩) rfl rfl rfl (fun x K hK => ?_) ?_
 rotate_left
 ·go_big_quiet_op
  exact hK
 refine effect 8 rfl (by kernel_rfl) (by kernel_rfl) rfl (fun x8 K hK => ?_)
 go_simp
 refine Calls.mono (less_any vi vj x8.now) ?_
 rintro e wl ⟨rfl, hb⟩
 refine hK _ _ (hb.still _) ?_
 clear hK K mi mj
 have b2 := Lib.hid (x8.bw.trans hb)
 clear hb
 try simp only [Act.put, List.setIfInBounds_toArray, List.set_cons_succ, List.set_cons_zero]
 refine done (by kernel_rfl) (fun xr => ?_)
 have hb := b2.out.trans xr.bw
 replace B := Lib.hid (B.out.bw hb)
 replace Q := Lib.hid (Q.out.bw hb)
 replace T := Lib.hid (T.out.trans (hb.still [s]))
 clear hb b2
 generalize xr.now = w1 at *
 clear xr
 by_cases hlt : vi < vj
 ·have d : decide (vi < vj) = true := decide_eq_true hlt
  have zc := B.out.cell
  have zf := B.out.frz
  obtain ⟨k1, hk1⟩ : ∃ x, k + 1 = x := ⟨_, rfl⟩
  have ek : (k : Int) + 1 = (k1 : Int) := by omega
  have B2 := Lib.hid (B.out.set k1)
  replace T := Lib.hid (T.out.trans (still_sc w1 s 0 (.int .i64 (k1 : Nat))))
  go_upto_region 3 with (fail)
  clear zc zf B Q
  generalize w1.setCell _ _ = w2 at *
  go_wp2_with fail
  refine bodyPost_ret (results_tmp2 rfl _ _ _) rfl ?_
  exact ⟨k1, j, i, by omega, B2.out, .inr rfl, .inl rfl, rfl, T.out⟩
 ·have d : decide (vi < vj) = false := decide_eq_false hlt
  go_wp2_with fail
  refine bodyPost_ret (results_tmp2 rfl _ _ _) rfl ?_
  exact ⟨k, i, j, by omega, B.out, .inl rfl, .inr rfl, rfl, T.out⟩
def MedR (w w' : World) (s k lo hi : Nat) (e : Ending) : Prop := ∃ k' x : Nat, k' ≤ k + 3 ∧ BX w' s k' ∧ lo ≤ x ∧ x ≤ hi ∧ e = .returned (.int .i64 (x : Nat)) ∧ Still [s] w w'
set_option maxRecDepth 100000 in
set_option maxHeartbeats 8000000 in
theorem med_any (base g o n cap s k a b c lo hi : Nat) (ha : lo ≤ a ∧ a ≤ hi) (hb0 : lo ≤ b ∧ b ≤ hi) (hc : lo ≤ c ∧ c ≤ hi) (hhi : hi < n) (w : World) (h : SR w base g o n cap) (hb : BX w s k) (hgs : g ≠ s) (hk : k ≤ 999990) :
  Calls Tryz.prog 102 #[.slice (some ⟨g, o, none⟩) n cap, .int .i64 (a : Nat), .int .i64 (b : Nat), .int .i64 (c : Nat), .pointer (some ⟨s, 0, none⟩)] w fun e w' => MedR w w' s k lo hi e := by
 have hcm : cap ≤ 9223372036854775807 ∧ n ≤ cap := by
  obtain ⟨l, q⟩ := h
  obtain ⟨_, _, he, hcn, hcm⟩ := q.len
  cases he
  exact ⟨hcm, hcn⟩
 obtain ⟨hcm, hcn⟩ := hcm
 have Q := Lib.hid h
 have B := Lib.hid hb
 have T := Lib.hid (Still.refl [s] w)
 clear h hb
 go_enter Tryz.func102, Tryz.ntmps102
 go_wp2_with fail
 refine Calls.mono (ord2_any base g o n cap s k a b (by omega) (by omega) _ Q.out B.out hgs (by omega)) ?_
 rintro e w1 ⟨k1, x1, y1, hk1, hb, hx1, hy1, rfl, ht⟩
 replace Q := Lib.hid (Q.out.st ht (by simp; exact hgs))
 replace T := Lib.hid (T.out.trans ht)
 replace B := Lib.hid hb
 clear hb ht
 dsimp only
 go_wp2_with fail
 refine Calls.mono (ord2_any base g o n cap s k1 y1 c (by omega) (by omega) _ Q.out B.out hgs (by omega)) ?_
 rintro e w2 ⟨k2, x2, y2, hk2, hb, hx2, hy2, rfl, ht⟩
 replace Q := Lib.hid (Q.out.st ht (by simp; exact hgs))
 replace T := Lib.hid (T.out.trans ht)
 replace B := Lib.hid hb
 clear hb ht
 dsimp only
 go_wp2_with fail
 refine Calls.mono (ord2_any base g o n cap s k2 x1 x2 (by omega) (by omega) _ Q.out B.out hgs (by omega)) ?_
 rintro e w3 ⟨k3, x3, y3, hk3, hb, hx3, hy3, rfl, ht⟩
 replace Q := Lib.hid (Q.out.st ht (by simp; exact hgs))
 replace T := Lib.hid (T.out.trans ht)
 replace B := Lib.hid hb
 clear hb ht
 dsimp only
 go_wp2_with fail
 go_ret
 exact ⟨k3, y3, by omega, B.out, by omega, by omega, rfl, T.out⟩
set_option maxRecDepth 100000 in
set_option maxHeartbeats 8000000 in
theorem meda_any (base g o n cap s k a : Nat) (ha : 1 ≤ a) (han : a + 1 < n) (w : World) (h : SR w base g o n cap) (hb : BX w s k) (hgs : g ≠ s) (hk : k ≤ 999990) :
  Calls Tryz.prog 101 #[.slice (some ⟨g, o, none⟩) n cap, .int .i64 (a : Nat), .pointer (some ⟨s, 0, none⟩)] w fun e w' => MedR w w' s k (a - 1) (a + 1) e := by
 have hcm : cap ≤ 9223372036854775807 ∧ n ≤ cap := by
  obtain ⟨l, q⟩ := h
  obtain ⟨_, _, he, hcn, hcm⟩ := q.len
  cases he
  exact ⟨hcm, hcn⟩
 obtain ⟨hcm, hcn⟩ := hcm
 have Q := Lib.hid h
 have B := Lib.hid hb
 have T := Lib.hid (Still.refl [s] w)
 clear h hb
 go_enter Tryz.func101, Tryz.ntmps101
 obtain ⟨a0, ha0⟩ : ∃ x, x + 1 = a := ⟨a - 1, by omega⟩
 obtain ⟨a2, ha2⟩ : ∃ x, a + 1 = x := ⟨_, rfl⟩
 have e0 : (a : Int) - 1 = (a0 : Int) := by omega
 have e2 : (a : Int) + 1 = (a2 : Int) := by omega
 go_wp2_with fail
 refine Calls.mono (med_any base g o n cap s k a0 a a2 (a - 1) (a + 1) (by omega) (by omega) (by omega) (by omega) _ Q.out B.out hgs (by omega)) ?_
 rintro e w1 ⟨k1, x, h1, h2, h3, h4, rfl, h5⟩
 have hR : Hid (MedR w w1 s k (a - 1) (a + 1) (.returned (.int .i64 (x : Nat)))) := Lib.hid ⟨k1, x, h1, h2, h3, h4, rfl, T.out.trans h5⟩
 clear h1 h2 h3 h4 h5 T Q B e0 e2 ha0 ha2
 dsimp only
 go_wp2_with fail
 go_ret
 exact hR.out
def PivR (w w' : World) (a b : Nat) (e : Ending) : Prop := ∃ x h : Nat, a ≤ x ∧ x < b ∧ h ≤ 2 ∧ e = .returned (.tuple #[.int .i64 (x : Nat), .int .i64 (h : Nat)]) ∧ BW w w'
set_option maxRecDepth 100000 in
set_option maxHeartbeats 8000000 in
theorem piv_any (base g o n cap a b : Nat) (hab : a + 8 ≤ b) (hbn : b ≤ n) (hn : n ≤ 1000000) (w : World) (h : SR w base g o n cap) :
  Calls Tryz.prog 82 #[.slice (some ⟨g, o, none⟩) n cap, .int .i64 (a : Nat), .int .i64 (b : Nat)] w fun e w' => PivR w w' a b e := by
 obtain ⟨hcm, hcn, hgw⟩ : cap ≤ 9223372036854775807 ∧ n ≤ cap ∧ g < w.heap.size := by
  obtain ⟨l, q⟩ := h
  have := q.lt' g rfl
  obtain ⟨_, _, he, hcn, hcm⟩ := q.len
  cases he
  exact ⟨hcm, hcn, this⟩
 have BA := Lib.hid ((BW.refl w).alloc (o := .cells #[.int .i64 (0 : Nat)] 3))
 have Q := Lib.hid (h.bw BA.out)
 have B : Hid (BX (w.alloc (.cells #[.int .i64 (0 : Nat)] 3)) w.heap.size 0) := Lib.hid (HpB.new w _)
 obtain ⟨l, hl⟩ : ∃ l, b - a = l := ⟨_, rfl⟩
 have el : (b : Int) - (a : Int) = (l : Int) := by omega
 obtain ⟨l4, hl4⟩ : ∃ x, l / 4 = x := ⟨_, rfl⟩
 have e4 : (l : Int).tdiv 4 = (l4 : Int) := by rw [← hl4]; rfl
 obtain ⟨i, hi⟩ : ∃ x, a + l4 = x := ⟨_, rfl⟩
 obtain ⟨j, hj⟩ : ∃ x, a + l4 * 2 = x := ⟨_, rfl⟩
 obtain ⟨k, hk⟩ : ∃ x, a + l4 * 3 = x := ⟨_, rfl⟩
 have ei : (a : Int) + (l4 : Int) = (i : Int) := by omega
 have ej : (a : Int) + (l4 : Int) * 2 = (j : Int) := by omega
 have ek : (a : Int) + (l4 : Int) * 3 = (k : Int) := by omega
 have d8 : decide ((8 : Int) ≤ (l : Int)) = true := by simp; omega
 clear h
 go_enter Tryz.func82, Tryz.ntmps82
 go_upto_region 3 with (fail)
 have hgs : g ≠ w.heap.size := by omega
 obtain ⟨s, hs⟩ : ∃ s, w.heap.size = s := ⟨_, rfl⟩
 rw [hs] at B hgs ⊢
 generalize w.alloc _ = w1 at *
 by_cases h50 : 50 ≤ l
 ·have d50 : decide ((50 : Int) ≤ (l : Int)) = true := by simp; omega
  go_wp2_with fail
  refine Calls.mono (meda_any base g o n cap s 0 i (by omega) (by omega) _ Q.out B.out hgs (by omega)) ?_
  rintro e w2 ⟨k1, x1, hk1, hb, hx1a, hx1b, rfl, ht⟩
  replace Q := Lib.hid (Q.out.st ht (by simp; exact hgs))
  replace BA := Lib.hid (BA.out.stP ht (by simp; omega))
  replace B := Lib.hid hb
  clear hb ht
  dsimp only
  go_wp2_with fail
  refine Calls.mono (meda_any base g o n cap s k1 j (by omega) (by omega) _ Q.out B.out hgs (by omega)) ?_
  rintro e w3 ⟨k2, x2, hk2, hb, hx2a, hx2b, rfl, ht⟩
  replace Q := Lib.hid (Q.out.st ht (by simp; exact hgs))
  replace BA := Lib.hid (BA.out.stP ht (by simp; omega))
  replace B := Lib.hid hb
  clear hb ht
  dsimp only
  go_wp2_with fail
  refine Calls.mono (meda_any base g o n cap s k2 k (by omega) (by omega) _ Q.out B.out hgs (by omega)) ?_
  rintro e w4 ⟨k3, x3, hk3, hb, hx3a, hx3b, rfl, ht⟩
  replace Q := Lib.hid (Q.out.st ht (by simp; exact hgs))
  replace BA := Lib.hid (BA.out.stP ht (by simp; omega))
  replace B := Lib.hid hb
  clear hb ht
  dsimp only
  go_wp2_with fail
  refine Calls.mono (med_any base g o n cap s k3 x1 x2 x3 a (b - 1) (by omega) (by omega) (by omega) (by omega) _ Q.out B.out hgs (by omega)) ?_
  rintro e wz ⟨k9, x9, hk9, hb, hxa, hxb, rfl, ht⟩
  replace Q := Lib.hid (Q.out.st ht (by simp; exact hgs))
  replace BA := Lib.hid (BA.out.stP ht (by simp; omega))
  replace B := Lib.hid hb
  clear hb ht
  dsimp only
  have zc := B.out.cell
  have zf := B.out.frz
  have fin : ∀ h : Nat, h ≤ 2 → PivR w wz a b (.returned (.tuple #[.int .i64 (x9 : Nat), .int .i64 (h : Nat)])) := fun h hh => ⟨x9, h, by omega, by omega, hh, rfl, BA.out⟩
  by_cases h0 : k9 = 0
  ·have d0 : decide ((k9 : Int) = 0) = true := by simp; omega
   subst h0
   go_wp2_with fail
   refine bodyPost_ret (results_tmp2 rfl _ _ _) rfl ?_
   exact fin 1 (by omega)
  by_cases h12 : k9 = 12
  ·subst h12
   go_wp2_with fail
   refine bodyPost_ret (results_tmp2 rfl _ _ _) rfl ?_
   exact fin 2 (by omega)
  have i0 : ¬ ((k9 : Int) = 0) := by omega
  have i12 : ¬ ((k9 : Int) = 12) := by omega
  have d0 : decide ((k9 : Int) = 0) = false := decide_eq_false i0
  have d12 : decide ((k9 : Int) = 12) = false := decide_eq_false i12
  have b0 : ((k9 : Int) == 0) = false := by simp; omega
  have b12 : ((k9 : Int) == 12) = false := by simp; omega
  go_wp2_with fail
  refine bodyPost_ret (results_tmp2 rfl _ _ _) rfl ?_
  exact fin 0 (by omega)
 ·have d50 : decide ((50 : Int) ≤ (l : Int)) = false := by simp; omega
  go_wp2_with fail
  refine Calls.mono (med_any base g o n cap s 0 i j k a (b - 1) (by omega) (by omega) (by omega) (by omega) _ Q.out B.out hgs (by omega)) ?_
  rintro e wz ⟨k9, x9, hk9, hb, hxa, hxb, rfl, ht⟩
  replace Q := Lib.hid (Q.out.st ht (by simp; exact hgs))
  replace BA := Lib.hid (BA.out.stP ht (by simp; omega))
  replace B := Lib.hid hb
  clear hb ht
  dsimp only
  have zc := B.out.cell
  have zf := B.out.frz
  have fin : ∀ h : Nat, h ≤ 2 → PivR w wz a b (.returned (.tuple #[.int .i64 (x9 : Nat), .int .i64 (h : Nat)])) := fun h hh => ⟨x9, h, by omega, by omega, hh, rfl, BA.out⟩
  by_cases h0 : k9 = 0
  ·have d0 : decide ((k9 : Int) = 0) = true := by simp; omega
   subst h0
   go_wp2_with fail
   refine bodyPost_ret (results_tmp2 rfl _ _ _) rfl ?_
   exact fin 1 (by omega)
  by_cases h12 : k9 = 12
  ·subst h12
   go_wp2_with fail
   refine bodyPost_ret (results_tmp2 rfl _ _ _) rfl ?_
   exact fin 2 (by omega)
  have i0 : ¬ ((k9 : Int) = 0) := by omega
  have i12 : ¬ ((k9 : Int) = 12) := by omega
  have d0 : decide ((k9 : Int) = 0) = false := decide_eq_false i0
  have d12 : decide ((k9 : Int) = 12) = false := decide_eq_false i12
  have b0 : ((k9 : Int) == 0) = false := by simp; omega
  have b12 : ((k9 : Int) == 12) = false := by simp; omega
  go_wp2_with fail
  refine bodyPost_ret (results_tmp2 rfl _ _ _) rfl ?_
  exact fin 0 (by omega)
end Go.Proofs.YtafhnlnhflehhaaGreatDoor
