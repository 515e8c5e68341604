/- The reference's word which offers may be (printed by wip/gen/genOfS.py). No condition but the sizes'. -/
import Derived.Test.YtafhnlnhflehhaaGreatDoorOfR
namespace Go.Proofs.YtafhnlnhflehhaaGreatDoor
open Go.RowKit
theorem small_any (n : Int) (w : World) :
  Calls Tryz.prog 18 #[.int .i64 n] w fun e w' => e = .returned (.bool (decide (Sm n))) ∧ BW w w' := by
 obtain ⟨r, hr⟩ : ∃ r, decide (Sm n) = r := ⟨_, rfl⟩
 rw [hr]
 unfold Sm at hr
 by_cases h : 0 ≤ n
 ·have d : decide (0 ≤ n) = true := decide_eq_true h
  have d2 : decide (n ≤ 254) = r := by rw [← hr]; exact decide_eq_decide.2 (by omega)
  clear hr
  go_enter Tryz.func18, Tryz.ntmps18
  go_wp2_with fail
  go_ret
  exact ⟨rfl, BW.refl _⟩
 ·have d : decide (0 ≤ n) = false := decide_eq_false h
  obtain rfl : r = false := by rw [← hr]; exact decide_eq_false (by omega)
  clear hr
  go_enter Tryz.func18, Tryz.ntmps18
  go_wp2_with fail
  go_ret
  exact ⟨rfl, BW.refl _⟩
theorem u4_cellS {w : World} {sv : Option Addr} {n cap base : Nat} {l : List Nat} (h : SQ EU4 w base (.slice sv n cap) n l) (h0 : 0 < n) : ∃ g o, sv = some ⟨g, o, none⟩ ∧ ∀ i, i < n → w.cell? ⟨g, o + i, none⟩ = some (.int .u32 (l.getD i 0 : Nat)) := by
 have hl := h.1
 obtain ⟨g, o, cap', hsl, _, _, _, hce⟩ := h.form h0
 simp only [Value.slice.injEq] at hsl
 refine ⟨g, o, hsl.1, fun i hi => ?_⟩
 obtain ⟨c, hc, hcc⟩ := hce i (by omega)
 have hc' : c = u4V l[i] := hc
 have z0 := hcc 0 (by decide)
 have e2 : EU4.size = 1 := rfl
 rw [hc', e2, Nat.mul_one] at z0
 rw [getD_lt (by omega)]
 exact z0
set_option maxRecDepth 100000 in
set_option maxHeartbeats 8000000 in
theorem rmay_any (cs : Array Value) (d : OffD) (sW : Option Addr) (cW : Nat) (sH : Option Addr) (cH : Nat) (w : World) (h : OffV w cs d sW cW sH cH) :
  Calls Tryz.prog 8 #[.agg cs] w fun e w' => MayOR d e ∧ BW w w' := by
 obtain ⟨rfl, hw, hh⟩ := h
 obtain ⟨seat, W, H⟩ := d
 unfold offC
 dsimp only at hw hh ⊢
 obtain ⟨_, _, he, hWc, hWm⟩ := hw.len
 cases he
 obtain ⟨_, _, he, hHc, hHm⟩ := hh.len
 cases he
 unfold maxLen at hWm hHm
 obtain ⟨nW, hnW⟩ : ∃ n, W.length = n := ⟨_, rfl⟩
 obtain ⟨nH, hnHe⟩ : ∃ n, H.length = n := ⟨_, rfl⟩
 rw [hnW] at hw hWc ⊢
 rw [hnHe] at hh hHc ⊢
 have B := (BW.refl w).alloc (o := .cells #[.int .i64 seat, .slice sW nW cW, .slice sH nH cH] 25)
 have X := HpB.new w (.cells #[.int .i64 seat, .slice sW nW cW, .slice sH nH cH] 25)
 have hH := Lib.hid hh
 have hWQ := Lib.hid hw
 obtain ⟨base, hbase⟩ : ∃ b, w.heap.size = b := ⟨_, rfl⟩
 have hb0 := Lib.hid hbase
 clear hbase
 replace hnW := Lib.hid hnW
 replace hnHe := Lib.hid hnHe
 replace B := Lib.hid B
 replace X := Lib.hid X
 clear hh hw
 go_enter Tryz.func8, Tryz.ntmps8
 go_upto_region 1 with (fail)
 generalize w.alloc _ = w1 at *
 generalize hgw : w.heap.size = g at *
 have hb1 : Hid (w.heap.size = base) := Lib.hid (hgw.trans hb0.out)
 clear hb0 hgw
 have q0 := (hp_cell X.out 0).trans (show _ = some (.int .i64 seat) from rfl)
 have q1 := (hp_cell X.out 1).trans (show _ = some (.slice sW nW cW) from rfl)
 have q2 := (hp_cell X.out 2).trans (show _ = some (.slice sH nH cH) from rfl)
 go_wp2_with fail
 refine Calls.mono (small_any seat _) ?_
 rintro e w2 ⟨rfl, hb⟩
 replace X := Lib.hid (X.out.bw hb)
 replace B := Lib.hid (B.out.trans hb)
 clear hb q0 q1 q2
 have q1 := (hp_cell X.out 1).trans (show _ = some (.slice sW nW cW) from rfl)
 have q2 := (hp_cell X.out 2).trans (show _ = some (.slice sH nH cH) from rfl)
 dsimp only
 by_cases h1 : Sm seat
 case neg =>
  rw [decide_eq_false h1]
  have hNot : Hid (¬ MayO ⟨seat, W, H⟩) := Lib.hid (fun h => h1 h.1)
  clear h1
  go_wp2_with fail
  go_ret
  exact ⟨MayOR.no hNot.out, B.out⟩
 rw [decide_eq_true h1]
 by_cases h2 : 2 < nW
 case pos =>
  have d2 : decide ((2 : Int) < (nW : Int)) = true := decide_eq_true (by omega)
  have hNot : Hid (¬ MayO ⟨seat, W, H⟩) := Lib.hid (fun h => by have : W.length ≤ 2 := h.2.1.2.1; rw [hnW.out] at this; omega)
  clear h1
  go_wp2_with fail
  go_ret
  exact ⟨MayOR.no hNot.out, B.out⟩
 have d2 : decide ((2 : Int) < (nW : Int)) = false := decide_eq_false (by omega)
 by_cases h4 : 4 < nH
 case pos =>
  have d4 : decide ((4 : Int) < (nH : Int)) = true := decide_eq_true (by omega)
  have hNot : Hid (¬ MayO ⟨seat, W, H⟩) := Lib.hid (fun h => by have : H.length ≤ 4 := h.2.2.2; rw [hnHe.out] at this; omega)
  clear h1
  go_wp2_with fail
  go_ret
  exact ⟨MayOR.no hNot.out, B.out⟩
 have d4 : decide ((4 : Int) < (nH : Int)) = false := decide_eq_false (by omega)
 have Q := Lib.hid (show EQ EU4 38 w2 base (.slice none 0 0) 0 (allS (W.take 0)) from EQ.nil _ _ _ _)
 replace h1 := Lib.hid h1
 go_upto_region 5 with (fail)
 clear q1 q2 d2 d4
 go_loopg [3, 4] nW (fun m' v3 v4 wx => ∃ (i m cp : Nat) (s : Option Addr), m' = nW - i ∧ i ≤ nW ∧ v4 = .int .i64 (i : Nat) ∧ v3 = .slice s m cp ∧ m ≤ 4 * i ∧ Hid (EQ EU4 38 wx base (.slice s m cp) m (allS (W.take i))) ∧ Hid (∀ j, j < i → OkW W j) ∧ Hid (allS (W.take i)).Nodup ∧ Hid (∀ x ∈ allS (W.take i), x < 1048576) ∧ Hid (HpB wx g (.cells #[.int .i64 seat, .slice sW nW cW, .slice sH nH cH] 25)) ∧ Hid (BW w wx))
 case atStart => exact ⟨0, 0, 0, none, by omega, by omega, rfl, rfl, by omega, Q, Lib.hid (fun j hj => absurd hj (Nat.not_lt_zero _)), Lib.hid List.nodup_nil, Lib.hid (fun x hx => by cases hx), X, B⟩
 case round =>
  clear Q X B
  obtain ⟨i, m, cp, s, rfl, hi, rfl, rfl, hm, Q, hOk, hNd, hBd, X, B⟩ := hrel
  have q1 := (hp_cell X.out 1).trans (show _ = some (.slice sW nW cW) from rfl)
  by_cases hin : i < nW
  ·have dk : decide ((i : Int) < (nW : Int)) = true := by simp; omega
   have hiL : i < W.length := by rw [hnW.out]; exact hin
   obtain ⟨gw, ow, rfl, -, hc⟩ := wi_form hWQ.out (by omega)
   obtain ⟨sk, mk, ck, y0, y1, y2, hk⟩ := hc i hiL
   have hmk : (wi W i).s.length = mk := by rw [wi_get hiL]; exact hk.1
   obtain ⟨_, _, he, hkc, hkm⟩ := hk.len
   cases he
   unfold maxLen at hkm
   rw [← wi_get hiL] at y0 y1 hk
   replace hk := Lib.hid hk
   replace y0 := B.out.cell y0
   replace y1 := B.out.cell y1
   replace y2 := B.out.cell y2
   have hprev : Hid (∀ i1, i = i1 + 1 → w.cell? ⟨gw, ow + i1 * 3, none⟩ = some (.int .i64 (wi W i1).t)) := Lib.hid (fun i1 e => by
    obtain ⟨_, _, _, z0, _⟩ := hc i1 (by omega)
    rw [← wi_get] at z0
    exact z0)
   clear hc
   obtain ⟨t, ht⟩ : ∃ t, (wi W i).t = t := ⟨_, rfl⟩
   obtain ⟨c, hcc⟩ : ∃ c, (wi W i).c = c := ⟨_, rfl⟩
   rw [ht] at y0
   rw [hcc] at y1
   have hOk2 : Hid (OkW W i ↔ Sm t ∧ (0 ≤ c ∧ c < 3) ∧ (0 < i → (wi W (i - 1)).t < t) ∧ (1 ≤ mk ∧ mk ≤ 4)) := Lib.hid (by unfold OkW; rw [hmk, ht, hcc])
   have hNo : Hid (¬ OkW W i → ¬ MayO ⟨seat, W, H⟩) := Lib.hid (fun hn h => not_okW hiL hn h.2.1)
   replace ht := Lib.hid ht
   replace hcc := Lib.hid hcc
   replace hmk := Lib.hid hmk
   replace hiL := Lib.hid hiL
   go_upto_region 7 with (fail)
   rename World => wo
   go_upto_region 8 with (refine wpList_store_new rfl 41 _ _ rfl _ #[.int .i64 t, .int .i64 c, .slice sk mk ck] _ rfl rfl (by kernel_rfl) rfl rfl ?_)
   have hb := (BW.refl wo).alloc (o := .cells #[.int .i64 t, .int .i64 c, .slice sk mk ck] 41)
   have Y := Lib.hid (HpB.new wo (.cells #[.int .i64 t, .int .i64 c, .slice sk mk ck] 41))
   replace Q := Lib.hid (Q.out.bw hb)
   replace X := Lib.hid (X.out.bw hb)
   replace B := Lib.hid (B.out.trans hb)
   clear hb y0 y1 y2 q1
   generalize wo.alloc (.cells #[.int .i64 t, .int .i64 c, .slice sk mk ck] 41) = w3 at *
   generalize wo.heap.size = gx at *
   clear wo
   have mt : ∀ y : LaterS [] w3, _ := fun y => y.bw.cell ((hp_cell Y.out 0).trans (show _ = some (.int .i64 t) from rfl))
   have mc : ∀ y : LaterS [] w3, _ := fun y => y.bw.cell ((hp_cell Y.out 1).trans (show _ = some (.int .i64 c) from rfl))
   have ms : ∀ y : LaterS [] w3, _ := fun y => y.bw.cell ((hp_cell Y.out 2).trans (show _ = some (.slice sk mk ck) from rfl))
   have mw : ∀ y : LaterS [] w3, _ := fun y => y.bw.cell ((hp_cell X.out 1).trans (show _ = some (.slice (some ⟨gw, ow, none⟩) nW cW) from rfl))
   by_cases h2 : Sm t
   case neg =>
    have e2 : decide (Sm t) = false := decide_eq_false h2
    have hNot := Lib.hid (hNo.out (fun h => h2 (hOk2.out.1 h).1))
    have cS : Hid (∀ y : World, Calls Tryz.prog 18 #[.int .i64 t] y fun e w' => e = .returned (.bool false) ∧ BW y w') := Lib.hid (fun y => by rw [← e2]; exact small_any t y)
    clear h2 e2 hOk2 hOk hNo hNd hBd hprev Q hk
    refine wp_region_gg [] [] [] (by kernel_rfl) ?_
    refine hoist [] [] (a1 := ?_) 0 rfl (by kernel_rfl) (.inl ⟨rfl, rfl⟩) rfl rfl rfl (fun x K hK => ?_) ?_
    rotate_left
    ·go_big_quiet_op
     exact hK
    refine hoist [] [] (a1 := ?_) 1 rfl (by kernel_rfl) (.inl ⟨rfl, rfl⟩) rfl rfl rfl (fun x K hK => ?_) ?_
    rotate_left
    ·go_big_quiet_op
     exact hK
    refine hoist_call [] [] (a1 := ?_) 2 rfl (by kernel_rfl) (.inl ⟨rfl, rfl⟩) rfl rfl rfl (fun x K hK => ?_) ?_
    rotate_left
    ·go_big_quiet_op
     apply Exists.intro
     refine ⟨fun y => ?_, ?_⟩
     ·exact Calls.laterS_of (cS.out y.now)
     ·exact hK
    refine hoist [] [] (a1 := ?_) 3 rfl (by kernel_rfl) (.inl ⟨rfl, rfl⟩) rfl rfl rfl (fun x K hK => ?_) ?_
    rotate_left
    ·go_big_quiet_op
     exact hK
    refine hoist [] [] (a1 := ?_) 4 rfl (by kernel_rfl) (.inl ⟨rfl, rfl⟩) rfl rfl rfl (fun x K hK => ?_) ?_
    rotate_left
    ·go_big_quiet_op
     exact hK
    refine hoist_skip [] [] 5 rfl (by kernel_rfl) (.inl ⟨rfl, rfl⟩) rfl (a1 := ?_) ?_ ?_
    rotate_left
    ·simp only [Act.put, List.setIfInBounds_toArray, List.set_cons_succ, List.set_cons_zero]; rfl
    refine hoist_skip [] [] 6 rfl (by kernel_rfl) (.inl ⟨rfl, rfl⟩) rfl (a1 := ?_) ?_ ?_
    rotate_left
    ·simp only [Act.put, List.setIfInBounds_toArray, List.set_cons_succ, List.set_cons_zero]; rfl
    refine hoist_skip [] [] 7 rfl (by kernel_rfl) (.inl ⟨rfl, rfl⟩) rfl (a1 := ?_) ?_ ?_
    rotate_left
    ·simp only [Act.put, List.setIfInBounds_toArray, List.set_cons_succ, List.set_cons_zero]; rfl
    refine hoist [] [] (a1 := ?_) 8 rfl (by kernel_rfl) (.inl ⟨rfl, rfl⟩) rfl rfl rfl (fun x K hK => ?_) ?_
    rotate_left
    ·go_big_quiet_op
     exact hK
    refine hoist [] [] (a1 := ?_) 9 rfl (by kernel_rfl) (.inl ⟨rfl, rfl⟩) rfl rfl rfl (fun x K hK => ?_) ?_
    rotate_left
    ·go_big_quiet_op
     exact hK
    refine hoist_skip [] [] 10 rfl (by kernel_rfl) (.inl ⟨rfl, rfl⟩) rfl (a1 := ?_) ?_ ?_
    rotate_left
    ·simp only [Act.put, List.setIfInBounds_toArray, List.set_cons_succ, List.set_cons_zero]; rfl
    refine hoist_skip [] [] 11 rfl (by kernel_rfl) (.inl ⟨rfl, rfl⟩) rfl (a1 := ?_) ?_ ?_
    rotate_left
    ·simp only [Act.put, List.setIfInBounds_toArray, List.set_cons_succ, List.set_cons_zero]; rfl
    refine hoist_skip [] [] 12 rfl (by kernel_rfl) (.inl ⟨rfl, rfl⟩) rfl (a1 := ?_) ?_ ?_
    rotate_left
    ·simp only [Act.put, List.setIfInBounds_toArray, List.set_cons_succ, List.set_cons_zero]; rfl
    refine hoist [] [] (a1 := ?_) 13 rfl (by kernel_rfl) (.inl ⟨rfl, rfl⟩) rfl rfl rfl (fun x K hK => ?_) ?_
    rotate_left
    ·go_big_quiet_op
     exact hK
    refine hoist [] [] (a1 := ?_) 14 rfl (by kernel_rfl) (.inl ⟨rfl, rfl⟩) rfl rfl rfl (fun x K hK => ?_) ?_
    rotate_left
    ·go_big_quiet_op
     exact hK
    refine hoist_skip [] [] 15 rfl (by kernel_rfl) (.inl ⟨rfl, rfl⟩) rfl (a1 := ?_) ?_ ?_
    rotate_left
    ·simp only [Act.put, List.setIfInBounds_toArray, List.set_cons_succ, List.set_cons_zero]; rfl
    refine hoist_skip [] [] 16 rfl (by kernel_rfl) (.inl ⟨rfl, rfl⟩) rfl (a1 := ?_) ?_ ?_
    rotate_left
    ·simp only [Act.put, List.setIfInBounds_toArray, List.set_cons_succ, List.set_cons_zero]; rfl
    refine hoist_skip [] [] 17 rfl (by kernel_rfl) (.inl ⟨rfl, rfl⟩) rfl (a1 := ?_) ?_ ?_
    rotate_left
    ·simp only [Act.put, List.setIfInBounds_toArray, List.set_cons_succ, List.set_cons_zero]; rfl
    refine hoist_skip [] [] 18 rfl (by kernel_rfl) (.inl ⟨rfl, rfl⟩) rfl (a1 := ?_) ?_ ?_
    rotate_left
    ·simp only [Act.put, List.setIfInBounds_toArray, List.set_cons_succ, List.set_cons_zero]; rfl
    refine hoist_skip [] [] 19 rfl (by kernel_rfl) (.inl ⟨rfl, rfl⟩) rfl (a1 := ?_) ?_ ?_
    rotate_left
    ·simp only [Act.put, List.setIfInBounds_toArray, List.set_cons_succ, List.set_cons_zero]; rfl
    refine hoist_skip [] [] 20 rfl (by kernel_rfl) (.inl ⟨rfl, rfl⟩) rfl (a1 := ?_) ?_ ?_
    rotate_left
    ·simp only [Act.put, List.setIfInBounds_toArray, List.set_cons_succ, List.set_cons_zero]; rfl
    refine hoist_skip [] [] 21 rfl (by kernel_rfl) (.inl ⟨rfl, rfl⟩) rfl (a1 := ?_) ?_ ?_
    rotate_left
    ·simp only [Act.put, List.setIfInBounds_toArray, List.set_cons_succ, List.set_cons_zero]; rfl
    refine hoist_skip [] [] 22 rfl (by kernel_rfl) (.inl ⟨rfl, rfl⟩) rfl (a1 := ?_) ?_ ?_
    rotate_left
    ·simp only [Act.put, List.setIfInBounds_toArray, List.set_cons_succ, List.set_cons_zero]; rfl
    refine hoist_skip [] [] 23 rfl (by kernel_rfl) (.inl ⟨rfl, rfl⟩) rfl (a1 := ?_) ?_ ?_
    rotate_left
    ·simp only [Act.put, List.setIfInBounds_toArray, List.set_cons_succ, List.set_cons_zero]; rfl
    refine hoist_skip [] [] 24 rfl (by kernel_rfl) (.inl ⟨rfl, rfl⟩) rfl (a1 := ?_) ?_ ?_
    rotate_left
    ·simp only [Act.put, List.setIfInBounds_toArray, List.set_cons_succ, List.set_cons_zero]; rfl
    refine hoist_skip [] [] 25 rfl (by kernel_rfl) (.inl ⟨rfl, rfl⟩) rfl (a1 := ?_) ?_ ?_
    rotate_left
    ·simp only [Act.put, List.setIfInBounds_toArray, List.set_cons_succ, List.set_cons_zero]; rfl
    refine hoist_skip [] [] 26 rfl (by kernel_rfl) (.inl ⟨rfl, rfl⟩) rfl (a1 := ?_) ?_ ?_
    rotate_left
    ·simp only [Act.put, List.setIfInBounds_toArray, List.set_cons_succ, List.set_cons_zero]; rfl
    refine hoist_skip [] [] 27 rfl (by kernel_rfl) (.inl ⟨rfl, rfl⟩) rfl (a1 := ?_) ?_ ?_
    rotate_left
    ·simp only [Act.put, List.setIfInBounds_toArray, List.set_cons_succ, List.set_cons_zero]; rfl
    refine hoist_skip [] [] 28 rfl (by kernel_rfl) (.inl ⟨rfl, rfl⟩) rfl (a1 := ?_) ?_ ?_
    rotate_left
    ·simp only [Act.put, List.setIfInBounds_toArray, List.set_cons_succ, List.set_cons_zero]; rfl
    refine hoist [] [] (a1 := ?_) 29 rfl (by kernel_rfl) (.inl ⟨rfl, rfl⟩) rfl rfl rfl (fun x K hK => ?_) ?_
    rotate_left
    ·go_big_quiet_op
     exact hK
    refine hoist [] [] (a1 := ?_) 30 rfl (by kernel_rfl) (.inl ⟨rfl, rfl⟩) rfl rfl rfl (fun x K hK => ?_) ?_
    rotate_left
    ·go_big_quiet_op
     exact hK
    refine hoist_skip [] [] 31 rfl (by kernel_rfl) (.inl ⟨rfl, rfl⟩) rfl (a1 := ?_) ?_ ?_
    rotate_left
    ·simp only [Act.put, List.setIfInBounds_toArray, List.set_cons_succ, List.set_cons_zero]; rfl
    refine hoist_skip [] [] 32 rfl (by kernel_rfl) (.inl ⟨rfl, rfl⟩) rfl (a1 := ?_) ?_ ?_
    rotate_left
    ·simp only [Act.put, List.setIfInBounds_toArray, List.set_cons_succ, List.set_cons_zero]; rfl
    refine hoist_skip [] [] 33 rfl (by kernel_rfl) (.inl ⟨rfl, rfl⟩) rfl (a1 := ?_) ?_ ?_
    rotate_left
    ·simp only [Act.put, List.setIfInBounds_toArray, List.set_cons_succ, List.set_cons_zero]; rfl
    refine hoist_skip [] [] 34 rfl (by kernel_rfl) (.inl ⟨rfl, rfl⟩) rfl (a1 := ?_) ?_ ?_
    rotate_left
    ·simp only [Act.put, List.setIfInBounds_toArray, List.set_cons_succ, List.set_cons_zero]; rfl
    refine hoist [] [] (a1 := ?_) 35 rfl (by kernel_rfl) (.inl ⟨rfl, rfl⟩) rfl rfl rfl (fun x K hK => ?_) ?_
    rotate_left
    ·go_big_quiet_op
     exact hK
    refine hoist [] [] (a1 := ?_) 36 rfl (by kernel_rfl) (.inl ⟨rfl, rfl⟩) rfl rfl rfl (fun x K hK => ?_) ?_
    rotate_left
    ·go_big_quiet_op
     exact hK
    refine hoist_skip [] [] 37 rfl (by kernel_rfl) (.inl ⟨rfl, rfl⟩) rfl (a1 := ?_) ?_ ?_
    rotate_left
    ·simp only [Act.put, List.setIfInBounds_toArray, List.set_cons_succ, List.set_cons_zero]; rfl
    refine hoist_skip [] [] 38 rfl (by kernel_rfl) (.inl ⟨rfl, rfl⟩) rfl (a1 := ?_) ?_ ?_
    rotate_left
    ·simp only [Act.put, List.setIfInBounds_toArray, List.set_cons_succ, List.set_cons_zero]; rfl
    refine hoist_skip [] [] 39 rfl (by kernel_rfl) (.inl ⟨rfl, rfl⟩) rfl (a1 := ?_) ?_ ?_
    rotate_left
    ·simp only [Act.put, List.setIfInBounds_toArray, List.set_cons_succ, List.set_cons_zero]; rfl
    refine hoist_skip [] [] 40 rfl (by kernel_rfl) (.inl ⟨rfl, rfl⟩) rfl (a1 := ?_) ?_ ?_
    rotate_left
    ·simp only [Act.put, List.setIfInBounds_toArray, List.set_cons_succ, List.set_cons_zero]; rfl
    refine hoist [] [] (a1 := ?_) 41 rfl (by kernel_rfl) (.inl ⟨rfl, rfl⟩) rfl rfl rfl (fun x K hK => ?_) ?_
    rotate_left
    ·go_big_quiet_op
     exact hK
    refine done (by kernel_rfl) (fun xr => ?_)
    have hB := B.out.trans xr.bw
    go_wp2_with fail
    go_ret
    exact ⟨MayOR.no hNot.out, hB⟩
   have cS : Hid (∀ y : World, Calls Tryz.prog 18 #[.int .i64 t] y fun e w' => e = .returned (.bool true) ∧ BW y w') := Lib.hid (fun y => by rw [← decide_eq_true h2]; exact small_any t y)
   by_cases h3 : c < 0
   case pos =>
    have d3 : decide (c < 0) = true := decide_eq_true h3
    have hNot := Lib.hid (hNo.out (fun h => by have := (hOk2.out.1 h).2.1.1; omega))
    clear h2 h3 hOk2 hOk hNo hNd hBd hprev Q hk
    refine wp_region_gg [] [] [] (by kernel_rfl) ?_
    refine hoist [] [] (a1 := ?_) 0 rfl (by kernel_rfl) (.inl ⟨rfl, rfl⟩) rfl rfl rfl (fun x K hK => ?_) ?_
    rotate_left
    ·go_big_quiet_op
     exact hK
    refine hoist [] [] (a1 := ?_) 1 rfl (by kernel_rfl) (.inl ⟨rfl, rfl⟩) rfl rfl rfl (fun x K hK => ?_) ?_
    rotate_left
    ·go_big_quiet_op
     exact hK
    refine hoist_call [] [] (a1 := ?_) 2 rfl (by kernel_rfl) (.inl ⟨rfl, rfl⟩) rfl rfl rfl (fun x K hK => ?_) ?_
    rotate_left
    ·go_big_quiet_op
     apply Exists.intro
     refine ⟨fun y => ?_, ?_⟩
     ·exact Calls.laterS_of (cS.out y.now)
     ·exact hK
    refine hoist [] [] (a1 := ?_) 3 rfl (by kernel_rfl) (.inl ⟨rfl, rfl⟩) rfl rfl rfl (fun x K hK => ?_) ?_
    rotate_left
    ·go_big_quiet_op
     exact hK
    refine hoist [] [] (a1 := ?_) 4 rfl (by kernel_rfl) (.inl ⟨rfl, rfl⟩) rfl rfl rfl (fun x K hK => ?_) ?_
    rotate_left
    ·go_big_quiet_op
     exact hK
    refine hoist [] [] (a1 := ?_) 5 rfl (by kernel_rfl) (.inl ⟨rfl, rfl⟩) rfl rfl rfl (fun x K hK => ?_) ?_
    rotate_left
    ·go_big_quiet_op
     exact hK
    refine hoist [] [] (a1 := ?_) 6 rfl (by kernel_rfl) (.inl ⟨rfl, rfl⟩) rfl rfl rfl (fun x K hK => ?_) ?_
    rotate_left
    ·go_big_quiet_op
     exact hK
    refine hoist [] [] (a1 := ?_) 7 rfl (by kernel_rfl) (.inl ⟨rfl, rfl⟩) rfl rfl rfl (fun x K hK => ?_) ?_
    rotate_left
    ·go_big_quiet_op
     exact hK
    refine hoist [] [] (a1 := ?_) 8 rfl (by kernel_rfl) (.inl ⟨rfl, rfl⟩) rfl rfl rfl (fun x K hK => ?_) ?_
    rotate_left
    ·go_big_quiet_op
     exact hK
    refine hoist [] [] (a1 := ?_) 9 rfl (by kernel_rfl) (.inl ⟨rfl, rfl⟩) rfl rfl rfl (fun x K hK => ?_) ?_
    rotate_left
    ·go_big_quiet_op
     exact hK
    refine hoist_skip [] [] 10 rfl (by kernel_rfl) (.inl ⟨rfl, rfl⟩) rfl (a1 := ?_) ?_ ?_
    rotate_left
    ·simp only [Act.put, List.setIfInBounds_toArray, List.set_cons_succ, List.set_cons_zero]; rfl
    refine hoist_skip [] [] 11 rfl (by kernel_rfl) (.inl ⟨rfl, rfl⟩) rfl (a1 := ?_) ?_ ?_
    rotate_left
    ·simp only [Act.put, List.setIfInBounds_toArray, List.set_cons_succ, List.set_cons_zero]; rfl
    refine hoist_skip [] [] 12 rfl (by kernel_rfl) (.inl ⟨rfl, rfl⟩) rfl (a1 := ?_) ?_ ?_
    rotate_left
    ·simp only [Act.put, List.setIfInBounds_toArray, List.set_cons_succ, List.set_cons_zero]; rfl
    refine hoist [] [] (a1 := ?_) 13 rfl (by kernel_rfl) (.inl ⟨rfl, rfl⟩) rfl rfl rfl (fun x K hK => ?_) ?_
    rotate_left
    ·go_big_quiet_op
     exact hK
    refine hoist [] [] (a1 := ?_) 14 rfl (by kernel_rfl) (.inl ⟨rfl, rfl⟩) rfl rfl rfl (fun x K hK => ?_) ?_
    rotate_left
    ·go_big_quiet_op
     exact hK
    refine hoist_skip [] [] 15 rfl (by kernel_rfl) (.inl ⟨rfl, rfl⟩) rfl (a1 := ?_) ?_ ?_
    rotate_left
    ·simp only [Act.put, List.setIfInBounds_toArray, List.set_cons_succ, List.set_cons_zero]; rfl
    refine hoist_skip [] [] 16 rfl (by kernel_rfl) (.inl ⟨rfl, rfl⟩) rfl (a1 := ?_) ?_ ?_
    rotate_left
    ·simp only [Act.put, List.setIfInBounds_toArray, List.set_cons_succ, List.set_cons_zero]; rfl
    refine hoist_skip [] [] 17 rfl (by kernel_rfl) (.inl ⟨rfl, rfl⟩) rfl (a1 := ?_) ?_ ?_
    rotate_left
    ·simp only [Act.put, List.setIfInBounds_toArray, List.set_cons_succ, List.set_cons_zero]; rfl
    refine hoist_skip [] [] 18 rfl (by kernel_rfl) (.inl ⟨rfl, rfl⟩) rfl (a1 := ?_) ?_ ?_
    rotate_left
    ·simp only [Act.put, List.setIfInBounds_toArray, List.set_cons_succ, List.set_cons_zero]; rfl
    refine hoist_skip [] [] 19 rfl (by kernel_rfl) (.inl ⟨rfl, rfl⟩) rfl (a1 := ?_) ?_ ?_
    rotate_left
    ·simp only [Act.put, List.setIfInBounds_toArray, List.set_cons_succ, List.set_cons_zero]; rfl
    refine hoist_skip [] [] 20 rfl (by kernel_rfl) (.inl ⟨rfl, rfl⟩) rfl (a1 := ?_) ?_ ?_
    rotate_left
    ·simp only [Act.put, List.setIfInBounds_toArray, List.set_cons_succ, List.set_cons_zero]; rfl
    refine hoist_skip [] [] 21 rfl (by kernel_rfl) (.inl ⟨rfl, rfl⟩) rfl (a1 := ?_) ?_ ?_
    rotate_left
    ·simp only [Act.put, List.setIfInBounds_toArray, List.set_cons_succ, List.set_cons_zero]; rfl
    refine hoist_skip [] [] 22 rfl (by kernel_rfl) (.inl ⟨rfl, rfl⟩) rfl (a1 := ?_) ?_ ?_
    rotate_left
    ·simp only [Act.put, List.setIfInBounds_toArray, List.set_cons_succ, List.set_cons_zero]; rfl
    refine hoist_skip [] [] 23 rfl (by kernel_rfl) (.inl ⟨rfl, rfl⟩) rfl (a1 := ?_) ?_ ?_
    rotate_left
    ·simp only [Act.put, List.setIfInBounds_toArray, List.set_cons_succ, List.set_cons_zero]; rfl
    refine hoist_skip [] [] 24 rfl (by kernel_rfl) (.inl ⟨rfl, rfl⟩) rfl (a1 := ?_) ?_ ?_
    rotate_left
    ·simp only [Act.put, List.setIfInBounds_toArray, List.set_cons_succ, List.set_cons_zero]; rfl
    refine hoist_skip [] [] 25 rfl (by kernel_rfl) (.inl ⟨rfl, rfl⟩) rfl (a1 := ?_) ?_ ?_
    rotate_left
    ·simp only [Act.put, List.setIfInBounds_toArray, List.set_cons_succ, List.set_cons_zero]; rfl
    refine hoist_skip [] [] 26 rfl (by kernel_rfl) (.inl ⟨rfl, rfl⟩) rfl (a1 := ?_) ?_ ?_
    rotate_left
    ·simp only [Act.put, List.setIfInBounds_toArray, List.set_cons_succ, List.set_cons_zero]; rfl
    refine hoist_skip [] [] 27 rfl (by kernel_rfl) (.inl ⟨rfl, rfl⟩) rfl (a1 := ?_) ?_ ?_
    rotate_left
    ·simp only [Act.put, List.setIfInBounds_toArray, List.set_cons_succ, List.set_cons_zero]; rfl
    refine hoist_skip [] [] 28 rfl (by kernel_rfl) (.inl ⟨rfl, rfl⟩) rfl (a1 := ?_) ?_ ?_
    rotate_left
    ·simp only [Act.put, List.setIfInBounds_toArray, List.set_cons_succ, List.set_cons_zero]; rfl
    refine hoist [] [] (a1 := ?_) 29 rfl (by kernel_rfl) (.inl ⟨rfl, rfl⟩) rfl rfl rfl (fun x K hK => ?_) ?_
    rotate_left
    ·go_big_quiet_op
     exact hK
    refine hoist [] [] (a1 := ?_) 30 rfl (by kernel_rfl) (.inl ⟨rfl, rfl⟩) rfl rfl rfl (fun x K hK => ?_) ?_
    rotate_left
    ·go_big_quiet_op
     exact hK
    refine hoist_skip [] [] 31 rfl (by kernel_rfl) (.inl ⟨rfl, rfl⟩) rfl (a1 := ?_) ?_ ?_
    rotate_left
    ·simp only [Act.put, List.setIfInBounds_toArray, List.set_cons_succ, List.set_cons_zero]; rfl
    refine hoist_skip [] [] 32 rfl (by kernel_rfl) (.inl ⟨rfl, rfl⟩) rfl (a1 := ?_) ?_ ?_
    rotate_left
    ·simp only [Act.put, List.setIfInBounds_toArray, List.set_cons_succ, List.set_cons_zero]; rfl
    refine hoist_skip [] [] 33 rfl (by kernel_rfl) (.inl ⟨rfl, rfl⟩) rfl (a1 := ?_) ?_ ?_
    rotate_left
    ·simp only [Act.put, List.setIfInBounds_toArray, List.set_cons_succ, List.set_cons_zero]; rfl
    refine hoist_skip [] [] 34 rfl (by kernel_rfl) (.inl ⟨rfl, rfl⟩) rfl (a1 := ?_) ?_ ?_
    rotate_left
    ·simp only [Act.put, List.setIfInBounds_toArray, List.set_cons_succ, List.set_cons_zero]; rfl
    refine hoist [] [] (a1 := ?_) 35 rfl (by kernel_rfl) (.inl ⟨rfl, rfl⟩) rfl rfl rfl (fun x K hK => ?_) ?_
    rotate_left
    ·go_big_quiet_op
     exact hK
    refine hoist [] [] (a1 := ?_) 36 rfl (by kernel_rfl) (.inl ⟨rfl, rfl⟩) rfl rfl rfl (fun x K hK => ?_) ?_
    rotate_left
    ·go_big_quiet_op
     exact hK
    refine hoist_skip [] [] 37 rfl (by kernel_rfl) (.inl ⟨rfl, rfl⟩) rfl (a1 := ?_) ?_ ?_
    rotate_left
    ·simp only [Act.put, List.setIfInBounds_toArray, List.set_cons_succ, List.set_cons_zero]; rfl
    refine hoist_skip [] [] 38 rfl (by kernel_rfl) (.inl ⟨rfl, rfl⟩) rfl (a1 := ?_) ?_ ?_
    rotate_left
    ·simp only [Act.put, List.setIfInBounds_toArray, List.set_cons_succ, List.set_cons_zero]; rfl
    refine hoist_skip [] [] 39 rfl (by kernel_rfl) (.inl ⟨rfl, rfl⟩) rfl (a1 := ?_) ?_ ?_
    rotate_left
    ·simp only [Act.put, List.setIfInBounds_toArray, List.set_cons_succ, List.set_cons_zero]; rfl
    refine hoist_skip [] [] 40 rfl (by kernel_rfl) (.inl ⟨rfl, rfl⟩) rfl (a1 := ?_) ?_ ?_
    rotate_left
    ·simp only [Act.put, List.setIfInBounds_toArray, List.set_cons_succ, List.set_cons_zero]; rfl
    refine hoist [] [] (a1 := ?_) 41 rfl (by kernel_rfl) (.inl ⟨rfl, rfl⟩) rfl rfl rfl (fun x K hK => ?_) ?_
    rotate_left
    ·go_big_quiet_op
     exact hK
    refine done (by kernel_rfl) (fun xr => ?_)
    have hB := B.out.trans xr.bw
    go_wp2_with fail
    go_ret
    exact ⟨MayOR.no hNot.out, hB⟩
   have d3 : decide (c < 0) = false := decide_eq_false h3
   by_cases h5 : 2 < c
   case pos =>
    have d5 : decide (2 < c) = true := decide_eq_true h5
    have hNot := Lib.hid (hNo.out (fun h => by have := (hOk2.out.1 h).2.1.2; omega))
    clear h2 h3 h5 hOk2 hOk hNo hNd hBd hprev Q hk
    refine wp_region_gg [] [] [] (by kernel_rfl) ?_
    refine hoist [] [] (a1 := ?_) 0 rfl (by kernel_rfl) (.inl ⟨rfl, rfl⟩) rfl rfl rfl (fun x K hK => ?_) ?_
    rotate_left
    ·go_big_quiet_op
     exact hK
    refine hoist [] [] (a1 := ?_) 1 rfl (by kernel_rfl) (.inl ⟨rfl, rfl⟩) rfl rfl rfl (fun x K hK => ?_) ?_
    rotate_left
    ·go_big_quiet_op
     exact hK
    refine hoist_call [] [] (a1 := ?_) 2 rfl (by kernel_rfl) (.inl ⟨rfl, rfl⟩) rfl rfl rfl (fun x K hK => ?_) ?_
    rotate_left
    ·go_big_quiet_op
     apply Exists.intro
     refine ⟨fun y => ?_, ?_⟩
     ·exact Calls.laterS_of (cS.out y.now)
     ·exact hK
    refine hoist [] [] (a1 := ?_) 3 rfl (by kernel_rfl) (.inl ⟨rfl, rfl⟩) rfl rfl rfl (fun x K hK => ?_) ?_
    rotate_left
    ·go_big_quiet_op
     exact hK
    refine hoist [] [] (a1 := ?_) 4 rfl (by kernel_rfl) (.inl ⟨rfl, rfl⟩) rfl rfl rfl (fun x K hK => ?_) ?_
    rotate_left
    ·go_big_quiet_op
     exact hK
    refine hoist [] [] (a1 := ?_) 5 rfl (by kernel_rfl) (.inl ⟨rfl, rfl⟩) rfl rfl rfl (fun x K hK => ?_) ?_
    rotate_left
    ·go_big_quiet_op
     exact hK
    refine hoist [] [] (a1 := ?_) 6 rfl (by kernel_rfl) (.inl ⟨rfl, rfl⟩) rfl rfl rfl (fun x K hK => ?_) ?_
    rotate_left
    ·go_big_quiet_op
     exact hK
    refine hoist [] [] (a1 := ?_) 7 rfl (by kernel_rfl) (.inl ⟨rfl, rfl⟩) rfl rfl rfl (fun x K hK => ?_) ?_
    rotate_left
    ·go_big_quiet_op
     exact hK
    refine hoist [] [] (a1 := ?_) 8 rfl (by kernel_rfl) (.inl ⟨rfl, rfl⟩) rfl rfl rfl (fun x K hK => ?_) ?_
    rotate_left
    ·go_big_quiet_op
     exact hK
    refine hoist [] [] (a1 := ?_) 9 rfl (by kernel_rfl) (.inl ⟨rfl, rfl⟩) rfl rfl rfl (fun x K hK => ?_) ?_
    rotate_left
    ·go_big_quiet_op
     exact hK
    refine hoist [] [] (a1 := ?_) 10 rfl (by kernel_rfl) (.inl ⟨rfl, rfl⟩) rfl rfl rfl (fun x K hK => ?_) ?_
    rotate_left
    ·go_big_quiet_op
     exact hK
    refine hoist [] [] (a1 := ?_) 11 rfl (by kernel_rfl) (.inl ⟨rfl, rfl⟩) rfl rfl rfl (fun x K hK => ?_) ?_
    rotate_left
    ·go_big_quiet_op
     exact hK
    refine hoist [] [] (a1 := ?_) 12 rfl (by kernel_rfl) (.inl ⟨rfl, rfl⟩) rfl rfl rfl (fun x K hK => ?_) ?_
    rotate_left
    ·go_big_quiet_op
     exact hK
    refine hoist [] [] (a1 := ?_) 13 rfl (by kernel_rfl) (.inl ⟨rfl, rfl⟩) rfl rfl rfl (fun x K hK => ?_) ?_
    rotate_left
    ·go_big_quiet_op
     exact hK
    refine hoist [] [] (a1 := ?_) 14 rfl (by kernel_rfl) (.inl ⟨rfl, rfl⟩) rfl rfl rfl (fun x K hK => ?_) ?_
    rotate_left
    ·go_big_quiet_op
     exact hK
    refine hoist_skip [] [] 15 rfl (by kernel_rfl) (.inl ⟨rfl, rfl⟩) rfl (a1 := ?_) ?_ ?_
    rotate_left
    ·simp only [Act.put, List.setIfInBounds_toArray, List.set_cons_succ, List.set_cons_zero]; rfl
    refine hoist_skip [] [] 16 rfl (by kernel_rfl) (.inl ⟨rfl, rfl⟩) rfl (a1 := ?_) ?_ ?_
    rotate_left
    ·simp only [Act.put, List.setIfInBounds_toArray, List.set_cons_succ, List.set_cons_zero]; rfl
    refine hoist_skip [] [] 17 rfl (by kernel_rfl) (.inl ⟨rfl, rfl⟩) rfl (a1 := ?_) ?_ ?_
    rotate_left
    ·simp only [Act.put, List.setIfInBounds_toArray, List.set_cons_succ, List.set_cons_zero]; rfl
    refine hoist_skip [] [] 18 rfl (by kernel_rfl) (.inl ⟨rfl, rfl⟩) rfl (a1 := ?_) ?_ ?_
    rotate_left
    ·simp only [Act.put, List.setIfInBounds_toArray, List.set_cons_succ, List.set_cons_zero]; rfl
    refine hoist_skip [] [] 19 rfl (by kernel_rfl) (.inl ⟨rfl, rfl⟩) rfl (a1 := ?_) ?_ ?_
    rotate_left
    ·simp only [Act.put, List.setIfInBounds_toArray, List.set_cons_succ, List.set_cons_zero]; rfl
    refine hoist_skip [] [] 20 rfl (by kernel_rfl) (.inl ⟨rfl, rfl⟩) rfl (a1 := ?_) ?_ ?_
    rotate_left
    ·simp only [Act.put, List.setIfInBounds_toArray, List.set_cons_succ, List.set_cons_zero]; rfl
    refine hoist_skip [] [] 21 rfl (by kernel_rfl) (.inl ⟨rfl, rfl⟩) rfl (a1 := ?_) ?_ ?_
    rotate_left
    ·simp only [Act.put, List.setIfInBounds_toArray, List.set_cons_succ, List.set_cons_zero]; rfl
    refine hoist_skip [] [] 22 rfl (by kernel_rfl) (.inl ⟨rfl, rfl⟩) rfl (a1 := ?_) ?_ ?_
    rotate_left
    ·simp only [Act.put, List.setIfInBounds_toArray, List.set_cons_succ, List.set_cons_zero]; rfl
    refine hoist_skip [] [] 23 rfl (by kernel_rfl) (.inl ⟨rfl, rfl⟩) rfl (a1 := ?_) ?_ ?_
    rotate_left
    ·simp only [Act.put, List.setIfInBounds_toArray, List.set_cons_succ, List.set_cons_zero]; rfl
    refine hoist_skip [] [] 24 rfl (by kernel_rfl) (.inl ⟨rfl, rfl⟩) rfl (a1 := ?_) ?_ ?_
    rotate_left
    ·simp only [Act.put, List.setIfInBounds_toArray, List.set_cons_succ, List.set_cons_zero]; rfl
    refine hoist_skip [] [] 25 rfl (by kernel_rfl) (.inl ⟨rfl, rfl⟩) rfl (a1 := ?_) ?_ ?_
    rotate_left
    ·simp only [Act.put, List.setIfInBounds_toArray, List.set_cons_succ, List.set_cons_zero]; rfl
    refine hoist_skip [] [] 26 rfl (by kernel_rfl) (.inl ⟨rfl, rfl⟩) rfl (a1 := ?_) ?_ ?_
    rotate_left
    ·simp only [Act.put, List.setIfInBounds_toArray, List.set_cons_succ, List.set_cons_zero]; rfl
    refine hoist_skip [] [] 27 rfl (by kernel_rfl) (.inl ⟨rfl, rfl⟩) rfl (a1 := ?_) ?_ ?_
    rotate_left
    ·simp only [Act.put, List.setIfInBounds_toArray, List.set_cons_succ, List.set_cons_zero]; rfl
    refine hoist_skip [] [] 28 rfl (by kernel_rfl) (.inl ⟨rfl, rfl⟩) rfl (a1 := ?_) ?_ ?_
    rotate_left
    ·simp only [Act.put, List.setIfInBounds_toArray, List.set_cons_succ, List.set_cons_zero]; rfl
    refine hoist [] [] (a1 := ?_) 29 rfl (by kernel_rfl) (.inl ⟨rfl, rfl⟩) rfl rfl rfl (fun x K hK => ?_) ?_
    rotate_left
    ·go_big_quiet_op
     exact hK
    refine hoist [] [] (a1 := ?_) 30 rfl (by kernel_rfl) (.inl ⟨rfl, rfl⟩) rfl rfl rfl (fun x K hK => ?_) ?_
    rotate_left
    ·go_big_quiet_op
     exact hK
    refine hoist_skip [] [] 31 rfl (by kernel_rfl) (.inl ⟨rfl, rfl⟩) rfl (a1 := ?_) ?_ ?_
    rotate_left
    ·simp only [Act.put, List.setIfInBounds_toArray, List.set_cons_succ, List.set_cons_zero]; rfl
    refine hoist_skip [] [] 32 rfl (by kernel_rfl) (.inl ⟨rfl, rfl⟩) rfl (a1 := ?_) ?_ ?_
    rotate_left
    ·simp only [Act.put, List.setIfInBounds_toArray, List.set_cons_succ, List.set_cons_zero]; rfl
    refine hoist_skip [] [] 33 rfl (by kernel_rfl) (.inl ⟨rfl, rfl⟩) rfl (a1 := ?_) ?_ ?_
    rotate_left
    ·simp only [Act.put, List.setIfInBounds_toArray, List.set_cons_succ, List.set_cons_zero]; rfl
    refine hoist_skip [] [] 34 rfl (by kernel_rfl) (.inl ⟨rfl, rfl⟩) rfl (a1 := ?_) ?_ ?_
    rotate_left
    ·simp only [Act.put, List.setIfInBounds_toArray, List.set_cons_succ, List.set_cons_zero]; rfl
    refine hoist [] [] (a1 := ?_) 35 rfl (by kernel_rfl) (.inl ⟨rfl, rfl⟩) rfl rfl rfl (fun x K hK => ?_) ?_
    rotate_left
    ·go_big_quiet_op
     exact hK
    refine hoist [] [] (a1 := ?_) 36 rfl (by kernel_rfl) (.inl ⟨rfl, rfl⟩) rfl rfl rfl (fun x K hK => ?_) ?_
    rotate_left
    ·go_big_quiet_op
     exact hK
    refine hoist_skip [] [] 37 rfl (by kernel_rfl) (.inl ⟨rfl, rfl⟩) rfl (a1 := ?_) ?_ ?_
    rotate_left
    ·simp only [Act.put, List.setIfInBounds_toArray, List.set_cons_succ, List.set_cons_zero]; rfl
    refine hoist_skip [] [] 38 rfl (by kernel_rfl) (.inl ⟨rfl, rfl⟩) rfl (a1 := ?_) ?_ ?_
    rotate_left
    ·simp only [Act.put, List.setIfInBounds_toArray, List.set_cons_succ, List.set_cons_zero]; rfl
    refine hoist_skip [] [] 39 rfl (by kernel_rfl) (.inl ⟨rfl, rfl⟩) rfl (a1 := ?_) ?_ ?_
    rotate_left
    ·simp only [Act.put, List.setIfInBounds_toArray, List.set_cons_succ, List.set_cons_zero]; rfl
    refine hoist_skip [] [] 40 rfl (by kernel_rfl) (.inl ⟨rfl, rfl⟩) rfl (a1 := ?_) ?_ ?_
    rotate_left
    ·simp only [Act.put, List.setIfInBounds_toArray, List.set_cons_succ, List.set_cons_zero]; rfl
    refine hoist [] [] (a1 := ?_) 41 rfl (by kernel_rfl) (.inl ⟨rfl, rfl⟩) rfl rfl rfl (fun x K hK => ?_) ?_
    rotate_left
    ·go_big_quiet_op
     exact hK
    refine done (by kernel_rfl) (fun xr => ?_)
    have hB := B.out.trans xr.bw
    go_wp2_with fail
    go_ret
    exact ⟨MayOR.no hNot.out, hB⟩
   have d5 : decide (2 < c) = false := decide_eq_false h5
   by_cases h3 : 0 < i
   case pos =>
    have di : decide ((0 : Int) < (i : Int)) = true := decide_eq_true (by omega)
    obtain ⟨i1, hi1⟩ : ∃ i1, i = i1 + 1 := ⟨i - 1, by omega⟩
    have ei : (i : Int) - 1 = (i1 : Int) := by omega
    have hi1n : i1 < nW := by omega
    obtain ⟨pt, hpt⟩ : ∃ pt, (wi W i1).t = pt := ⟨_, rfl⟩
    have Cp := hprev.out i1 hi1
    rw [hpt] at Cp
    replace Cp := B.out.cell Cp
    have mp : ∀ y : LaterS [] w3, _ := fun y => y.bw.cell Cp
    clear Cp
    by_cases h4 : t ≤ pt
    case pos =>
     have d4 : decide (t ≤ pt) = true := decide_eq_true h4
     have hNot := Lib.hid (hNo.out (fun h => by have := (hOk2.out.1 h).2.2.1 h3; rw [show i - 1 = i1 by omega, hpt] at this; omega))
     replace hi1 := Lib.hid hi1
     replace hpt := Lib.hid hpt
     clear h2 h4 hprev hOk2 hNo hOk Q hk hNd hBd
     refine wp_region_gg [] [] [] (by kernel_rfl) ?_
     refine hoist [] [] (a1 := ?_) 0 rfl (by kernel_rfl) (.inl ⟨rfl, rfl⟩) rfl rfl rfl (fun x K hK => ?_) ?_
     rotate_left
     ·go_big_quiet_op
      exact hK
     refine hoist [] [] (a1 := ?_) 1 rfl (by kernel_rfl) (.inl ⟨rfl, rfl⟩) rfl rfl rfl (fun x K hK => ?_) ?_
     rotate_left
     ·go_big_quiet_op
      exact hK
     refine hoist_call [] [] (a1 := ?_) 2 rfl (by kernel_rfl) (.inl ⟨rfl, rfl⟩) rfl rfl rfl (fun x K hK => ?_) ?_
     rotate_left
     ·go_big_quiet_op
      apply Exists.intro
      refine ⟨fun y => ?_, ?_⟩
      ·exact Calls.laterS_of (cS.out y.now)
      ·exact hK
     refine hoist [] [] (a1 := ?_) 3 rfl (by kernel_rfl) (.inl ⟨rfl, rfl⟩) rfl rfl rfl (fun x K hK => ?_) ?_
     rotate_left
     ·go_big_quiet_op
      exact hK
     refine hoist [] [] (a1 := ?_) 4 rfl (by kernel_rfl) (.inl ⟨rfl, rfl⟩) rfl rfl rfl (fun x K hK => ?_) ?_
     rotate_left
     ·go_big_quiet_op
      exact hK
     refine hoist [] [] (a1 := ?_) 5 rfl (by kernel_rfl) (.inl ⟨rfl, rfl⟩) rfl rfl rfl (fun x K hK => ?_) ?_
     rotate_left
     ·go_big_quiet_op
      exact hK
     refine hoist [] [] (a1 := ?_) 6 rfl (by kernel_rfl) (.inl ⟨rfl, rfl⟩) rfl rfl rfl (fun x K hK => ?_) ?_
     rotate_left
     ·go_big_quiet_op
      exact hK
     refine hoist [] [] (a1 := ?_) 7 rfl (by kernel_rfl) (.inl ⟨rfl, rfl⟩) rfl rfl rfl (fun x K hK => ?_) ?_
     rotate_left
     ·go_big_quiet_op
      exact hK
     refine hoist [] [] (a1 := ?_) 8 rfl (by kernel_rfl) (.inl ⟨rfl, rfl⟩) rfl rfl rfl (fun x K hK => ?_) ?_
     rotate_left
     ·go_big_quiet_op
      exact hK
     refine hoist [] [] (a1 := ?_) 9 rfl (by kernel_rfl) (.inl ⟨rfl, rfl⟩) rfl rfl rfl (fun x K hK => ?_) ?_
     rotate_left
     ·go_big_quiet_op
      exact hK
     refine hoist [] [] (a1 := ?_) 10 rfl (by kernel_rfl) (.inl ⟨rfl, rfl⟩) rfl rfl rfl (fun x K hK => ?_) ?_
     rotate_left
     ·go_big_quiet_op
      exact hK
     refine hoist [] [] (a1 := ?_) 11 rfl (by kernel_rfl) (.inl ⟨rfl, rfl⟩) rfl rfl rfl (fun x K hK => ?_) ?_
     rotate_left
     ·go_big_quiet_op
      exact hK
     refine hoist [] [] (a1 := ?_) 12 rfl (by kernel_rfl) (.inl ⟨rfl, rfl⟩) rfl rfl rfl (fun x K hK => ?_) ?_
     rotate_left
     ·go_big_quiet_op
      exact hK
     refine hoist [] [] (a1 := ?_) 13 rfl (by kernel_rfl) (.inl ⟨rfl, rfl⟩) rfl rfl rfl (fun x K hK => ?_) ?_
     rotate_left
     ·go_big_quiet_op
      exact hK
     refine hoist [] [] (a1 := ?_) 14 rfl (by kernel_rfl) (.inl ⟨rfl, rfl⟩) rfl rfl rfl (fun x K hK => ?_) ?_
     rotate_left
     ·go_big_quiet_op
      exact hK
     refine hoist [] [] (a1 := ?_) 15 rfl (by kernel_rfl) (.inl ⟨rfl, rfl⟩) rfl rfl rfl (fun x K hK => ?_) ?_
     rotate_left
     ·go_big_quiet_op
      exact hK
     refine hoist [] [] (a1 := ?_) 16 rfl (by kernel_rfl) (.inl ⟨rfl, rfl⟩) rfl rfl rfl (fun x K hK => ?_) ?_
     rotate_left
     ·go_big_quiet_op
      exact hK
     refine hoist [] [] (a1 := ?_) 17 rfl (by kernel_rfl) (.inl ⟨rfl, rfl⟩) rfl rfl rfl (fun x K hK => ?_) ?_
     rotate_left
     ·go_big_quiet_op
      exact hK
     refine hoist [] [] (a1 := ?_) 18 rfl (by kernel_rfl) (.inl ⟨rfl, rfl⟩) rfl rfl rfl (fun x K hK => ?_) ?_
     rotate_left
     ·go_big_quiet_op
      exact hK
     refine hoist [] [] (a1 := ?_) 19 rfl (by kernel_rfl) (.inl ⟨rfl, rfl⟩) rfl rfl rfl (fun x K hK => ?_) ?_
     rotate_left
     ·go_big_quiet_op
      exact hK
     refine hoist [] [] (a1 := ?_) 20 rfl (by kernel_rfl) (.inl ⟨rfl, rfl⟩) rfl rfl rfl (fun x K hK => ?_) ?_
     rotate_left
     ·go_big_quiet_op
      exact hK
     refine hoist [] [] (a1 := ?_) 21 rfl (by kernel_rfl) (.inl ⟨rfl, rfl⟩) rfl rfl rfl (fun x K hK => ?_) ?_
     rotate_left
     ·go_big_quiet_op
      exact hK
     refine hoist [] [] (a1 := ?_) 22 rfl (by kernel_rfl) (.inl ⟨rfl, rfl⟩) rfl rfl rfl (fun x K hK => ?_) ?_
     rotate_left
     ·go_big_quiet_op
      exact hK
     refine hoist [] [] (a1 := ?_) 23 rfl (by kernel_rfl) (.inl ⟨rfl, rfl⟩) rfl rfl rfl (fun x K hK => ?_) ?_
     rotate_left
     ·go_big_quiet_op
      exact hK
     refine hoist [] [] (a1 := ?_) 24 rfl (by kernel_rfl) (.inl ⟨rfl, rfl⟩) rfl rfl rfl (fun x K hK => ?_) ?_
     rotate_left
     ·go_big_quiet_op
      exact hK
     refine hoist [] [] (a1 := ?_) 25 rfl (by kernel_rfl) (.inl ⟨rfl, rfl⟩) rfl rfl rfl (fun x K hK => ?_) ?_
     rotate_left
     ·go_big_quiet_op
      exact hK
     refine hoist [] [] (a1 := ?_) 26 rfl (by kernel_rfl) (.inl ⟨rfl, rfl⟩) rfl rfl rfl (fun x K hK => ?_) ?_
     rotate_left
     ·go_big_quiet_op
      exact hK
     refine hoist [] [] (a1 := ?_) 27 rfl (by kernel_rfl) (.inl ⟨rfl, rfl⟩) rfl rfl rfl (fun x K hK => ?_) ?_
     rotate_left
     ·go_big_quiet_op
      exact hK
     refine hoist [] [] (a1 := ?_) 28 rfl (by kernel_rfl) (.inl ⟨rfl, rfl⟩) rfl rfl rfl (fun x K hK => ?_) ?_
     rotate_left
     ·go_big_quiet_op
      exact hK
     refine hoist [] [] (a1 := ?_) 29 rfl (by kernel_rfl) (.inl ⟨rfl, rfl⟩) rfl rfl rfl (fun x K hK => ?_) ?_
     rotate_left
     ·go_big_quiet_op
      exact hK
     refine hoist [] [] (a1 := ?_) 30 rfl (by kernel_rfl) (.inl ⟨rfl, rfl⟩) rfl rfl rfl (fun x K hK => ?_) ?_
     rotate_left
     ·go_big_quiet_op
      exact hK
     refine hoist_skip [] [] 31 rfl (by kernel_rfl) (.inl ⟨rfl, rfl⟩) rfl (a1 := ?_) ?_ ?_
     rotate_left
     ·simp only [Act.put, List.setIfInBounds_toArray, List.set_cons_succ, List.set_cons_zero]; rfl
     refine hoist_skip [] [] 32 rfl (by kernel_rfl) (.inl ⟨rfl, rfl⟩) rfl (a1 := ?_) ?_ ?_
     rotate_left
     ·simp only [Act.put, List.setIfInBounds_toArray, List.set_cons_succ, List.set_cons_zero]; rfl
     refine hoist_skip [] [] 33 rfl (by kernel_rfl) (.inl ⟨rfl, rfl⟩) rfl (a1 := ?_) ?_ ?_
     rotate_left
     ·simp only [Act.put, List.setIfInBounds_toArray, List.set_cons_succ, List.set_cons_zero]; rfl
     refine hoist_skip [] [] 34 rfl (by kernel_rfl) (.inl ⟨rfl, rfl⟩) rfl (a1 := ?_) ?_ ?_
     rotate_left
     ·simp only [Act.put, List.setIfInBounds_toArray, List.set_cons_succ, List.set_cons_zero]; rfl
     refine hoist [] [] (a1 := ?_) 35 rfl (by kernel_rfl) (.inl ⟨rfl, rfl⟩) rfl rfl rfl (fun x K hK => ?_) ?_
     rotate_left
     ·go_big_quiet_op
      exact hK
     refine hoist [] [] (a1 := ?_) 36 rfl (by kernel_rfl) (.inl ⟨rfl, rfl⟩) rfl rfl rfl (fun x K hK => ?_) ?_
     rotate_left
     ·go_big_quiet_op
      exact hK
     refine hoist_skip [] [] 37 rfl (by kernel_rfl) (.inl ⟨rfl, rfl⟩) rfl (a1 := ?_) ?_ ?_
     rotate_left
     ·simp only [Act.put, List.setIfInBounds_toArray, List.set_cons_succ, List.set_cons_zero]; rfl
     refine hoist_skip [] [] 38 rfl (by kernel_rfl) (.inl ⟨rfl, rfl⟩) rfl (a1 := ?_) ?_ ?_
     rotate_left
     ·simp only [Act.put, List.setIfInBounds_toArray, List.set_cons_succ, List.set_cons_zero]; rfl
     refine hoist_skip [] [] 39 rfl (by kernel_rfl) (.inl ⟨rfl, rfl⟩) rfl (a1 := ?_) ?_ ?_
     rotate_left
     ·simp only [Act.put, List.setIfInBounds_toArray, List.set_cons_succ, List.set_cons_zero]; rfl
     refine hoist_skip [] [] 40 rfl (by kernel_rfl) (.inl ⟨rfl, rfl⟩) rfl (a1 := ?_) ?_ ?_
     rotate_left
     ·simp only [Act.put, List.setIfInBounds_toArray, List.set_cons_succ, List.set_cons_zero]; rfl
     refine hoist [] [] (a1 := ?_) 41 rfl (by kernel_rfl) (.inl ⟨rfl, rfl⟩) rfl rfl rfl (fun x K hK => ?_) ?_
     rotate_left
     ·go_big_quiet_op
      exact hK
     refine done (by kernel_rfl) (fun xr => ?_)
     have hB := B.out.trans xr.bw
     go_wp2_with fail
     go_ret
     exact ⟨MayOR.no hNot.out, hB⟩
    have d4 : decide (t ≤ pt) = false := decide_eq_false h4
    have hT : Hid (0 < i → (wi W (i - 1)).t < t) := Lib.hid (fun _ => by rw [show i - 1 = i1 by omega, hpt]; omega)
    replace hi1 := Lib.hid hi1
    replace hpt := Lib.hid hpt
    clear h4
    by_cases h5 : mk < 1
    case pos =>
     have d5 : decide ((mk : Int) < 1) = true := decide_eq_true (by omega)
     have hNot := Lib.hid (hNo.out (fun h => by have := (hOk2.out.1 h).2.2.2.1; omega))
     clear h2 hprev hOk2 hNo hOk Q hk hT hNd hBd
     refine wp_region_gg [] [] [] (by kernel_rfl) ?_
     refine hoist [] [] (a1 := ?_) 0 rfl (by kernel_rfl) (.inl ⟨rfl, rfl⟩) rfl rfl rfl (fun x K hK => ?_) ?_
     rotate_left
     ·go_big_quiet_op
      exact hK
     refine hoist [] [] (a1 := ?_) 1 rfl (by kernel_rfl) (.inl ⟨rfl, rfl⟩) rfl rfl rfl (fun x K hK => ?_) ?_
     rotate_left
     ·go_big_quiet_op
      exact hK
     refine hoist_call [] [] (a1 := ?_) 2 rfl (by kernel_rfl) (.inl ⟨rfl, rfl⟩) rfl rfl rfl (fun x K hK => ?_) ?_
     rotate_left
     ·go_big_quiet_op
      apply Exists.intro
      refine ⟨fun y => ?_, ?_⟩
      ·exact Calls.laterS_of (cS.out y.now)
      ·exact hK
     refine hoist [] [] (a1 := ?_) 3 rfl (by kernel_rfl) (.inl ⟨rfl, rfl⟩) rfl rfl rfl (fun x K hK => ?_) ?_
     rotate_left
     ·go_big_quiet_op
      exact hK
     refine hoist [] [] (a1 := ?_) 4 rfl (by kernel_rfl) (.inl ⟨rfl, rfl⟩) rfl rfl rfl (fun x K hK => ?_) ?_
     rotate_left
     ·go_big_quiet_op
      exact hK
     refine hoist [] [] (a1 := ?_) 5 rfl (by kernel_rfl) (.inl ⟨rfl, rfl⟩) rfl rfl rfl (fun x K hK => ?_) ?_
     rotate_left
     ·go_big_quiet_op
      exact hK
     refine hoist [] [] (a1 := ?_) 6 rfl (by kernel_rfl) (.inl ⟨rfl, rfl⟩) rfl rfl rfl (fun x K hK => ?_) ?_
     rotate_left
     ·go_big_quiet_op
      exact hK
     refine hoist [] [] (a1 := ?_) 7 rfl (by kernel_rfl) (.inl ⟨rfl, rfl⟩) rfl rfl rfl (fun x K hK => ?_) ?_
     rotate_left
     ·go_big_quiet_op
      exact hK
     refine hoist [] [] (a1 := ?_) 8 rfl (by kernel_rfl) (.inl ⟨rfl, rfl⟩) rfl rfl rfl (fun x K hK => ?_) ?_
     rotate_left
     ·go_big_quiet_op
      exact hK
     refine hoist [] [] (a1 := ?_) 9 rfl (by kernel_rfl) (.inl ⟨rfl, rfl⟩) rfl rfl rfl (fun x K hK => ?_) ?_
     rotate_left
     ·go_big_quiet_op
      exact hK
     refine hoist [] [] (a1 := ?_) 10 rfl (by kernel_rfl) (.inl ⟨rfl, rfl⟩) rfl rfl rfl (fun x K hK => ?_) ?_
     rotate_left
     ·go_big_quiet_op
      exact hK
     refine hoist [] [] (a1 := ?_) 11 rfl (by kernel_rfl) (.inl ⟨rfl, rfl⟩) rfl rfl rfl (fun x K hK => ?_) ?_
     rotate_left
     ·go_big_quiet_op
      exact hK
     refine hoist [] [] (a1 := ?_) 12 rfl (by kernel_rfl) (.inl ⟨rfl, rfl⟩) rfl rfl rfl (fun x K hK => ?_) ?_
     rotate_left
     ·go_big_quiet_op
      exact hK
     refine hoist [] [] (a1 := ?_) 13 rfl (by kernel_rfl) (.inl ⟨rfl, rfl⟩) rfl rfl rfl (fun x K hK => ?_) ?_
     rotate_left
     ·go_big_quiet_op
      exact hK
     refine hoist [] [] (a1 := ?_) 14 rfl (by kernel_rfl) (.inl ⟨rfl, rfl⟩) rfl rfl rfl (fun x K hK => ?_) ?_
     rotate_left
     ·go_big_quiet_op
      exact hK
     refine hoist [] [] (a1 := ?_) 15 rfl (by kernel_rfl) (.inl ⟨rfl, rfl⟩) rfl rfl rfl (fun x K hK => ?_) ?_
     rotate_left
     ·go_big_quiet_op
      exact hK
     refine hoist [] [] (a1 := ?_) 16 rfl (by kernel_rfl) (.inl ⟨rfl, rfl⟩) rfl rfl rfl (fun x K hK => ?_) ?_
     rotate_left
     ·go_big_quiet_op
      exact hK
     refine hoist [] [] (a1 := ?_) 17 rfl (by kernel_rfl) (.inl ⟨rfl, rfl⟩) rfl rfl rfl (fun x K hK => ?_) ?_
     rotate_left
     ·go_big_quiet_op
      exact hK
     refine hoist [] [] (a1 := ?_) 18 rfl (by kernel_rfl) (.inl ⟨rfl, rfl⟩) rfl rfl rfl (fun x K hK => ?_) ?_
     rotate_left
     ·go_big_quiet_op
      exact hK
     refine hoist [] [] (a1 := ?_) 19 rfl (by kernel_rfl) (.inl ⟨rfl, rfl⟩) rfl rfl rfl (fun x K hK => ?_) ?_
     rotate_left
     ·go_big_quiet_op
      exact hK
     refine hoist [] [] (a1 := ?_) 20 rfl (by kernel_rfl) (.inl ⟨rfl, rfl⟩) rfl rfl rfl (fun x K hK => ?_) ?_
     rotate_left
     ·go_big_quiet_op
      exact hK
     refine hoist [] [] (a1 := ?_) 21 rfl (by kernel_rfl) (.inl ⟨rfl, rfl⟩) rfl rfl rfl (fun x K hK => ?_) ?_
     rotate_left
     ·go_big_quiet_op
      exact hK
     refine hoist [] [] (a1 := ?_) 22 rfl (by kernel_rfl) (.inl ⟨rfl, rfl⟩) rfl rfl rfl (fun x K hK => ?_) ?_
     rotate_left
     ·go_big_quiet_op
      exact hK
     refine hoist [] [] (a1 := ?_) 23 rfl (by kernel_rfl) (.inl ⟨rfl, rfl⟩) rfl rfl rfl (fun x K hK => ?_) ?_
     rotate_left
     ·go_big_quiet_op
      exact hK
     refine hoist [] [] (a1 := ?_) 24 rfl (by kernel_rfl) (.inl ⟨rfl, rfl⟩) rfl rfl rfl (fun x K hK => ?_) ?_
     rotate_left
     ·go_big_quiet_op
      exact hK
     refine hoist [] [] (a1 := ?_) 25 rfl (by kernel_rfl) (.inl ⟨rfl, rfl⟩) rfl rfl rfl (fun x K hK => ?_) ?_
     rotate_left
     ·go_big_quiet_op
      exact hK
     refine hoist [] [] (a1 := ?_) 26 rfl (by kernel_rfl) (.inl ⟨rfl, rfl⟩) rfl rfl rfl (fun x K hK => ?_) ?_
     rotate_left
     ·go_big_quiet_op
      exact hK
     refine hoist [] [] (a1 := ?_) 27 rfl (by kernel_rfl) (.inl ⟨rfl, rfl⟩) rfl rfl rfl (fun x K hK => ?_) ?_
     rotate_left
     ·go_big_quiet_op
      exact hK
     refine hoist [] [] (a1 := ?_) 28 rfl (by kernel_rfl) (.inl ⟨rfl, rfl⟩) rfl rfl rfl (fun x K hK => ?_) ?_
     rotate_left
     ·go_big_quiet_op
      exact hK
     refine hoist [] [] (a1 := ?_) 29 rfl (by kernel_rfl) (.inl ⟨rfl, rfl⟩) rfl rfl rfl (fun x K hK => ?_) ?_
     rotate_left
     ·go_big_quiet_op
      exact hK
     refine hoist [] [] (a1 := ?_) 30 rfl (by kernel_rfl) (.inl ⟨rfl, rfl⟩) rfl rfl rfl (fun x K hK => ?_) ?_
     rotate_left
     ·go_big_quiet_op
      exact hK
     refine hoist [] [] (a1 := ?_) 31 rfl (by kernel_rfl) (.inl ⟨rfl, rfl⟩) rfl rfl rfl (fun x K hK => ?_) ?_
     rotate_left
     ·go_big_quiet_op
      exact hK
     refine hoist [] [] (a1 := ?_) 32 rfl (by kernel_rfl) (.inl ⟨rfl, rfl⟩) rfl rfl rfl (fun x K hK => ?_) ?_
     rotate_left
     ·go_big_quiet_op
      exact hK
     refine hoist [] [] (a1 := ?_) 33 rfl (by kernel_rfl) (.inl ⟨rfl, rfl⟩) rfl rfl rfl (fun x K hK => ?_) ?_
     rotate_left
     ·go_big_quiet_op
      exact hK
     refine hoist [] [] (a1 := ?_) 34 rfl (by kernel_rfl) (.inl ⟨rfl, rfl⟩) rfl rfl rfl (fun x K hK => ?_) ?_
     rotate_left
     ·go_big_quiet_op
      exact hK
     refine hoist [] [] (a1 := ?_) 35 rfl (by kernel_rfl) (.inl ⟨rfl, rfl⟩) rfl rfl rfl (fun x K hK => ?_) ?_
     rotate_left
     ·go_big_quiet_op
      exact hK
     refine hoist [] [] (a1 := ?_) 36 rfl (by kernel_rfl) (.inl ⟨rfl, rfl⟩) rfl rfl rfl (fun x K hK => ?_) ?_
     rotate_left
     ·go_big_quiet_op
      exact hK
     refine hoist_skip [] [] 37 rfl (by kernel_rfl) (.inl ⟨rfl, rfl⟩) rfl (a1 := ?_) ?_ ?_
     rotate_left
     ·simp only [Act.put, List.setIfInBounds_toArray, List.set_cons_succ, List.set_cons_zero]; rfl
     refine hoist_skip [] [] 38 rfl (by kernel_rfl) (.inl ⟨rfl, rfl⟩) rfl (a1 := ?_) ?_ ?_
     rotate_left
     ·simp only [Act.put, List.setIfInBounds_toArray, List.set_cons_succ, List.set_cons_zero]; rfl
     refine hoist_skip [] [] 39 rfl (by kernel_rfl) (.inl ⟨rfl, rfl⟩) rfl (a1 := ?_) ?_ ?_
     rotate_left
     ·simp only [Act.put, List.setIfInBounds_toArray, List.set_cons_succ, List.set_cons_zero]; rfl
     refine hoist_skip [] [] 40 rfl (by kernel_rfl) (.inl ⟨rfl, rfl⟩) rfl (a1 := ?_) ?_ ?_
     rotate_left
     ·simp only [Act.put, List.setIfInBounds_toArray, List.set_cons_succ, List.set_cons_zero]; rfl
     refine hoist [] [] (a1 := ?_) 41 rfl (by kernel_rfl) (.inl ⟨rfl, rfl⟩) rfl rfl rfl (fun x K hK => ?_) ?_
     rotate_left
     ·go_big_quiet_op
      exact hK
     refine done (by kernel_rfl) (fun xr => ?_)
     have hB := B.out.trans xr.bw
     go_wp2_with fail
     go_ret
     exact ⟨MayOR.no hNot.out, hB⟩
    have d6 : decide ((mk : Int) < 1) = false := decide_eq_false (by omega)
    refine wp_region_gg [] [] [] (by kernel_rfl) ?_
    refine hoist [] [] (a1 := ?_) 0 rfl (by kernel_rfl) (.inl ⟨rfl, rfl⟩) rfl rfl rfl (fun x K hK => ?_) ?_
    rotate_left
    ·go_big_quiet_op
     exact hK
    refine hoist [] [] (a1 := ?_) 1 rfl (by kernel_rfl) (.inl ⟨rfl, rfl⟩) rfl rfl rfl (fun x K hK => ?_) ?_
    rotate_left
    ·go_big_quiet_op
     exact hK
    refine hoist_call [] [] (a1 := ?_) 2 rfl (by kernel_rfl) (.inl ⟨rfl, rfl⟩) rfl rfl rfl (fun x K hK => ?_) ?_
    rotate_left
    ·go_big_quiet_op
     apply Exists.intro
     refine ⟨fun y => ?_, ?_⟩
     ·exact Calls.laterS_of (cS.out y.now)
     ·exact hK
    refine hoist [] [] (a1 := ?_) 3 rfl (by kernel_rfl) (.inl ⟨rfl, rfl⟩) rfl rfl rfl (fun x K hK => ?_) ?_
    rotate_left
    ·go_big_quiet_op
     exact hK
    refine hoist [] [] (a1 := ?_) 4 rfl (by kernel_rfl) (.inl ⟨rfl, rfl⟩) rfl rfl rfl (fun x K hK => ?_) ?_
    rotate_left
    ·go_big_quiet_op
     exact hK
    refine hoist [] [] (a1 := ?_) 5 rfl (by kernel_rfl) (.inl ⟨rfl, rfl⟩) rfl rfl rfl (fun x K hK => ?_) ?_
    rotate_left
    ·go_big_quiet_op
     exact hK
    refine hoist [] [] (a1 := ?_) 6 rfl (by kernel_rfl) (.inl ⟨rfl, rfl⟩) rfl rfl rfl (fun x K hK => ?_) ?_
    rotate_left
    ·go_big_quiet_op
     exact hK
    refine hoist [] [] (a1 := ?_) 7 rfl (by kernel_rfl) (.inl ⟨rfl, rfl⟩) rfl rfl rfl (fun x K hK => ?_) ?_
    rotate_left
    ·go_big_quiet_op
     exact hK
    refine hoist [] [] (a1 := ?_) 8 rfl (by kernel_rfl) (.inl ⟨rfl, rfl⟩) rfl rfl rfl (fun x K hK => ?_) ?_
    rotate_left
    ·go_big_quiet_op
     exact hK
    refine hoist [] [] (a1 := ?_) 9 rfl (by kernel_rfl) (.inl ⟨rfl, rfl⟩) rfl rfl rfl (fun x K hK => ?_) ?_
    rotate_left
    ·go_big_quiet_op
     exact hK
    refine hoist [] [] (a1 := ?_) 10 rfl (by kernel_rfl) (.inl ⟨rfl, rfl⟩) rfl rfl rfl (fun x K hK => ?_) ?_
    rotate_left
    ·go_big_quiet_op
     exact hK
    refine hoist [] [] (a1 := ?_) 11 rfl (by kernel_rfl) (.inl ⟨rfl, rfl⟩) rfl rfl rfl (fun x K hK => ?_) ?_
    rotate_left
    ·go_big_quiet_op
     exact hK
    refine hoist [] [] (a1 := ?_) 12 rfl (by kernel_rfl) (.inl ⟨rfl, rfl⟩) rfl rfl rfl (fun x K hK => ?_) ?_
    rotate_left
    ·go_big_quiet_op
     exact hK
    refine hoist [] [] (a1 := ?_) 13 rfl (by kernel_rfl) (.inl ⟨rfl, rfl⟩) rfl rfl rfl (fun x K hK => ?_) ?_
    rotate_left
    ·go_big_quiet_op
     exact hK
    refine hoist [] [] (a1 := ?_) 14 rfl (by kernel_rfl) (.inl ⟨rfl, rfl⟩) rfl rfl rfl (fun x K hK => ?_) ?_
    rotate_left
    ·go_big_quiet_op
     exact hK
    refine hoist [] [] (a1 := ?_) 15 rfl (by kernel_rfl) (.inl ⟨rfl, rfl⟩) rfl rfl rfl (fun x K hK => ?_) ?_
    rotate_left
    ·go_big_quiet_op
     exact hK
    refine hoist [] [] (a1 := ?_) 16 rfl (by kernel_rfl) (.inl ⟨rfl, rfl⟩) rfl rfl rfl (fun x K hK => ?_) ?_
    rotate_left
    ·go_big_quiet_op
     exact hK
    refine hoist [] [] (a1 := ?_) 17 rfl (by kernel_rfl) (.inl ⟨rfl, rfl⟩) rfl rfl rfl (fun x K hK => ?_) ?_
    rotate_left
    ·go_big_quiet_op
     exact hK
    refine hoist [] [] (a1 := ?_) 18 rfl (by kernel_rfl) (.inl ⟨rfl, rfl⟩) rfl rfl rfl (fun x K hK => ?_) ?_
    rotate_left
    ·go_big_quiet_op
     exact hK
    refine hoist [] [] (a1 := ?_) 19 rfl (by kernel_rfl) (.inl ⟨rfl, rfl⟩) rfl rfl rfl (fun x K hK => ?_) ?_
    rotate_left
    ·go_big_quiet_op
     exact hK
    refine hoist [] [] (a1 := ?_) 20 rfl (by kernel_rfl) (.inl ⟨rfl, rfl⟩) rfl rfl rfl (fun x K hK => ?_) ?_
    rotate_left
    ·go_big_quiet_op
     exact hK
    refine hoist [] [] (a1 := ?_) 21 rfl (by kernel_rfl) (.inl ⟨rfl, rfl⟩) rfl rfl rfl (fun x K hK => ?_) ?_
    rotate_left
    ·go_big_quiet_op
     exact hK
    refine hoist [] [] (a1 := ?_) 22 rfl (by kernel_rfl) (.inl ⟨rfl, rfl⟩) rfl rfl rfl (fun x K hK => ?_) ?_
    rotate_left
    ·go_big_quiet_op
     exact hK
    refine hoist [] [] (a1 := ?_) 23 rfl (by kernel_rfl) (.inl ⟨rfl, rfl⟩) rfl rfl rfl (fun x K hK => ?_) ?_
    rotate_left
    ·go_big_quiet_op
     exact hK
    refine hoist [] [] (a1 := ?_) 24 rfl (by kernel_rfl) (.inl ⟨rfl, rfl⟩) rfl rfl rfl (fun x K hK => ?_) ?_
    rotate_left
    ·go_big_quiet_op
     exact hK
    refine hoist [] [] (a1 := ?_) 25 rfl (by kernel_rfl) (.inl ⟨rfl, rfl⟩) rfl rfl rfl (fun x K hK => ?_) ?_
    rotate_left
    ·go_big_quiet_op
     exact hK
    refine hoist [] [] (a1 := ?_) 26 rfl (by kernel_rfl) (.inl ⟨rfl, rfl⟩) rfl rfl rfl (fun x K hK => ?_) ?_
    rotate_left
    ·go_big_quiet_op
     exact hK
    refine hoist [] [] (a1 := ?_) 27 rfl (by kernel_rfl) (.inl ⟨rfl, rfl⟩) rfl rfl rfl (fun x K hK => ?_) ?_
    rotate_left
    ·go_big_quiet_op
     exact hK
    refine hoist [] [] (a1 := ?_) 28 rfl (by kernel_rfl) (.inl ⟨rfl, rfl⟩) rfl rfl rfl (fun x K hK => ?_) ?_
    rotate_left
    ·go_big_quiet_op
     exact hK
    refine hoist [] [] (a1 := ?_) 29 rfl (by kernel_rfl) (.inl ⟨rfl, rfl⟩) rfl rfl rfl (fun x K hK => ?_) ?_
    rotate_left
    ·go_big_quiet_op
     exact hK
    refine hoist [] [] (a1 := ?_) 30 rfl (by kernel_rfl) (.inl ⟨rfl, rfl⟩) rfl rfl rfl (fun x K hK => ?_) ?_
    rotate_left
    ·go_big_quiet_op
     exact hK
    refine hoist [] [] (a1 := ?_) 31 rfl (by kernel_rfl) (.inl ⟨rfl, rfl⟩) rfl rfl rfl (fun x K hK => ?_) ?_
    rotate_left
    ·go_big_quiet_op
     exact hK
    refine hoist [] [] (a1 := ?_) 32 rfl (by kernel_rfl) (.inl ⟨rfl, rfl⟩) rfl rfl rfl (fun x K hK => ?_) ?_
    rotate_left
    ·go_big_quiet_op
     exact hK
    refine hoist [] [] (a1 := ?_) 33 rfl (by kernel_rfl) (.inl ⟨rfl, rfl⟩) rfl rfl rfl (fun x K hK => ?_) ?_
    rotate_left
    ·go_big_quiet_op
     exact hK
    refine hoist [] [] (a1 := ?_) 34 rfl (by kernel_rfl) (.inl ⟨rfl, rfl⟩) rfl rfl rfl (fun x K hK => ?_) ?_
    rotate_left
    ·go_big_quiet_op
     exact hK
    refine hoist [] [] (a1 := ?_) 35 rfl (by kernel_rfl) (.inl ⟨rfl, rfl⟩) rfl rfl rfl (fun x K hK => ?_) ?_
    rotate_left
    ·go_big_quiet_op
     exact hK
    refine hoist [] [] (a1 := ?_) 36 rfl (by kernel_rfl) (.inl ⟨rfl, rfl⟩) rfl rfl rfl (fun x K hK => ?_) ?_
    rotate_left
    ·go_big_quiet_op
     exact hK
    refine hoist [] [] (a1 := ?_) 37 rfl (by kernel_rfl) (.inl ⟨rfl, rfl⟩) rfl rfl rfl (fun x K hK => ?_) ?_
    rotate_left
    ·go_big_quiet_op
     exact hK
    refine hoist [] [] (a1 := ?_) 38 rfl (by kernel_rfl) (.inl ⟨rfl, rfl⟩) rfl rfl rfl (fun x K hK => ?_) ?_
    rotate_left
    ·go_big_quiet_op
     exact hK
    refine hoist [] [] (a1 := ?_) 39 rfl (by kernel_rfl) (.inl ⟨rfl, rfl⟩) rfl rfl rfl (fun x K hK => ?_) ?_
    rotate_left
    ·go_big_quiet_op
     exact hK
    refine hoist [] [] (a1 := ?_) 40 rfl (by kernel_rfl) (.inl ⟨rfl, rfl⟩) rfl rfl rfl (fun x K hK => ?_) ?_
    rotate_left
    ·go_big_quiet_op
     exact hK
    refine hoist [] [] (a1 := ?_) 41 rfl (by kernel_rfl) (.inl ⟨rfl, rfl⟩) rfl rfl rfl (fun x K hK => ?_) ?_
    rotate_left
    ·go_big_quiet_op
     exact hK
    refine done (by kernel_rfl) (fun xr => ?_)
    replace X := Lib.hid (X.out.bw xr.bw)
    replace Y := Lib.hid (Y.out.bw xr.bw)
    replace Q := Lib.hid (Q.out.bw xr.bw)
    replace B := Lib.hid (B.out.trans xr.bw)
    clear mt mc ms mw cS hprev
    try clear mp
    generalize xr.now = w5 at *
    clear xr
    by_cases h8 : 4 < mk
    ·have d8 : decide ((4 : Int) < (mk : Int)) = true := decide_eq_true (by omega)
     have hNot := Lib.hid (hNo.out (fun h => by have := (hOk2.out.1 h).2.2.2.2; omega))
     clear hOk2 hOk hNo hNd hBd Q hk
     go_wp2_with fail
     go_ret
     exact ⟨MayOR.no hNot.out, B.out⟩
    ·have d8 : decide ((4 : Int) < (mk : Int)) = false := decide_eq_false (by omega)
     have hI := Lib.hid (hOk2.out.2 ⟨h2, by omega, hT.out, by omega, by omega⟩)
     have hOk3 : Hid (∀ j, j < i + 1 → OkW W j) := Lib.hid (fun j hj => by
      by_cases e : j < i
      ·exact hOk.out j e
      ·obtain rfl : j = i := by omega
       exact hI.out)
     have hmk4 : mk ≤ 4 := by omega
     clear hOk2 hOk hI hT h2 hNo
     have hTk : Hid (W.take i = W.take i) := Lib.hid rfl
     go_upto_region 11 with (fail)
     have hQ0 : Hid (EQ EU4 38 w5 base (.slice s m cp) m (allS (W.take i) ++ (wi W i).s.take 0)) := Lib.hid (by rw [List.take_zero, List.append_nil]; exact Q.out)
     have hN0 : Hid (allS (W.take i) ++ (wi W i).s.take 0).Nodup := Lib.hid (by rw [List.take_zero, List.append_nil]; exact hNd.out)
     have hB0 : Hid (∀ x ∈ allS (W.take i) ++ (wi W i).s.take 0, x < 1048576) := Lib.hid (by rw [List.take_zero, List.append_nil]; exact hBd.out)
     clear Q hNd hBd
     rename World => wo
     go_loopg [3, 6] mk (fun m' v3 v6 wx => ∃ (k mm cp : Nat) (s : Option Addr), m' = mk - k ∧ k ≤ mk ∧ v6 = .int .i64 (k : Nat) ∧ v3 = .slice s mm cp ∧ Hid (mm = m + k) ∧ mm ≤ 12 ∧ Hid (EQ EU4 38 wx base (.slice s mm cp) mm (allS (W.take i) ++ (wi W i).s.take k)) ∧ Hid (allS (W.take i) ++ (wi W i).s.take k).Nodup ∧ Hid (∀ x ∈ allS (W.take i) ++ (wi W i).s.take k, x < 1048576) ∧ Hid (HpB wx g (.cells #[.int .i64 seat, .slice (some ⟨gw, ow, none⟩) nW cW, .slice sH nH cH] 25)) ∧ Hid (HpB wx gx (.cells #[.int .i64 t, .int .i64 c, .slice sk mk ck] 41)) ∧ Hid (BW w wx))
     case atStart => exact ⟨0, m, cp, s, by omega, by omega, rfl, rfl, Lib.hid rfl, by omega, hQ0, hN0, hB0, X, Y, B⟩
     case round =>
      clear hQ0 hN0 hB0 X Y B
      obtain ⟨k, mm, cp, s, rfl, hkm2, rfl, rfl, hmm, hm12, Q, hNd, hBd, X, Y, B⟩ := hrel
      obtain ⟨_, _, he, hmcp, hcpm⟩ := Q.out.len
      cases he
      unfold maxLen at hcpm
      have y2 := (hp_cell Y.out 2).trans (show _ = some (.slice sk mk ck) from rfl)
      by_cases hkk : k < mk
      ·have dk2 : decide ((k : Int) < (mk : Int)) = true := by simp; omega
       obtain ⟨gk, ok, rfl, hc⟩ := u4_cellS hk.out (by omega)
       obtain ⟨xk, hxk⟩ : ∃ x, (wi W i).s.getD k 0 = x := ⟨_, rfl⟩
       have hkl : k < (wi W i).s.length := by rw [hmk.out]; exact hkk
       have hxg : Hid ((wi W i).s[k] = xk) := Lib.hid (by rw [← hxk, getD_lt hkl])
       have zk := hc k hkk
       rw [hxk] at zk
       replace zk := Lib.hid (B.out.cell zk)
       clear hc
       replace hxk := Lib.hid hxk
       replace hkl := Lib.hid hkl
       go_upto_region 14 with (fail)
       clear y2
       rename World => wo
       go_loopg [7] mm (fun m' v7 wx => ∃ n : Nat, m' = mm - n ∧ n ≤ mm ∧ v7 = .int .i64 (n : Nat) ∧ Hid (∀ q, q < n → (allS (W.take i) ++ (wi W i).s.take k).getD q 0 ≠ xk) ∧ Hid (BW wo wx))
       case atStart => exact ⟨0, by omega, by omega, rfl, Lib.hid (fun q hq => absurd hq (Nat.not_lt_zero _)), Lib.hid (BW.refl _)⟩
       case round =>
        obtain ⟨n, rfl, hnm, rfl, hne, C⟩ := hrel
        by_cases hn : n < mm
        ·have dn : decide ((n : Int) < (mm : Int)) = true := by simp; omega
         have hQx := Q.out.bw C.out
         obtain ⟨ga, oa, cp', hsl, -⟩ := hQx.form (by omega)
         cases hsl
         have za := u4_cell hQx n hn
         obtain ⟨xa, hxa⟩ : ∃ x, (allS (W.take i) ++ (wi W i).s.take k).getD n 0 = x := ⟨_, rfl⟩
         rw [hxa] at za
         have zk2 := C.out.cell zk.out
         have y2 := (hp_cell (Y.out.bw C.out) 2).trans (show _ = some (.slice (some ⟨gk, ok, none⟩) mk ck) from rfl)
         clear hQx
         replace hxa := Lib.hid hxa
         go_upto_region 16 with (fail)
         have na : ∀ y : LaterS [] wr, _ := fun y => y.bw.cell za
         have nk : ∀ y : LaterS [] wr, _ := fun y => y.bw.cell zk2
         have n2 : ∀ y : LaterS [] wr, _ := fun y => y.bw.cell y2
         refine wp_region_gg [] [] [] (by kernel_rfl) ?_
         refine hoist [] [] (a1 := ?_) 0 rfl (by kernel_rfl) (.inl ⟨rfl, rfl⟩) rfl rfl rfl (fun x K hK => ?_) ?_
         rotate_left
         ·go_big_quiet_op
          exact hK
         refine hoist [] [] (a1 := ?_) 1 rfl (by kernel_rfl) (.inl ⟨rfl, rfl⟩) rfl rfl rfl (fun x K hK => ?_) ?_
         rotate_left
         ·go_big_quiet_op
          exact hK
         refine hoist [] [] (a1 := ?_) 2 rfl (by kernel_rfl) (.inl ⟨rfl, rfl⟩) rfl rfl rfl (fun x K hK => ?_) ?_
         rotate_left
         ·go_big_quiet_op
          exact hK
         refine hoist [] [] (a1 := ?_) 3 rfl (by kernel_rfl) (.inl ⟨rfl, rfl⟩) rfl rfl rfl (fun x K hK => ?_) ?_
         rotate_left
         ·go_big_quiet_op
          exact hK
         refine hoist [] [] (a1 := ?_) 4 rfl (by kernel_rfl) (.inl ⟨rfl, rfl⟩) rfl rfl rfl (fun x K hK => ?_) ?_
         rotate_left
         ·go_big_quiet_op
          exact hK
         refine hoist [] [] (a1 := ?_) 5 rfl (by kernel_rfl) (.inl ⟨rfl, rfl⟩) rfl rfl rfl (fun x K hK => ?_) ?_
         rotate_left
         ·go_big_quiet_op
          exact hK
         refine hoist [] [] (a1 := ?_) 6 rfl (by kernel_rfl) (.inl ⟨rfl, rfl⟩) rfl rfl rfl (fun x K hK => ?_) ?_
         rotate_left
         ·go_big_quiet_op
          exact hK
         refine hoist [] [] (a1 := ?_) 7 rfl (by kernel_rfl) (.inl ⟨rfl, rfl⟩) rfl rfl rfl (fun x K hK => ?_) ?_
         rotate_left
         ·go_big_quiet_op
          exact hK
         refine hoist [] [] (a1 := ?_) 8 rfl (by kernel_rfl) (.inl ⟨rfl, rfl⟩) rfl rfl rfl (fun x K hK => ?_) ?_
         rotate_left
         ·go_big_quiet_op
          exact hK
         refine hoist [] [] (a1 := ?_) 9 rfl (by kernel_rfl) (.inl ⟨rfl, rfl⟩) rfl rfl rfl (fun x K hK => ?_) ?_
         rotate_left
         ·go_big_quiet_op
          exact hK
         refine done (by kernel_rfl) (fun xr => ?_)
         have C2 := Lib.hid (C.out.trans xr.bw)
         clear na nk n2 za zk2 y2 C
         generalize xr.now = w9 at *
         clear xr
         by_cases hq : xa = xk
         ·have dq : ((xa : Int) == (xk : Int)) = true := by rw [hq]; exact beq_self_eq_true _
          have hNot : Hid (¬ MayO ⟨seat, W, H⟩) := Lib.hid (fun h => by
           refine dup_not hiL.out hkl.out ?_ h.2.1.2.2.1
           rw [hxg.out, ← hq, ← hxa.out, getD_lt (by have := Q.out.1; omega)]
           exact List.getElem_mem _)
          replace hq := Lib.hid hq
          clear hne
          go_wp2_with fail
          go_ret
          exact ⟨MayOR.no hNot.out, B.out.trans C2.out⟩
         ·have dq : ((xa : Int) == (xk : Int)) = false := beq_eq_false_iff_ne.2 (fun e => hq (Int.ofNat_inj.1 e))
          have hne2 : Hid (∀ q, q < n + 1 → (allS (W.take i) ++ (wi W i).s.take k).getD q 0 ≠ xk) := Lib.hid (fun q hq2 => by
           by_cases e : q < n
           ·exact hne.out q e
           ·obtain rfl : q = n := by omega
            rw [hxa.out]; exact hq)
          replace hq := Lib.hid hq
          clear hne
          go_wp2_with fail
          go_roundg (mm - (n + 1))
          case measure => omega
          case rel => exact ⟨n + 1, rfl, by omega, by push_cast; rfl, hne2, C2⟩
        ·obtain rfl : n = mm := by omega
         have dn : decide ((n : Int) < (n : Int)) = false := by simp
         replace Q := Lib.hid (Q.out.bw C.out)
         replace X := Lib.hid (X.out.bw C.out)
         replace Y := Lib.hid (Y.out.bw C.out)
         replace B := Lib.hid (B.out.trans C.out)
         have zk2 := C.out.cell zk.out
         have y2 := (hp_cell Y.out 2).trans (show _ = some (.slice (some ⟨gk, ok, none⟩) mk ck) from rfl)
         clear C zk
         by_cases hbig : 1048576 ≤ xk
         ·have db : decide ((1048576 : Int) ≤ (xk : Int)) = true := decide_eq_true (by omega)
          have hNot : Hid (¬ MayO ⟨seat, W, H⟩) := Lib.hid (fun h => by
           have := h.2.1.2.2.2 _ (src_mem hiL.out hkl.out)
           rw [hxg.out] at this
           omega)
          replace hbig := Lib.hid hbig
          go_wp2_with fail
          go_ret
          exact ⟨MayOR.no hNot.out, B.out⟩
         ·have db : decide ((1048576 : Int) ≤ (xk : Int)) = false := decide_eq_false (by omega)
          have hap : Hid (allS (W.take i) ++ (wi W i).s.take (k + 1) = (allS (W.take i) ++ (wi W i).s.take k) ++ [xk]) := Lib.hid (by
           rw [List.take_succ_eq_append_getElem hkl.out, hxg.out, List.append_assoc])
          have hNd2 : Hid (allS (W.take i) ++ (wi W i).s.take (k + 1)).Nodup := Lib.hid (by
           rw [hap.out]
           refine nodup_snoc hNd.out (fun y hy => ?_)
           obtain ⟨q, hq, rfl⟩ := List.mem_iff_getElem.1 hy
           have := hne.out q (by have := Q.out.1; omega)
           rwa [getD_lt hq] at this)
          have hBd2 : Hid (∀ x ∈ allS (W.take i) ++ (wi W i).s.take (k + 1), x < 1048576) := Lib.hid (fun x hx => by
           rw [hap.out] at hx
           rcases List.mem_append.1 hx with hx | hx
           ·exact hBd.out x hx
           ·obtain rfl := List.mem_singleton.1 hx
            omega)
          clear hne hNd hBd
          replace hbig := Lib.hid hbig
          go_upto_region 20 with (fail)
          rename World => wq
          have BA := (BW.refl wq).alloc (o := .cells #[Value.int .u32 (xk : Nat)] 38)
          have L11 : Hid (Sls (wq.alloc (.cells #[Value.int .u32 (xk : Nat)] 38)) EU4.size (.slice (some ⟨wq.heap.size, 0, none⟩) 1 1) 1 (u4V xk)) := Lib.hid (Sls.new1 (E := EU4) wq 38 (u4V xk) rfl)
          have E11 := Lib.hid (Q.out.bw BA)
          have X11 := Lib.hid (X.out.bw BA)
          have Y11 := Lib.hid (Y.out.bw BA)
          have B11 := Lib.hid (B.out.trans BA)
          have hz11 := Lib.hid (Nat.le_trans (Nat.le_of_eq hb1.out.symm) B11.out.size)
          clear BA X Y Q B
          go_upto_region 12 with (at_builtin; go_must (refine wpList_apEQ slU4 rfl _ _ rfl base (.slice s n cp) n _ rfl E11.out _ rfl 1 [xk] (u4V xk) L11.out (EL.single rfl) rfl (by omega) hz11.out (fun _ _ => trivial) ?_; intro s7 c7 w7 hc7 hm7 E7 T7 B7 G7; unfold maxLen at hm7; replace E7 := Lib.hid E7; replace T7 := Lib.hid T7; clear B7 G7))
          have X7 := Lib.hid (X11.out.st T7.out (fun hm => E11.out.ne X11.out (by decide) _ (by simpa using hm) rfl))
          have Y7 := Lib.hid (Y11.out.st T7.out (fun hm => E11.out.ne Y11.out (by decide) _ (by simpa using hm) rfl))
          have B7 := Lib.hid (BW.stP B11.out T7.out (fun g hg => by rw [hb1.out]; exact E11.out.ge' g (by simpa using hg)))
          rw [← hap.out] at E7
          clear T7 X11 Y11 E11 B11 L11 hz11 zk2 y2 hap
          try simp only [Act.put, List.setIfInBounds_toArray, List.set_cons_succ, List.set_cons_zero]
          go_wp2_with fail
          go_roundg (mk - (k + 1))
          case measure => omega
          case rel => exact ⟨k + 1, _, c7, s7, rfl, by omega, by first | rfl | (push_cast; rfl), rfl, Lib.hid (by rw [hmm.out]; omega), by have := hmm.out; omega, E7, hNd2, hBd2, X7, Y7, B7⟩
      ·obtain rfl : k = mk := by omega
       have dk2 : decide ((k : Int) < (k : Int)) = false := by simp
       have hfull : Hid (allS (W.take i) ++ (wi W i).s.take k = allS (W.take (i + 1))) := Lib.hid (by
        rw [allS_take W hiL.out, List.take_of_length_le (l := (wi W i).s) (by rw [hmk.out]; exact Nat.le_refl _)])
       rw [hfull.out] at Q hNd hBd
       clear Y
       go_wp2_with fail
       go_roundg (nW - (i + 1))
       case measure => omega
       case rel => exact ⟨i + 1, mm, cp, s, rfl, by omega, by push_cast; rfl, rfl, by have := hmm.out; omega, Q, hOk3, hNd, hBd, X, B⟩
   have di : decide ((0 : Int) < (i : Int)) = false := decide_eq_false (by omega)
   have hT : Hid (0 < i → (wi W (i - 1)).t < t) := Lib.hid (fun h => absurd h h3)
   by_cases h5 : mk < 1
   case pos =>
    have d6 : decide ((mk : Int) < 1) = true := decide_eq_true (by omega)
    have hNot := Lib.hid (hNo.out (fun h => by have := (hOk2.out.1 h).2.2.2.1; omega))
    clear h2 hprev hOk2 hNo hOk Q hk hT hNd hBd
    refine wp_region_gg [] [] [] (by kernel_rfl) ?_
    refine hoist [] [] (a1 := ?_) 0 rfl (by kernel_rfl) (.inl ⟨rfl, rfl⟩) rfl rfl rfl (fun x K hK => ?_) ?_
    rotate_left
    ·go_big_quiet_op
     exact hK
    refine hoist [] [] (a1 := ?_) 1 rfl (by kernel_rfl) (.inl ⟨rfl, rfl⟩) rfl rfl rfl (fun x K hK => ?_) ?_
    rotate_left
    ·go_big_quiet_op
     exact hK
    refine hoist_call [] [] (a1 := ?_) 2 rfl (by kernel_rfl) (.inl ⟨rfl, rfl⟩) rfl rfl rfl (fun x K hK => ?_) ?_
    rotate_left
    ·go_big_quiet_op
     apply Exists.intro
     refine ⟨fun y => ?_, ?_⟩
     ·exact Calls.laterS_of (cS.out y.now)
     ·exact hK
    refine hoist [] [] (a1 := ?_) 3 rfl (by kernel_rfl) (.inl ⟨rfl, rfl⟩) rfl rfl rfl (fun x K hK => ?_) ?_
    rotate_left
    ·go_big_quiet_op
     exact hK
    refine hoist [] [] (a1 := ?_) 4 rfl (by kernel_rfl) (.inl ⟨rfl, rfl⟩) rfl rfl rfl (fun x K hK => ?_) ?_
    rotate_left
    ·go_big_quiet_op
     exact hK
    refine hoist [] [] (a1 := ?_) 5 rfl (by kernel_rfl) (.inl ⟨rfl, rfl⟩) rfl rfl rfl (fun x K hK => ?_) ?_
    rotate_left
    ·go_big_quiet_op
     exact hK
    refine hoist [] [] (a1 := ?_) 6 rfl (by kernel_rfl) (.inl ⟨rfl, rfl⟩) rfl rfl rfl (fun x K hK => ?_) ?_
    rotate_left
    ·go_big_quiet_op
     exact hK
    refine hoist [] [] (a1 := ?_) 7 rfl (by kernel_rfl) (.inl ⟨rfl, rfl⟩) rfl rfl rfl (fun x K hK => ?_) ?_
    rotate_left
    ·go_big_quiet_op
     exact hK
    refine hoist [] [] (a1 := ?_) 8 rfl (by kernel_rfl) (.inl ⟨rfl, rfl⟩) rfl rfl rfl (fun x K hK => ?_) ?_
    rotate_left
    ·go_big_quiet_op
     exact hK
    refine hoist [] [] (a1 := ?_) 9 rfl (by kernel_rfl) (.inl ⟨rfl, rfl⟩) rfl rfl rfl (fun x K hK => ?_) ?_
    rotate_left
    ·go_big_quiet_op
     exact hK
    refine hoist [] [] (a1 := ?_) 10 rfl (by kernel_rfl) (.inl ⟨rfl, rfl⟩) rfl rfl rfl (fun x K hK => ?_) ?_
    rotate_left
    ·go_big_quiet_op
     exact hK
    refine hoist [] [] (a1 := ?_) 11 rfl (by kernel_rfl) (.inl ⟨rfl, rfl⟩) rfl rfl rfl (fun x K hK => ?_) ?_
    rotate_left
    ·go_big_quiet_op
     exact hK
    refine hoist [] [] (a1 := ?_) 12 rfl (by kernel_rfl) (.inl ⟨rfl, rfl⟩) rfl rfl rfl (fun x K hK => ?_) ?_
    rotate_left
    ·go_big_quiet_op
     exact hK
    refine hoist [] [] (a1 := ?_) 13 rfl (by kernel_rfl) (.inl ⟨rfl, rfl⟩) rfl rfl rfl (fun x K hK => ?_) ?_
    rotate_left
    ·go_big_quiet_op
     exact hK
    refine hoist [] [] (a1 := ?_) 14 rfl (by kernel_rfl) (.inl ⟨rfl, rfl⟩) rfl rfl rfl (fun x K hK => ?_) ?_
    rotate_left
    ·go_big_quiet_op
     exact hK
    refine hoist [] [] (a1 := ?_) 15 rfl (by kernel_rfl) (.inl ⟨rfl, rfl⟩) rfl rfl rfl (fun x K hK => ?_) ?_
    rotate_left
    ·go_big_quiet_op
     exact hK
    refine hoist [] [] (a1 := ?_) 16 rfl (by kernel_rfl) (.inl ⟨rfl, rfl⟩) rfl rfl rfl (fun x K hK => ?_) ?_
    rotate_left
    ·go_big_quiet_op
     exact hK
    refine hoist [] [] (a1 := ?_) 17 rfl (by kernel_rfl) (.inl ⟨rfl, rfl⟩) rfl rfl rfl (fun x K hK => ?_) ?_
    rotate_left
    ·go_big_quiet_op
     exact hK
    refine hoist_skip [] [] 18 rfl (by kernel_rfl) (.inl ⟨rfl, rfl⟩) rfl (a1 := ?_) ?_ ?_
    rotate_left
    ·simp only [Act.put, List.setIfInBounds_toArray, List.set_cons_succ, List.set_cons_zero]; rfl
    refine hoist_skip [] [] 19 rfl (by kernel_rfl) (.inl ⟨rfl, rfl⟩) rfl (a1 := ?_) ?_ ?_
    rotate_left
    ·simp only [Act.put, List.setIfInBounds_toArray, List.set_cons_succ, List.set_cons_zero]; rfl
    refine hoist_skip [] [] 20 rfl (by kernel_rfl) (.inl ⟨rfl, rfl⟩) rfl (a1 := ?_) ?_ ?_
    rotate_left
    ·simp only [Act.put, List.setIfInBounds_toArray, List.set_cons_succ, List.set_cons_zero]; rfl
    refine hoist_skip [] [] 21 rfl (by kernel_rfl) (.inl ⟨rfl, rfl⟩) rfl (a1 := ?_) ?_ ?_
    rotate_left
    ·simp only [Act.put, List.setIfInBounds_toArray, List.set_cons_succ, List.set_cons_zero]; rfl
    refine hoist_skip [] [] 22 rfl (by kernel_rfl) (.inl ⟨rfl, rfl⟩) rfl (a1 := ?_) ?_ ?_
    rotate_left
    ·simp only [Act.put, List.setIfInBounds_toArray, List.set_cons_succ, List.set_cons_zero]; rfl
    refine hoist_skip [] [] 23 rfl (by kernel_rfl) (.inl ⟨rfl, rfl⟩) rfl (a1 := ?_) ?_ ?_
    rotate_left
    ·simp only [Act.put, List.setIfInBounds_toArray, List.set_cons_succ, List.set_cons_zero]; rfl
    refine hoist_skip [] [] 24 rfl (by kernel_rfl) (.inl ⟨rfl, rfl⟩) rfl (a1 := ?_) ?_ ?_
    rotate_left
    ·simp only [Act.put, List.setIfInBounds_toArray, List.set_cons_succ, List.set_cons_zero]; rfl
    refine hoist_skip [] [] 25 rfl (by kernel_rfl) (.inl ⟨rfl, rfl⟩) rfl (a1 := ?_) ?_ ?_
    rotate_left
    ·simp only [Act.put, List.setIfInBounds_toArray, List.set_cons_succ, List.set_cons_zero]; rfl
    refine hoist_skip [] [] 26 rfl (by kernel_rfl) (.inl ⟨rfl, rfl⟩) rfl (a1 := ?_) ?_ ?_
    rotate_left
    ·simp only [Act.put, List.setIfInBounds_toArray, List.set_cons_succ, List.set_cons_zero]; rfl
    refine hoist_skip [] [] 27 rfl (by kernel_rfl) (.inl ⟨rfl, rfl⟩) rfl (a1 := ?_) ?_ ?_
    rotate_left
    ·simp only [Act.put, List.setIfInBounds_toArray, List.set_cons_succ, List.set_cons_zero]; rfl
    refine hoist [] [] (a1 := ?_) 28 rfl (by kernel_rfl) (.inl ⟨rfl, rfl⟩) rfl rfl rfl (fun x K hK => ?_) ?_
    rotate_left
    ·go_big_quiet_op
     exact hK
    refine hoist [] [] (a1 := ?_) 29 rfl (by kernel_rfl) (.inl ⟨rfl, rfl⟩) rfl rfl rfl (fun x K hK => ?_) ?_
    rotate_left
    ·go_big_quiet_op
     exact hK
    refine hoist [] [] (a1 := ?_) 30 rfl (by kernel_rfl) (.inl ⟨rfl, rfl⟩) rfl rfl rfl (fun x K hK => ?_) ?_
    rotate_left
    ·go_big_quiet_op
     exact hK
    refine hoist [] [] (a1 := ?_) 31 rfl (by kernel_rfl) (.inl ⟨rfl, rfl⟩) rfl rfl rfl (fun x K hK => ?_) ?_
    rotate_left
    ·go_big_quiet_op
     exact hK
    refine hoist [] [] (a1 := ?_) 32 rfl (by kernel_rfl) (.inl ⟨rfl, rfl⟩) rfl rfl rfl (fun x K hK => ?_) ?_
    rotate_left
    ·go_big_quiet_op
     exact hK
    refine hoist [] [] (a1 := ?_) 33 rfl (by kernel_rfl) (.inl ⟨rfl, rfl⟩) rfl rfl rfl (fun x K hK => ?_) ?_
    rotate_left
    ·go_big_quiet_op
     exact hK
    refine hoist [] [] (a1 := ?_) 34 rfl (by kernel_rfl) (.inl ⟨rfl, rfl⟩) rfl rfl rfl (fun x K hK => ?_) ?_
    rotate_left
    ·go_big_quiet_op
     exact hK
    refine hoist [] [] (a1 := ?_) 35 rfl (by kernel_rfl) (.inl ⟨rfl, rfl⟩) rfl rfl rfl (fun x K hK => ?_) ?_
    rotate_left
    ·go_big_quiet_op
     exact hK
    refine hoist [] [] (a1 := ?_) 36 rfl (by kernel_rfl) (.inl ⟨rfl, rfl⟩) rfl rfl rfl (fun x K hK => ?_) ?_
    rotate_left
    ·go_big_quiet_op
     exact hK
    refine hoist_skip [] [] 37 rfl (by kernel_rfl) (.inl ⟨rfl, rfl⟩) rfl (a1 := ?_) ?_ ?_
    rotate_left
    ·simp only [Act.put, List.setIfInBounds_toArray, List.set_cons_succ, List.set_cons_zero]; rfl
    refine hoist_skip [] [] 38 rfl (by kernel_rfl) (.inl ⟨rfl, rfl⟩) rfl (a1 := ?_) ?_ ?_
    rotate_left
    ·simp only [Act.put, List.setIfInBounds_toArray, List.set_cons_succ, List.set_cons_zero]; rfl
    refine hoist_skip [] [] 39 rfl (by kernel_rfl) (.inl ⟨rfl, rfl⟩) rfl (a1 := ?_) ?_ ?_
    rotate_left
    ·simp only [Act.put, List.setIfInBounds_toArray, List.set_cons_succ, List.set_cons_zero]; rfl
    refine hoist_skip [] [] 40 rfl (by kernel_rfl) (.inl ⟨rfl, rfl⟩) rfl (a1 := ?_) ?_ ?_
    rotate_left
    ·simp only [Act.put, List.setIfInBounds_toArray, List.set_cons_succ, List.set_cons_zero]; rfl
    refine hoist [] [] (a1 := ?_) 41 rfl (by kernel_rfl) (.inl ⟨rfl, rfl⟩) rfl rfl rfl (fun x K hK => ?_) ?_
    rotate_left
    ·go_big_quiet_op
     exact hK
    refine done (by kernel_rfl) (fun xr => ?_)
    have hB := B.out.trans xr.bw
    go_wp2_with fail
    go_ret
    exact ⟨MayOR.no hNot.out, hB⟩
   have d6 : decide ((mk : Int) < 1) = false := decide_eq_false (by omega)
   refine wp_region_gg [] [] [] (by kernel_rfl) ?_
   refine hoist [] [] (a1 := ?_) 0 rfl (by kernel_rfl) (.inl ⟨rfl, rfl⟩) rfl rfl rfl (fun x K hK => ?_) ?_
   rotate_left
   ·go_big_quiet_op
    exact hK
   refine hoist [] [] (a1 := ?_) 1 rfl (by kernel_rfl) (.inl ⟨rfl, rfl⟩) rfl rfl rfl (fun x K hK => ?_) ?_
   rotate_left
   ·go_big_quiet_op
    exact hK
   refine hoist_call [] [] (a1 := ?_) 2 rfl (by kernel_rfl) (.inl ⟨rfl, rfl⟩) rfl rfl rfl (fun x K hK => ?_) ?_
   rotate_left
   ·go_big_quiet_op
    apply Exists.intro
    refine ⟨fun y => ?_, ?_⟩
    ·exact Calls.laterS_of (cS.out y.now)
    ·exact hK
   refine hoist [] [] (a1 := ?_) 3 rfl (by kernel_rfl) (.inl ⟨rfl, rfl⟩) rfl rfl rfl (fun x K hK => ?_) ?_
   rotate_left
   ·go_big_quiet_op
    exact hK
   refine hoist [] [] (a1 := ?_) 4 rfl (by kernel_rfl) (.inl ⟨rfl, rfl⟩) rfl rfl rfl (fun x K hK => ?_) ?_
   rotate_left
   ·go_big_quiet_op
    exact hK
   refine hoist [] [] (a1 := ?_) 5 rfl (by kernel_rfl) (.inl ⟨rfl, rfl⟩) rfl rfl rfl (fun x K hK => ?_) ?_
   rotate_left
   ·go_big_quiet_op
    exact hK
   refine hoist [] [] (a1 := ?_) 6 rfl (by kernel_rfl) (.inl ⟨rfl, rfl⟩) rfl rfl rfl (fun x K hK => ?_) ?_
   rotate_left
   ·go_big_quiet_op
    exact hK
   refine hoist [] [] (a1 := ?_) 7 rfl (by kernel_rfl) (.inl ⟨rfl, rfl⟩) rfl rfl rfl (fun x K hK => ?_) ?_
   rotate_left
   ·go_big_quiet_op
    exact hK
   refine hoist [] [] (a1 := ?_) 8 rfl (by kernel_rfl) (.inl ⟨rfl, rfl⟩) rfl rfl rfl (fun x K hK => ?_) ?_
   rotate_left
   ·go_big_quiet_op
    exact hK
   refine hoist [] [] (a1 := ?_) 9 rfl (by kernel_rfl) (.inl ⟨rfl, rfl⟩) rfl rfl rfl (fun x K hK => ?_) ?_
   rotate_left
   ·go_big_quiet_op
    exact hK
   refine hoist [] [] (a1 := ?_) 10 rfl (by kernel_rfl) (.inl ⟨rfl, rfl⟩) rfl rfl rfl (fun x K hK => ?_) ?_
   rotate_left
   ·go_big_quiet_op
    exact hK
   refine hoist [] [] (a1 := ?_) 11 rfl (by kernel_rfl) (.inl ⟨rfl, rfl⟩) rfl rfl rfl (fun x K hK => ?_) ?_
   rotate_left
   ·go_big_quiet_op
    exact hK
   refine hoist [] [] (a1 := ?_) 12 rfl (by kernel_rfl) (.inl ⟨rfl, rfl⟩) rfl rfl rfl (fun x K hK => ?_) ?_
   rotate_left
   ·go_big_quiet_op
    exact hK
   refine hoist [] [] (a1 := ?_) 13 rfl (by kernel_rfl) (.inl ⟨rfl, rfl⟩) rfl rfl rfl (fun x K hK => ?_) ?_
   rotate_left
   ·go_big_quiet_op
    exact hK
   refine hoist [] [] (a1 := ?_) 14 rfl (by kernel_rfl) (.inl ⟨rfl, rfl⟩) rfl rfl rfl (fun x K hK => ?_) ?_
   rotate_left
   ·go_big_quiet_op
    exact hK
   refine hoist [] [] (a1 := ?_) 15 rfl (by kernel_rfl) (.inl ⟨rfl, rfl⟩) rfl rfl rfl (fun x K hK => ?_) ?_
   rotate_left
   ·go_big_quiet_op
    exact hK
   refine hoist [] [] (a1 := ?_) 16 rfl (by kernel_rfl) (.inl ⟨rfl, rfl⟩) rfl rfl rfl (fun x K hK => ?_) ?_
   rotate_left
   ·go_big_quiet_op
    exact hK
   refine hoist [] [] (a1 := ?_) 17 rfl (by kernel_rfl) (.inl ⟨rfl, rfl⟩) rfl rfl rfl (fun x K hK => ?_) ?_
   rotate_left
   ·go_big_quiet_op
    exact hK
   refine hoist_skip [] [] 18 rfl (by kernel_rfl) (.inl ⟨rfl, rfl⟩) rfl (a1 := ?_) ?_ ?_
   rotate_left
   ·simp only [Act.put, List.setIfInBounds_toArray, List.set_cons_succ, List.set_cons_zero]; rfl
   refine hoist_skip [] [] 19 rfl (by kernel_rfl) (.inl ⟨rfl, rfl⟩) rfl (a1 := ?_) ?_ ?_
   rotate_left
   ·simp only [Act.put, List.setIfInBounds_toArray, List.set_cons_succ, List.set_cons_zero]; rfl
   refine hoist_skip [] [] 20 rfl (by kernel_rfl) (.inl ⟨rfl, rfl⟩) rfl (a1 := ?_) ?_ ?_
   rotate_left
   ·simp only [Act.put, List.setIfInBounds_toArray, List.set_cons_succ, List.set_cons_zero]; rfl
   refine hoist_skip [] [] 21 rfl (by kernel_rfl) (.inl ⟨rfl, rfl⟩) rfl (a1 := ?_) ?_ ?_
   rotate_left
   ·simp only [Act.put, List.setIfInBounds_toArray, List.set_cons_succ, List.set_cons_zero]; rfl
   refine hoist_skip [] [] 22 rfl (by kernel_rfl) (.inl ⟨rfl, rfl⟩) rfl (a1 := ?_) ?_ ?_
   rotate_left
   ·simp only [Act.put, List.setIfInBounds_toArray, List.set_cons_succ, List.set_cons_zero]; rfl
   refine hoist_skip [] [] 23 rfl (by kernel_rfl) (.inl ⟨rfl, rfl⟩) rfl (a1 := ?_) ?_ ?_
   rotate_left
   ·simp only [Act.put, List.setIfInBounds_toArray, List.set_cons_succ, List.set_cons_zero]; rfl
   refine hoist_skip [] [] 24 rfl (by kernel_rfl) (.inl ⟨rfl, rfl⟩) rfl (a1 := ?_) ?_ ?_
   rotate_left
   ·simp only [Act.put, List.setIfInBounds_toArray, List.set_cons_succ, List.set_cons_zero]; rfl
   refine hoist_skip [] [] 25 rfl (by kernel_rfl) (.inl ⟨rfl, rfl⟩) rfl (a1 := ?_) ?_ ?_
   rotate_left
   ·simp only [Act.put, List.setIfInBounds_toArray, List.set_cons_succ, List.set_cons_zero]; rfl
   refine hoist_skip [] [] 26 rfl (by kernel_rfl) (.inl ⟨rfl, rfl⟩) rfl (a1 := ?_) ?_ ?_
   rotate_left
   ·simp only [Act.put, List.setIfInBounds_toArray, List.set_cons_succ, List.set_cons_zero]; rfl
   refine hoist_skip [] [] 27 rfl (by kernel_rfl) (.inl ⟨rfl, rfl⟩) rfl (a1 := ?_) ?_ ?_
   rotate_left
   ·simp only [Act.put, List.setIfInBounds_toArray, List.set_cons_succ, List.set_cons_zero]; rfl
   refine hoist [] [] (a1 := ?_) 28 rfl (by kernel_rfl) (.inl ⟨rfl, rfl⟩) rfl rfl rfl (fun x K hK => ?_) ?_
   rotate_left
   ·go_big_quiet_op
    exact hK
   refine hoist [] [] (a1 := ?_) 29 rfl (by kernel_rfl) (.inl ⟨rfl, rfl⟩) rfl rfl rfl (fun x K hK => ?_) ?_
   rotate_left
   ·go_big_quiet_op
    exact hK
   refine hoist [] [] (a1 := ?_) 30 rfl (by kernel_rfl) (.inl ⟨rfl, rfl⟩) rfl rfl rfl (fun x K hK => ?_) ?_
   rotate_left
   ·go_big_quiet_op
    exact hK
   refine hoist [] [] (a1 := ?_) 31 rfl (by kernel_rfl) (.inl ⟨rfl, rfl⟩) rfl rfl rfl (fun x K hK => ?_) ?_
   rotate_left
   ·go_big_quiet_op
    exact hK
   refine hoist [] [] (a1 := ?_) 32 rfl (by kernel_rfl) (.inl ⟨rfl, rfl⟩) rfl rfl rfl (fun x K hK => ?_) ?_
   rotate_left
   ·go_big_quiet_op
    exact hK
   refine hoist [] [] (a1 := ?_) 33 rfl (by kernel_rfl) (.inl ⟨rfl, rfl⟩) rfl rfl rfl (fun x K hK => ?_) ?_
   rotate_left
   ·go_big_quiet_op
    exact hK
   refine hoist [] [] (a1 := ?_) 34 rfl (by kernel_rfl) (.inl ⟨rfl, rfl⟩) rfl rfl rfl (fun x K hK => ?_) ?_
   rotate_left
   ·go_big_quiet_op
    exact hK
   refine hoist [] [] (a1 := ?_) 35 rfl (by kernel_rfl) (.inl ⟨rfl, rfl⟩) rfl rfl rfl (fun x K hK => ?_) ?_
   rotate_left
   ·go_big_quiet_op
    exact hK
   refine hoist [] [] (a1 := ?_) 36 rfl (by kernel_rfl) (.inl ⟨rfl, rfl⟩) rfl rfl rfl (fun x K hK => ?_) ?_
   rotate_left
   ·go_big_quiet_op
    exact hK
   refine hoist [] [] (a1 := ?_) 37 rfl (by kernel_rfl) (.inl ⟨rfl, rfl⟩) rfl rfl rfl (fun x K hK => ?_) ?_
   rotate_left
   ·go_big_quiet_op
    exact hK
   refine hoist [] [] (a1 := ?_) 38 rfl (by kernel_rfl) (.inl ⟨rfl, rfl⟩) rfl rfl rfl (fun x K hK => ?_) ?_
   rotate_left
   ·go_big_quiet_op
    exact hK
   refine hoist [] [] (a1 := ?_) 39 rfl (by kernel_rfl) (.inl ⟨rfl, rfl⟩) rfl rfl rfl (fun x K hK => ?_) ?_
   rotate_left
   ·go_big_quiet_op
    exact hK
   refine hoist [] [] (a1 := ?_) 40 rfl (by kernel_rfl) (.inl ⟨rfl, rfl⟩) rfl rfl rfl (fun x K hK => ?_) ?_
   rotate_left
   ·go_big_quiet_op
    exact hK
   refine hoist [] [] (a1 := ?_) 41 rfl (by kernel_rfl) (.inl ⟨rfl, rfl⟩) rfl rfl rfl (fun x K hK => ?_) ?_
   rotate_left
   ·go_big_quiet_op
    exact hK
   refine done (by kernel_rfl) (fun xr => ?_)
   replace X := Lib.hid (X.out.bw xr.bw)
   replace Y := Lib.hid (Y.out.bw xr.bw)
   replace Q := Lib.hid (Q.out.bw xr.bw)
   replace B := Lib.hid (B.out.trans xr.bw)
   clear mt mc ms mw cS hprev
   try clear mp
   generalize xr.now = w5 at *
   clear xr
   by_cases h8 : 4 < mk
   ·have d8 : decide ((4 : Int) < (mk : Int)) = true := decide_eq_true (by omega)
    have hNot := Lib.hid (hNo.out (fun h => by have := (hOk2.out.1 h).2.2.2.2; omega))
    clear hOk2 hOk hNo hNd hBd Q hk
    go_wp2_with fail
    go_ret
    exact ⟨MayOR.no hNot.out, B.out⟩
   ·have d8 : decide ((4 : Int) < (mk : Int)) = false := decide_eq_false (by omega)
    have hI := Lib.hid (hOk2.out.2 ⟨h2, by omega, hT.out, by omega, by omega⟩)
    have hOk3 : Hid (∀ j, j < i + 1 → OkW W j) := Lib.hid (fun j hj => by
     by_cases e : j < i
     ·exact hOk.out j e
     ·obtain rfl : j = i := by omega
      exact hI.out)
    have hmk4 : mk ≤ 4 := by omega
    clear hOk2 hOk hI hT h2 hNo
    have hTk : Hid (W.take i = W.take i) := Lib.hid rfl
    go_upto_region 11 with (fail)
    have hQ0 : Hid (EQ EU4 38 w5 base (.slice s m cp) m (allS (W.take i) ++ (wi W i).s.take 0)) := Lib.hid (by rw [List.take_zero, List.append_nil]; exact Q.out)
    have hN0 : Hid (allS (W.take i) ++ (wi W i).s.take 0).Nodup := Lib.hid (by rw [List.take_zero, List.append_nil]; exact hNd.out)
    have hB0 : Hid (∀ x ∈ allS (W.take i) ++ (wi W i).s.take 0, x < 1048576) := Lib.hid (by rw [List.take_zero, List.append_nil]; exact hBd.out)
    clear Q hNd hBd
    rename World => wo
    go_loopg [3, 6] mk (fun m' v3 v6 wx => ∃ (k mm cp : Nat) (s : Option Addr), m' = mk - k ∧ k ≤ mk ∧ v6 = .int .i64 (k : Nat) ∧ v3 = .slice s mm cp ∧ Hid (mm = m + k) ∧ mm ≤ 12 ∧ Hid (EQ EU4 38 wx base (.slice s mm cp) mm (allS (W.take i) ++ (wi W i).s.take k)) ∧ Hid (allS (W.take i) ++ (wi W i).s.take k).Nodup ∧ Hid (∀ x ∈ allS (W.take i) ++ (wi W i).s.take k, x < 1048576) ∧ Hid (HpB wx g (.cells #[.int .i64 seat, .slice (some ⟨gw, ow, none⟩) nW cW, .slice sH nH cH] 25)) ∧ Hid (HpB wx gx (.cells #[.int .i64 t, .int .i64 c, .slice sk mk ck] 41)) ∧ Hid (BW w wx))
    case atStart => exact ⟨0, m, cp, s, by omega, by omega, rfl, rfl, Lib.hid rfl, by omega, hQ0, hN0, hB0, X, Y, B⟩
    case round =>
     clear hQ0 hN0 hB0 X Y B
     obtain ⟨k, mm, cp, s, rfl, hkm2, rfl, rfl, hmm, hm12, Q, hNd, hBd, X, Y, B⟩ := hrel
     obtain ⟨_, _, he, hmcp, hcpm⟩ := Q.out.len
     cases he
     unfold maxLen at hcpm
     have y2 := (hp_cell Y.out 2).trans (show _ = some (.slice sk mk ck) from rfl)
     by_cases hkk : k < mk
     ·have dk2 : decide ((k : Int) < (mk : Int)) = true := by simp; omega
      obtain ⟨gk, ok, rfl, hc⟩ := u4_cellS hk.out (by omega)
      obtain ⟨xk, hxk⟩ : ∃ x, (wi W i).s.getD k 0 = x := ⟨_, rfl⟩
      have hkl : k < (wi W i).s.length := by rw [hmk.out]; exact hkk
      have hxg : Hid ((wi W i).s[k] = xk) := Lib.hid (by rw [← hxk, getD_lt hkl])
      have zk := hc k hkk
      rw [hxk] at zk
      replace zk := Lib.hid (B.out.cell zk)
      clear hc
      replace hxk := Lib.hid hxk
      replace hkl := Lib.hid hkl
      go_upto_region 14 with (fail)
      clear y2
      rename World => wo
      go_loopg [7] mm (fun m' v7 wx => ∃ n : Nat, m' = mm - n ∧ n ≤ mm ∧ v7 = .int .i64 (n : Nat) ∧ Hid (∀ q, q < n → (allS (W.take i) ++ (wi W i).s.take k).getD q 0 ≠ xk) ∧ Hid (BW wo wx))
      case atStart => exact ⟨0, by omega, by omega, rfl, Lib.hid (fun q hq => absurd hq (Nat.not_lt_zero _)), Lib.hid (BW.refl _)⟩
      case round =>
       obtain ⟨n, rfl, hnm, rfl, hne, C⟩ := hrel
       by_cases hn : n < mm
       ·have dn : decide ((n : Int) < (mm : Int)) = true := by simp; omega
        have hQx := Q.out.bw C.out
        obtain ⟨ga, oa, cp', hsl, -⟩ := hQx.form (by omega)
        cases hsl
        have za := u4_cell hQx n hn
        obtain ⟨xa, hxa⟩ : ∃ x, (allS (W.take i) ++ (wi W i).s.take k).getD n 0 = x := ⟨_, rfl⟩
        rw [hxa] at za
        have zk2 := C.out.cell zk.out
        have y2 := (hp_cell (Y.out.bw C.out) 2).trans (show _ = some (.slice (some ⟨gk, ok, none⟩) mk ck) from rfl)
        clear hQx
        replace hxa := Lib.hid hxa
        go_upto_region 16 with (fail)
        have na : ∀ y : LaterS [] wr, _ := fun y => y.bw.cell za
        have nk : ∀ y : LaterS [] wr, _ := fun y => y.bw.cell zk2
        have n2 : ∀ y : LaterS [] wr, _ := fun y => y.bw.cell y2
        refine wp_region_gg [] [] [] (by kernel_rfl) ?_
        refine hoist [] [] (a1 := ?_) 0 rfl (by kernel_rfl) (.inl ⟨rfl, rfl⟩) rfl rfl rfl (fun x K hK => ?_) ?_
        rotate_left
        ·go_big_quiet_op
         exact hK
        refine hoist [] [] (a1 := ?_) 1 rfl (by kernel_rfl) (.inl ⟨rfl, rfl⟩) rfl rfl rfl (fun x K hK => ?_) ?_
        rotate_left
        ·go_big_quiet_op
         exact hK
        refine hoist [] [] (a1 := ?_) 2 rfl (by kernel_rfl) (.inl ⟨rfl, rfl⟩) rfl rfl rfl (fun x K hK => ?_) ?_
        rotate_left
        ·go_big_quiet_op
         exact hK
        refine hoist [] [] (a1 := ?_) 3 rfl (by kernel_rfl) (.inl ⟨rfl, rfl⟩) rfl rfl rfl (fun x K hK => ?_) ?_
        rotate_left
        ·go_big_quiet_op
         exact hK
        refine hoist [] [] (a1 := ?_) 4 rfl (by kernel_rfl) (.inl ⟨rfl, rfl⟩) rfl rfl rfl (fun x K hK => ?_) ?_
        rotate_left
        ·go_big_quiet_op
         exact hK
        refine hoist [] [] (a1 := ?_) 5 rfl (by kernel_rfl) (.inl ⟨rfl, rfl⟩) rfl rfl rfl (fun x K hK => ?_) ?_
        rotate_left
        ·go_big_quiet_op
         exact hK
        refine hoist [] [] (a1 := ?_) 6 rfl (by kernel_rfl) (.inl ⟨rfl, rfl⟩) rfl rfl rfl (fun x K hK => ?_) ?_
        rotate_left
        ·go_big_quiet_op
         exact hK
        refine hoist [] [] (a1 := ?_) 7 rfl (by kernel_rfl) (.inl ⟨rfl, rfl⟩) rfl rfl rfl (fun x K hK => ?_) ?_
        rotate_left
        ·go_big_quiet_op
         exact hK
        refine hoist [] [] (a1 := ?_) 8 rfl (by kernel_rfl) (.inl ⟨rfl, rfl⟩) rfl rfl rfl (fun x K hK => ?_) ?_
        rotate_left
        ·go_big_quiet_op
         exact hK
        refine hoist [] [] (a1 := ?_) 9 rfl (by kernel_rfl) (.inl ⟨rfl, rfl⟩) rfl rfl rfl (fun x K hK => ?_) ?_
        rotate_left
        ·go_big_quiet_op
         exact hK
        refine done (by kernel_rfl) (fun xr => ?_)
        have C2 := Lib.hid (C.out.trans xr.bw)
        clear na nk n2 za zk2 y2 C
        generalize xr.now = w9 at *
        clear xr
        by_cases hq : xa = xk
        ·have dq : ((xa : Int) == (xk : Int)) = true := by rw [hq]; exact beq_self_eq_true _
         have hNot : Hid (¬ MayO ⟨seat, W, H⟩) := Lib.hid (fun h => by
          refine dup_not hiL.out hkl.out ?_ h.2.1.2.2.1
          rw [hxg.out, ← hq, ← hxa.out, getD_lt (by have := Q.out.1; omega)]
          exact List.getElem_mem _)
         replace hq := Lib.hid hq
         clear hne
         go_wp2_with fail
         go_ret
         exact ⟨MayOR.no hNot.out, B.out.trans C2.out⟩
        ·have dq : ((xa : Int) == (xk : Int)) = false := beq_eq_false_iff_ne.2 (fun e => hq (Int.ofNat_inj.1 e))
         have hne2 : Hid (∀ q, q < n + 1 → (allS (W.take i) ++ (wi W i).s.take k).getD q 0 ≠ xk) := Lib.hid (fun q hq2 => by
          by_cases e : q < n
          ·exact hne.out q e
          ·obtain rfl : q = n := by omega
           rw [hxa.out]; exact hq)
         replace hq := Lib.hid hq
         clear hne
         go_wp2_with fail
         go_roundg (mm - (n + 1))
         case measure => omega
         case rel => exact ⟨n + 1, rfl, by omega, by push_cast; rfl, hne2, C2⟩
       ·obtain rfl : n = mm := by omega
        have dn : decide ((n : Int) < (n : Int)) = false := by simp
        replace Q := Lib.hid (Q.out.bw C.out)
        replace X := Lib.hid (X.out.bw C.out)
        replace Y := Lib.hid (Y.out.bw C.out)
        replace B := Lib.hid (B.out.trans C.out)
        have zk2 := C.out.cell zk.out
        have y2 := (hp_cell Y.out 2).trans (show _ = some (.slice (some ⟨gk, ok, none⟩) mk ck) from rfl)
        clear C zk
        by_cases hbig : 1048576 ≤ xk
        ·have db : decide ((1048576 : Int) ≤ (xk : Int)) = true := decide_eq_true (by omega)
         have hNot : Hid (¬ MayO ⟨seat, W, H⟩) := Lib.hid (fun h => by
          have := h.2.1.2.2.2 _ (src_mem hiL.out hkl.out)
          rw [hxg.out] at this
          omega)
         replace hbig := Lib.hid hbig
         go_wp2_with fail
         go_ret
         exact ⟨MayOR.no hNot.out, B.out⟩
        ·have db : decide ((1048576 : Int) ≤ (xk : Int)) = false := decide_eq_false (by omega)
         have hap : Hid (allS (W.take i) ++ (wi W i).s.take (k + 1) = (allS (W.take i) ++ (wi W i).s.take k) ++ [xk]) := Lib.hid (by
          rw [List.take_succ_eq_append_getElem hkl.out, hxg.out, List.append_assoc])
         have hNd2 : Hid (allS (W.take i) ++ (wi W i).s.take (k + 1)).Nodup := Lib.hid (by
          rw [hap.out]
          refine nodup_snoc hNd.out (fun y hy => ?_)
          obtain ⟨q, hq, rfl⟩ := List.mem_iff_getElem.1 hy
          have := hne.out q (by have := Q.out.1; omega)
          rwa [getD_lt hq] at this)
         have hBd2 : Hid (∀ x ∈ allS (W.take i) ++ (wi W i).s.take (k + 1), x < 1048576) := Lib.hid (fun x hx => by
          rw [hap.out] at hx
          rcases List.mem_append.1 hx with hx | hx
          ·exact hBd.out x hx
          ·obtain rfl := List.mem_singleton.1 hx
           omega)
         clear hne hNd hBd
         replace hbig := Lib.hid hbig
         go_upto_region 20 with (fail)
         rename World => wq
         have BA := (BW.refl wq).alloc (o := .cells #[Value.int .u32 (xk : Nat)] 38)
         have L11 : Hid (Sls (wq.alloc (.cells #[Value.int .u32 (xk : Nat)] 38)) EU4.size (.slice (some ⟨wq.heap.size, 0, none⟩) 1 1) 1 (u4V xk)) := Lib.hid (Sls.new1 (E := EU4) wq 38 (u4V xk) rfl)
         have E11 := Lib.hid (Q.out.bw BA)
         have X11 := Lib.hid (X.out.bw BA)
         have Y11 := Lib.hid (Y.out.bw BA)
         have B11 := Lib.hid (B.out.trans BA)
         have hz11 := Lib.hid (Nat.le_trans (Nat.le_of_eq hb1.out.symm) B11.out.size)
         clear BA X Y Q B
         go_upto_region 12 with (at_builtin; go_must (refine wpList_apEQ slU4 rfl _ _ rfl base (.slice s n cp) n _ rfl E11.out _ rfl 1 [xk] (u4V xk) L11.out (EL.single rfl) rfl (by omega) hz11.out (fun _ _ => trivial) ?_; intro s7 c7 w7 hc7 hm7 E7 T7 B7 G7; unfold maxLen at hm7; replace E7 := Lib.hid E7; replace T7 := Lib.hid T7; clear B7 G7))
         have X7 := Lib.hid (X11.out.st T7.out (fun hm => E11.out.ne X11.out (by decide) _ (by simpa using hm) rfl))
         have Y7 := Lib.hid (Y11.out.st T7.out (fun hm => E11.out.ne Y11.out (by decide) _ (by simpa using hm) rfl))
         have B7 := Lib.hid (BW.stP B11.out T7.out (fun g hg => by rw [hb1.out]; exact E11.out.ge' g (by simpa using hg)))
         rw [← hap.out] at E7
         clear T7 X11 Y11 E11 B11 L11 hz11 zk2 y2 hap
         try simp only [Act.put, List.setIfInBounds_toArray, List.set_cons_succ, List.set_cons_zero]
         go_wp2_with fail
         go_roundg (mk - (k + 1))
         case measure => omega
         case rel => exact ⟨k + 1, _, c7, s7, rfl, by omega, by first | rfl | (push_cast; rfl), rfl, Lib.hid (by rw [hmm.out]; omega), by have := hmm.out; omega, E7, hNd2, hBd2, X7, Y7, B7⟩
     ·obtain rfl : k = mk := by omega
      have dk2 : decide ((k : Int) < (k : Int)) = false := by simp
      have hfull : Hid (allS (W.take i) ++ (wi W i).s.take k = allS (W.take (i + 1))) := Lib.hid (by
       rw [allS_take W hiL.out, List.take_of_length_le (l := (wi W i).s) (by rw [hmk.out]; exact Nat.le_refl _)])
      rw [hfull.out] at Q hNd hBd
      clear Y
      go_wp2_with fail
      go_roundg (nW - (i + 1))
      case measure => omega
      case rel => exact ⟨i + 1, mm, cp, s, rfl, by omega, by push_cast; rfl, rfl, by have := hmm.out; omega, Q, hOk3, hNd, hBd, X, B⟩
  ·obtain rfl : i = nW := by omega
   have dk : decide ((i : Int) < (i : Int)) = false := by simp
   have hall : allS (W.take i) = allS W := by rw [← hnW.out, List.take_length]
   rw [hall] at hNd hBd
   have hMW : Hid (MayW W) := Lib.hid ⟨fun j hj => hOk.out j (by rw [hnW.out] at hj; exact hj), by rw [hnW.out]; omega, hNd.out, hBd.out⟩
   clear hall hNd hBd hOk Q hm
   go_upto_region 22 with (fail)
   clear q1
   go_loopg [8] nH (fun m' v8 wx => ∃ k : Nat, m' = nH - k ∧ k ≤ nH ∧ v8 = .int .i64 (k : Nat) ∧ Hid (∀ j, j < k → OkH seat H j) ∧ Hid (HpB wx g (.cells #[.int .i64 seat, .slice sW i cW, .slice sH nH cH] 25)) ∧ Hid (BW w wx))
   case atStart => exact ⟨0, by omega, by omega, rfl, Lib.hid (fun j hj => absurd hj (Nat.not_lt_zero _)), X, B⟩
   case round =>
    clear X B
    obtain ⟨k, rfl, hk, rfl, hOk, X, B⟩ := hrel
    have q2 := (hp_cell X.out 2).trans (show _ = some (.slice sH nH cH) from rfl)
    by_cases hkn : k < nH
    ·have dk2 : decide ((k : Int) < (nH : Int)) = true := by simp; omega
     have hkL : k < H.length := by rw [hnHe.out]; exact hkn
     obtain ⟨gh, oh, rfl, hc⟩ := he_form hH.out (by omega)
     obtain ⟨y0, y1, y2⟩ := hc k hkL
     replace y0 := B.out.cell y0
     replace y1 := B.out.cell y1
     replace y2 := B.out.cell y2
     replace hc := Lib.hid hc
     obtain ⟨o, ho⟩ : ∃ x, (he H k).o = x := ⟨_, rfl⟩
     obtain ⟨t, ht⟩ : ∃ x, (he H k).t = x := ⟨_, rfl⟩
     obtain ⟨l, hl⟩ : ∃ x, (he H k).l = x := ⟨_, rfl⟩
     rw [ho] at y0
     rw [ht] at y1
     rw [hl] at y2
     have hOk2 : Hid (OkH seat H k ↔ Sm o ∧ Sm t ∧ (-1 ≤ l ∧ l < 255) ∧ o ≠ seat ∧ ∀ j, j < k → ¬ ((he H j).o = o ∧ (he H j).t = t)) := Lib.hid (by unfold OkH; rw [ho, ht, hl])
     have hNo : Hid (¬ OkH seat H k → ¬ MayO ⟨seat, W, H⟩) := Lib.hid (fun hn => not_okH (d := ⟨seat, W, H⟩) hkL hn)
     replace ho := Lib.hid ho
     replace ht := Lib.hid ht
     replace hl := Lib.hid hl
     replace hkL := Lib.hid hkL
     go_upto_region 24 with (fail)
     rename World => wo
     go_upto_region 25 with (refine wpList_store_new rfl 43 _ _ rfl _ #[.int .i64 o, .int .i64 t, .int .i64 l] _ rfl rfl (by kernel_rfl) rfl rfl ?_)
     have hb := (BW.refl wo).alloc (o := .cells #[.int .i64 o, .int .i64 t, .int .i64 l] 43)
     have Y := Lib.hid (HpB.new wo (.cells #[.int .i64 o, .int .i64 t, .int .i64 l] 43))
     replace X := Lib.hid (X.out.bw hb)
     replace B := Lib.hid (B.out.trans hb)
     clear hb y0 y1 y2 q2
     generalize wo.alloc (.cells #[.int .i64 o, .int .i64 t, .int .i64 l] 43) = w2 at *
     generalize wo.heap.size = gx at *
     clear wo
     have y0 := (hp_cell Y.out 0).trans (show _ = some (.int .i64 o) from rfl)
     have y1 := (hp_cell Y.out 1).trans (show _ = some (.int .i64 t) from rfl)
     have y2 := (hp_cell Y.out 2).trans (show _ = some (.int .i64 l) from rfl)
     have q0 := (hp_cell X.out 0).trans (show _ = some (.int .i64 seat) from rfl)
     go_wp2_with fail
     refine Calls.mono (small_any o _) ?_
     rintro e w5 ⟨rfl, hb⟩
     replace X := Lib.hid (X.out.bw hb)
     replace Y := Lib.hid (Y.out.bw hb)
     replace B := Lib.hid (B.out.trans hb)
     clear hb y0 y1 y2 q0
     have y0 := (hp_cell Y.out 0).trans (show _ = some (.int .i64 o) from rfl)
     have y1 := (hp_cell Y.out 1).trans (show _ = some (.int .i64 t) from rfl)
     have y2 := (hp_cell Y.out 2).trans (show _ = some (.int .i64 l) from rfl)
     have q0 := (hp_cell X.out 0).trans (show _ = some (.int .i64 seat) from rfl)
     dsimp only
     by_cases h5 : Sm o
     case neg =>
      rw [decide_eq_false h5]
      have hNot := Lib.hid (hNo.out (fun h => h5 (hOk2.out.1 h).1))
      clear h5 hOk2 hNo hOk
      go_wp2_with fail
      go_ret
      exact ⟨MayOR.no hNot.out, B.out⟩
     rw [decide_eq_true h5]
     go_wp2_with fail
     refine Calls.mono (small_any t _) ?_
     rintro e w6 ⟨rfl, hb⟩
     replace X := Lib.hid (X.out.bw hb)
     replace Y := Lib.hid (Y.out.bw hb)
     replace B := Lib.hid (B.out.trans hb)
     clear hb y0 y1 y2 q0
     have y0 := (hp_cell Y.out 0).trans (show _ = some (.int .i64 o) from rfl)
     have y1 := (hp_cell Y.out 1).trans (show _ = some (.int .i64 t) from rfl)
     have y2 := (hp_cell Y.out 2).trans (show _ = some (.int .i64 l) from rfl)
     have q0 := (hp_cell X.out 0).trans (show _ = some (.int .i64 seat) from rfl)
     dsimp only
     by_cases h6 : Sm t
     case neg =>
      rw [decide_eq_false h6]
      have hNot := Lib.hid (hNo.out (fun h => h6 (hOk2.out.1 h).2.1))
      clear h5 h6 hOk2 hNo hOk
      go_wp2_with fail
      go_ret
      exact ⟨MayOR.no hNot.out, B.out⟩
     rw [decide_eq_true h6]
     by_cases h7 : l = -1
     case pos =>
      have d7 : (l != -1) = false := by rw [h7]; rfl
      have h8 : -1 ≤ l ∧ l < 255 := by omega
      replace h7 := Lib.hid h7
      by_cases h9 : o = seat
      case pos =>
       have d9 : (o == seat) = true := beq_iff_eq.2 h9
       have hNot := Lib.hid (hNo.out (fun h => (hOk2.out.1 h).2.2.2.1 h9))
       clear hOk2 hNo hOk h5 h6 h9 h8
       go_wp2_with fail
       go_ret
       exact ⟨MayOR.no hNot.out, B.out⟩
      case neg =>
       have d9 : (o == seat) = false := beq_eq_false_iff_ne.2 h9
       replace h5 := Lib.hid h5
       replace h6 := Lib.hid h6
       replace h8 := Lib.hid h8
       replace h9 := Lib.hid h9
       go_upto_region 28 with (fail)
       clear y0 y1 y2 q0
       rename World => wo
       go_loopg [10] k (fun m' v10 wx => ∃ n : Nat, m' = k - n ∧ n ≤ k ∧ v10 = .int .i64 (n : Nat) ∧ Hid (∀ j, j < n → ¬ ((he H j).o = o ∧ (he H j).t = t)) ∧ Hid (BW wo wx))
       case atStart => exact ⟨0, by omega, by omega, rfl, Lib.hid (fun j hj => absurd hj (Nat.not_lt_zero _)), Lib.hid (BW.refl _)⟩
       case round =>
        obtain ⟨n, rfl, hnk, rfl, hne, C⟩ := hrel
        by_cases hn : n < k
        ·have dn : decide ((n : Int) < (k : Int)) = true := by simp; omega
         have hnH2 : n < nH := by omega
         obtain ⟨z0, z1, -⟩ := hc.out n (by rw [hnHe.out]; exact hnH2)
         obtain ⟨on, hon⟩ : ∃ x, (he H n).o = x := ⟨_, rfl⟩
         obtain ⟨tn, htn⟩ : ∃ x, (he H n).t = x := ⟨_, rfl⟩
         rw [hon] at z0
         rw [htn] at z1
         replace z0 := (B.out.trans C.out).cell z0
         replace z1 := (B.out.trans C.out).cell z1
         have y0 := (hp_cell (Y.out.bw C.out) 0).trans (show _ = some (.int .i64 o) from rfl)
         have y1 := (hp_cell (Y.out.bw C.out) 1).trans (show _ = some (.int .i64 t) from rfl)
         have q2 := (hp_cell (X.out.bw C.out) 2).trans (show _ = some (.slice (some ⟨gh, oh, none⟩) nH cH) from rfl)
         go_upto_region 30 with (fail)
         have m0 : ∀ y : LaterS [] wr, _ := fun y => y.bw.cell z0
         have m1 : ∀ y : LaterS [] wr, _ := fun y => y.bw.cell z1
         have n0 : ∀ y : LaterS [] wr, _ := fun y => y.bw.cell y0
         have n1 : ∀ y : LaterS [] wr, _ := fun y => y.bw.cell y1
         have n2 : ∀ y : LaterS [] wr, _ := fun y => y.bw.cell q2
         clear z0 z1 y0 y1 q2
         by_cases h10 : on = o
         case neg =>
          have d10 : (on == o) = false := beq_eq_false_iff_ne.2 h10
          have hdif : Hid (¬ ((he H n).o = o ∧ (he H n).t = t)) := Lib.hid (fun h => h10 (by rw [← hon]; exact h.1))
          replace h10 := Lib.hid h10
          replace hon := Lib.hid hon
          replace htn := Lib.hid htn
          refine wp_region_gg [] [] [] (by kernel_rfl) ?_
          refine hoist [] [] (a1 := ?_) 0 rfl (by kernel_rfl) (.inl ⟨rfl, rfl⟩) rfl rfl rfl (fun x K hK => ?_) ?_
          rotate_left
          ·go_big_quiet_op
           exact hK
          refine hoist [] [] (a1 := ?_) 1 rfl (by kernel_rfl) (.inl ⟨rfl, rfl⟩) rfl rfl rfl (fun x K hK => ?_) ?_
          rotate_left
          ·go_big_quiet_op
           exact hK
          refine hoist [] [] (a1 := ?_) 2 rfl (by kernel_rfl) (.inl ⟨rfl, rfl⟩) rfl rfl rfl (fun x K hK => ?_) ?_
          rotate_left
          ·go_big_quiet_op
           exact hK
          refine hoist [] [] (a1 := ?_) 3 rfl (by kernel_rfl) (.inl ⟨rfl, rfl⟩) rfl rfl rfl (fun x K hK => ?_) ?_
          rotate_left
          ·go_big_quiet_op
           exact hK
          refine hoist [] [] (a1 := ?_) 4 rfl (by kernel_rfl) (.inl ⟨rfl, rfl⟩) rfl rfl rfl (fun x K hK => ?_) ?_
          rotate_left
          ·go_big_quiet_op
           exact hK
          refine hoist [] [] (a1 := ?_) 5 rfl (by kernel_rfl) (.inl ⟨rfl, rfl⟩) rfl rfl rfl (fun x K hK => ?_) ?_
          rotate_left
          ·go_big_quiet_op
           exact hK
          refine hoist [] [] (a1 := ?_) 6 rfl (by kernel_rfl) (.inl ⟨rfl, rfl⟩) rfl rfl rfl (fun x K hK => ?_) ?_
          rotate_left
          ·go_big_quiet_op
           exact hK
          refine hoist [] [] (a1 := ?_) 7 rfl (by kernel_rfl) (.inl ⟨rfl, rfl⟩) rfl rfl rfl (fun x K hK => ?_) ?_
          rotate_left
          ·go_big_quiet_op
           exact hK
          refine hoist [] [] (a1 := ?_) 8 rfl (by kernel_rfl) (.inl ⟨rfl, rfl⟩) rfl rfl rfl (fun x K hK => ?_) ?_
          rotate_left
          ·go_big_quiet_op
           exact hK
          refine hoist [] [] (a1 := ?_) 9 rfl (by kernel_rfl) (.inl ⟨rfl, rfl⟩) rfl rfl rfl (fun x K hK => ?_) ?_
          rotate_left
          ·go_big_quiet_op
           exact hK
          refine hoist_skip [] [] 10 rfl (by kernel_rfl) (.inl ⟨rfl, rfl⟩) rfl (a1 := ?_) ?_ ?_
          rotate_left
          ·simp only [Act.put, List.setIfInBounds_toArray, List.set_cons_succ, List.set_cons_zero]; rfl
          refine hoist_skip [] [] 11 rfl (by kernel_rfl) (.inl ⟨rfl, rfl⟩) rfl (a1 := ?_) ?_ ?_
          rotate_left
          ·simp only [Act.put, List.setIfInBounds_toArray, List.set_cons_succ, List.set_cons_zero]; rfl
          refine hoist_skip [] [] 12 rfl (by kernel_rfl) (.inl ⟨rfl, rfl⟩) rfl (a1 := ?_) ?_ ?_
          rotate_left
          ·simp only [Act.put, List.setIfInBounds_toArray, List.set_cons_succ, List.set_cons_zero]; rfl
          refine hoist_skip [] [] 13 rfl (by kernel_rfl) (.inl ⟨rfl, rfl⟩) rfl (a1 := ?_) ?_ ?_
          rotate_left
          ·simp only [Act.put, List.setIfInBounds_toArray, List.set_cons_succ, List.set_cons_zero]; rfl
          refine hoist_skip [] [] 14 rfl (by kernel_rfl) (.inl ⟨rfl, rfl⟩) rfl (a1 := ?_) ?_ ?_
          rotate_left
          ·simp only [Act.put, List.setIfInBounds_toArray, List.set_cons_succ, List.set_cons_zero]; rfl
          refine hoist_skip [] [] 15 rfl (by kernel_rfl) (.inl ⟨rfl, rfl⟩) rfl (a1 := ?_) ?_ ?_
          rotate_left
          ·simp only [Act.put, List.setIfInBounds_toArray, List.set_cons_succ, List.set_cons_zero]; rfl
          refine hoist_skip [] [] 16 rfl (by kernel_rfl) (.inl ⟨rfl, rfl⟩) rfl (a1 := ?_) ?_ ?_
          rotate_left
          ·simp only [Act.put, List.setIfInBounds_toArray, List.set_cons_succ, List.set_cons_zero]; rfl
          refine hoist_skip [] [] 17 rfl (by kernel_rfl) (.inl ⟨rfl, rfl⟩) rfl (a1 := ?_) ?_ ?_
          rotate_left
          ·simp only [Act.put, List.setIfInBounds_toArray, List.set_cons_succ, List.set_cons_zero]; rfl
          refine hoist_skip [] [] 18 rfl (by kernel_rfl) (.inl ⟨rfl, rfl⟩) rfl (a1 := ?_) ?_ ?_
          rotate_left
          ·simp only [Act.put, List.setIfInBounds_toArray, List.set_cons_succ, List.set_cons_zero]; rfl
          refine hoist [] [] (a1 := ?_) 19 rfl (by kernel_rfl) (.inl ⟨rfl, rfl⟩) rfl rfl rfl (fun x K hK => ?_) ?_
          rotate_left
          ·go_big_quiet_op
           exact hK
          refine done (by kernel_rfl) (fun xr => ?_)
          have hne2 : Hid (∀ j, j < n + 1 → ¬ ((he H j).o = o ∧ (he H j).t = t)) := Lib.hid (fun j hj => by
           by_cases e : j < n
           ·exact hne.out j e
           ·obtain rfl : j = n := by omega
            exact hdif.out)
          clear hne
          have C2 := Lib.hid (C.out.trans xr.bw)
          clear m0 m1 n0 n1 n2 C
          generalize xr.now = w9 at *
          clear xr
          go_wp2_with fail
          go_roundg (k - (n + 1))
          case measure => omega
          case rel => exact ⟨n + 1, rfl, by omega, by first | rfl | (push_cast; rfl), hne2, C2⟩
         have d10 : (on == o) = true := beq_iff_eq.2 h10
         by_cases h11 : tn = t
         case neg =>
          have d11 : (tn == t) = false := beq_eq_false_iff_ne.2 h11
          have hdif : Hid (¬ ((he H n).o = o ∧ (he H n).t = t)) := Lib.hid (fun h => h11 (by rw [← htn]; exact h.2))
          replace h10 := Lib.hid h10
          replace h11 := Lib.hid h11
          replace hon := Lib.hid hon
          replace htn := Lib.hid htn
          refine wp_region_gg [] [] [] (by kernel_rfl) ?_
          refine hoist [] [] (a1 := ?_) 0 rfl (by kernel_rfl) (.inl ⟨rfl, rfl⟩) rfl rfl rfl (fun x K hK => ?_) ?_
          rotate_left
          ·go_big_quiet_op
           exact hK
          refine hoist [] [] (a1 := ?_) 1 rfl (by kernel_rfl) (.inl ⟨rfl, rfl⟩) rfl rfl rfl (fun x K hK => ?_) ?_
          rotate_left
          ·go_big_quiet_op
           exact hK
          refine hoist [] [] (a1 := ?_) 2 rfl (by kernel_rfl) (.inl ⟨rfl, rfl⟩) rfl rfl rfl (fun x K hK => ?_) ?_
          rotate_left
          ·go_big_quiet_op
           exact hK
          refine hoist [] [] (a1 := ?_) 3 rfl (by kernel_rfl) (.inl ⟨rfl, rfl⟩) rfl rfl rfl (fun x K hK => ?_) ?_
          rotate_left
          ·go_big_quiet_op
           exact hK
          refine hoist [] [] (a1 := ?_) 4 rfl (by kernel_rfl) (.inl ⟨rfl, rfl⟩) rfl rfl rfl (fun x K hK => ?_) ?_
          rotate_left
          ·go_big_quiet_op
           exact hK
          refine hoist [] [] (a1 := ?_) 5 rfl (by kernel_rfl) (.inl ⟨rfl, rfl⟩) rfl rfl rfl (fun x K hK => ?_) ?_
          rotate_left
          ·go_big_quiet_op
           exact hK
          refine hoist [] [] (a1 := ?_) 6 rfl (by kernel_rfl) (.inl ⟨rfl, rfl⟩) rfl rfl rfl (fun x K hK => ?_) ?_
          rotate_left
          ·go_big_quiet_op
           exact hK
          refine hoist [] [] (a1 := ?_) 7 rfl (by kernel_rfl) (.inl ⟨rfl, rfl⟩) rfl rfl rfl (fun x K hK => ?_) ?_
          rotate_left
          ·go_big_quiet_op
           exact hK
          refine hoist [] [] (a1 := ?_) 8 rfl (by kernel_rfl) (.inl ⟨rfl, rfl⟩) rfl rfl rfl (fun x K hK => ?_) ?_
          rotate_left
          ·go_big_quiet_op
           exact hK
          refine hoist [] [] (a1 := ?_) 9 rfl (by kernel_rfl) (.inl ⟨rfl, rfl⟩) rfl rfl rfl (fun x K hK => ?_) ?_
          rotate_left
          ·go_big_quiet_op
           exact hK
          refine hoist [] [] (a1 := ?_) 10 rfl (by kernel_rfl) (.inl ⟨rfl, rfl⟩) rfl rfl rfl (fun x K hK => ?_) ?_
          rotate_left
          ·go_big_quiet_op
           exact hK
          refine hoist [] [] (a1 := ?_) 11 rfl (by kernel_rfl) (.inl ⟨rfl, rfl⟩) rfl rfl rfl (fun x K hK => ?_) ?_
          rotate_left
          ·go_big_quiet_op
           exact hK
          refine hoist [] [] (a1 := ?_) 12 rfl (by kernel_rfl) (.inl ⟨rfl, rfl⟩) rfl rfl rfl (fun x K hK => ?_) ?_
          rotate_left
          ·go_big_quiet_op
           exact hK
          refine hoist [] [] (a1 := ?_) 13 rfl (by kernel_rfl) (.inl ⟨rfl, rfl⟩) rfl rfl rfl (fun x K hK => ?_) ?_
          rotate_left
          ·go_big_quiet_op
           exact hK
          refine hoist [] [] (a1 := ?_) 14 rfl (by kernel_rfl) (.inl ⟨rfl, rfl⟩) rfl rfl rfl (fun x K hK => ?_) ?_
          rotate_left
          ·go_big_quiet_op
           exact hK
          refine hoist [] [] (a1 := ?_) 15 rfl (by kernel_rfl) (.inl ⟨rfl, rfl⟩) rfl rfl rfl (fun x K hK => ?_) ?_
          rotate_left
          ·go_big_quiet_op
           exact hK
          refine hoist [] [] (a1 := ?_) 16 rfl (by kernel_rfl) (.inl ⟨rfl, rfl⟩) rfl rfl rfl (fun x K hK => ?_) ?_
          rotate_left
          ·go_big_quiet_op
           exact hK
          refine hoist [] [] (a1 := ?_) 17 rfl (by kernel_rfl) (.inl ⟨rfl, rfl⟩) rfl rfl rfl (fun x K hK => ?_) ?_
          rotate_left
          ·go_big_quiet_op
           exact hK
          refine hoist [] [] (a1 := ?_) 18 rfl (by kernel_rfl) (.inl ⟨rfl, rfl⟩) rfl rfl rfl (fun x K hK => ?_) ?_
          rotate_left
          ·go_big_quiet_op
           exact hK
          refine hoist [] [] (a1 := ?_) 19 rfl (by kernel_rfl) (.inl ⟨rfl, rfl⟩) rfl rfl rfl (fun x K hK => ?_) ?_
          rotate_left
          ·go_big_quiet_op
           exact hK
          refine done (by kernel_rfl) (fun xr => ?_)
          have hne2 : Hid (∀ j, j < n + 1 → ¬ ((he H j).o = o ∧ (he H j).t = t)) := Lib.hid (fun j hj => by
           by_cases e : j < n
           ·exact hne.out j e
           ·obtain rfl : j = n := by omega
            exact hdif.out)
          clear hne
          have C2 := Lib.hid (C.out.trans xr.bw)
          clear m0 m1 n0 n1 n2 C
          generalize xr.now = w9 at *
          clear xr
          go_wp2_with fail
          go_roundg (k - (n + 1))
          case measure => omega
          case rel => exact ⟨n + 1, rfl, by omega, by first | rfl | (push_cast; rfl), hne2, C2⟩
         have d11 : (tn == t) = true := beq_iff_eq.2 h11
         have hNot := Lib.hid (hNo.out (fun h => (hOk2.out.1 h).2.2.2.2 n hn ⟨by rw [hon]; exact h10, by rw [htn]; exact h11⟩))
         clear hOk2 hNo hOk hne
         replace h10 := Lib.hid h10
         replace h11 := Lib.hid h11
         replace hon := Lib.hid hon
         replace htn := Lib.hid htn
         refine wp_region_gg [] [] [] (by kernel_rfl) ?_
         refine hoist [] [] (a1 := ?_) 0 rfl (by kernel_rfl) (.inl ⟨rfl, rfl⟩) rfl rfl rfl (fun x K hK => ?_) ?_
         rotate_left
         ·go_big_quiet_op
          exact hK
         refine hoist [] [] (a1 := ?_) 1 rfl (by kernel_rfl) (.inl ⟨rfl, rfl⟩) rfl rfl rfl (fun x K hK => ?_) ?_
         rotate_left
         ·go_big_quiet_op
          exact hK
         refine hoist [] [] (a1 := ?_) 2 rfl (by kernel_rfl) (.inl ⟨rfl, rfl⟩) rfl rfl rfl (fun x K hK => ?_) ?_
         rotate_left
         ·go_big_quiet_op
          exact hK
         refine hoist [] [] (a1 := ?_) 3 rfl (by kernel_rfl) (.inl ⟨rfl, rfl⟩) rfl rfl rfl (fun x K hK => ?_) ?_
         rotate_left
         ·go_big_quiet_op
          exact hK
         refine hoist [] [] (a1 := ?_) 4 rfl (by kernel_rfl) (.inl ⟨rfl, rfl⟩) rfl rfl rfl (fun x K hK => ?_) ?_
         rotate_left
         ·go_big_quiet_op
          exact hK
         refine hoist [] [] (a1 := ?_) 5 rfl (by kernel_rfl) (.inl ⟨rfl, rfl⟩) rfl rfl rfl (fun x K hK => ?_) ?_
         rotate_left
         ·go_big_quiet_op
          exact hK
         refine hoist [] [] (a1 := ?_) 6 rfl (by kernel_rfl) (.inl ⟨rfl, rfl⟩) rfl rfl rfl (fun x K hK => ?_) ?_
         rotate_left
         ·go_big_quiet_op
          exact hK
         refine hoist [] [] (a1 := ?_) 7 rfl (by kernel_rfl) (.inl ⟨rfl, rfl⟩) rfl rfl rfl (fun x K hK => ?_) ?_
         rotate_left
         ·go_big_quiet_op
          exact hK
         refine hoist [] [] (a1 := ?_) 8 rfl (by kernel_rfl) (.inl ⟨rfl, rfl⟩) rfl rfl rfl (fun x K hK => ?_) ?_
         rotate_left
         ·go_big_quiet_op
          exact hK
         refine hoist [] [] (a1 := ?_) 9 rfl (by kernel_rfl) (.inl ⟨rfl, rfl⟩) rfl rfl rfl (fun x K hK => ?_) ?_
         rotate_left
         ·go_big_quiet_op
          exact hK
         refine hoist [] [] (a1 := ?_) 10 rfl (by kernel_rfl) (.inl ⟨rfl, rfl⟩) rfl rfl rfl (fun x K hK => ?_) ?_
         rotate_left
         ·go_big_quiet_op
          exact hK
         refine hoist [] [] (a1 := ?_) 11 rfl (by kernel_rfl) (.inl ⟨rfl, rfl⟩) rfl rfl rfl (fun x K hK => ?_) ?_
         rotate_left
         ·go_big_quiet_op
          exact hK
         refine hoist [] [] (a1 := ?_) 12 rfl (by kernel_rfl) (.inl ⟨rfl, rfl⟩) rfl rfl rfl (fun x K hK => ?_) ?_
         rotate_left
         ·go_big_quiet_op
          exact hK
         refine hoist [] [] (a1 := ?_) 13 rfl (by kernel_rfl) (.inl ⟨rfl, rfl⟩) rfl rfl rfl (fun x K hK => ?_) ?_
         rotate_left
         ·go_big_quiet_op
          exact hK
         refine hoist [] [] (a1 := ?_) 14 rfl (by kernel_rfl) (.inl ⟨rfl, rfl⟩) rfl rfl rfl (fun x K hK => ?_) ?_
         rotate_left
         ·go_big_quiet_op
          exact hK
         refine hoist [] [] (a1 := ?_) 15 rfl (by kernel_rfl) (.inl ⟨rfl, rfl⟩) rfl rfl rfl (fun x K hK => ?_) ?_
         rotate_left
         ·go_big_quiet_op
          exact hK
         refine hoist [] [] (a1 := ?_) 16 rfl (by kernel_rfl) (.inl ⟨rfl, rfl⟩) rfl rfl rfl (fun x K hK => ?_) ?_
         rotate_left
         ·go_big_quiet_op
          exact hK
         refine hoist [] [] (a1 := ?_) 17 rfl (by kernel_rfl) (.inl ⟨rfl, rfl⟩) rfl rfl rfl (fun x K hK => ?_) ?_
         rotate_left
         ·go_big_quiet_op
          exact hK
         refine hoist [] [] (a1 := ?_) 18 rfl (by kernel_rfl) (.inl ⟨rfl, rfl⟩) rfl rfl rfl (fun x K hK => ?_) ?_
         rotate_left
         ·go_big_quiet_op
          exact hK
         refine hoist [] [] (a1 := ?_) 19 rfl (by kernel_rfl) (.inl ⟨rfl, rfl⟩) rfl rfl rfl (fun x K hK => ?_) ?_
         rotate_left
         ·go_big_quiet_op
          exact hK
         refine done (by kernel_rfl) (fun xr => ?_)
         have C2 := Lib.hid (B.out.trans (C.out.trans xr.bw))
         clear m0 m1 n0 n1 n2 C
         generalize xr.now = w9 at *
         clear xr
         go_wp2_with fail
         go_ret
         exact ⟨MayOR.no hNot.out, C2.out⟩
        ·obtain rfl : n = k := by omega
         have dn : decide ((n : Int) < (n : Int)) = false := by simp
         have hOk3 : Hid (∀ j, j < n + 1 → OkH seat H j) := Lib.hid (fun j hj => by
          by_cases e : j < n
          ·exact hOk.out j e
          ·obtain rfl : j = n := by omega
           exact hOk2.out.2 ⟨h5.out, h6.out, h8.out, h9.out, hne.out⟩)
         replace X := Lib.hid (X.out.bw C.out)
         replace B := Lib.hid (B.out.trans C.out)
         clear C hOk2 hNo hOk hne Y h5 h6 h8 h9 d9
         go_wp2_with fail
         go_roundg (nH - (n + 1))
         case measure => omega
         case rel => exact ⟨n + 1, rfl, by omega, by first | rfl | (push_cast; rfl), hOk3, X, B⟩
     case neg =>
      have d7 : (l != -1) = true := bne_iff_ne.2 h7
      go_wp2_with fail
      refine Calls.mono (small_any l _) ?_
      rintro e w7 ⟨rfl, hb⟩
      replace X := Lib.hid (X.out.bw hb)
      replace Y := Lib.hid (Y.out.bw hb)
      replace B := Lib.hid (B.out.trans hb)
      clear hb y0 y1 y2 q0
      have y0 := (hp_cell Y.out 0).trans (show _ = some (.int .i64 o) from rfl)
      have y1 := (hp_cell Y.out 1).trans (show _ = some (.int .i64 t) from rfl)
      have y2 := (hp_cell Y.out 2).trans (show _ = some (.int .i64 l) from rfl)
      have q0 := (hp_cell X.out 0).trans (show _ = some (.int .i64 seat) from rfl)
      dsimp only
      by_cases h8' : Sm l
      case neg =>
       rw [decide_eq_false h8']
       have hNot := Lib.hid (hNo.out (fun h => h8' (by have := (hOk2.out.1 h).2.2.1; unfold Sm; omega)))
       clear h5 h6 h7 h8' hOk2 hNo hOk
       go_wp2_with fail
       go_ret
       exact ⟨MayOR.no hNot.out, B.out⟩
      rw [decide_eq_true h8']
      have h8 : -1 ≤ l ∧ l < 255 := by unfold Sm at h8'; omega
      replace h7 := Lib.hid h7
      replace h8' := Lib.hid h8'
      by_cases h9 : o = seat
      case pos =>
       have d9 : (o == seat) = true := beq_iff_eq.2 h9
       have hNot := Lib.hid (hNo.out (fun h => (hOk2.out.1 h).2.2.2.1 h9))
       clear hOk2 hNo hOk h5 h6 h9 h8
       go_wp2_with fail
       go_ret
       exact ⟨MayOR.no hNot.out, B.out⟩
      case neg =>
       have d9 : (o == seat) = false := beq_eq_false_iff_ne.2 h9
       replace h5 := Lib.hid h5
       replace h6 := Lib.hid h6
       replace h8 := Lib.hid h8
       replace h9 := Lib.hid h9
       go_upto_region 28 with (fail)
       clear y0 y1 y2 q0
       rename World => wo
       go_loopg [10] k (fun m' v10 wx => ∃ n : Nat, m' = k - n ∧ n ≤ k ∧ v10 = .int .i64 (n : Nat) ∧ Hid (∀ j, j < n → ¬ ((he H j).o = o ∧ (he H j).t = t)) ∧ Hid (BW wo wx))
       case atStart => exact ⟨0, by omega, by omega, rfl, Lib.hid (fun j hj => absurd hj (Nat.not_lt_zero _)), Lib.hid (BW.refl _)⟩
       case round =>
        obtain ⟨n, rfl, hnk, rfl, hne, C⟩ := hrel
        by_cases hn : n < k
        ·have dn : decide ((n : Int) < (k : Int)) = true := by simp; omega
         have hnH2 : n < nH := by omega
         obtain ⟨z0, z1, -⟩ := hc.out n (by rw [hnHe.out]; exact hnH2)
         obtain ⟨on, hon⟩ : ∃ x, (he H n).o = x := ⟨_, rfl⟩
         obtain ⟨tn, htn⟩ : ∃ x, (he H n).t = x := ⟨_, rfl⟩
         rw [hon] at z0
         rw [htn] at z1
         replace z0 := (B.out.trans C.out).cell z0
         replace z1 := (B.out.trans C.out).cell z1
         have y0 := (hp_cell (Y.out.bw C.out) 0).trans (show _ = some (.int .i64 o) from rfl)
         have y1 := (hp_cell (Y.out.bw C.out) 1).trans (show _ = some (.int .i64 t) from rfl)
         have q2 := (hp_cell (X.out.bw C.out) 2).trans (show _ = some (.slice (some ⟨gh, oh, none⟩) nH cH) from rfl)
         go_upto_region 30 with (fail)
         have m0 : ∀ y : LaterS [] wr, _ := fun y => y.bw.cell z0
         have m1 : ∀ y : LaterS [] wr, _ := fun y => y.bw.cell z1
         have n0 : ∀ y : LaterS [] wr, _ := fun y => y.bw.cell y0
         have n1 : ∀ y : LaterS [] wr, _ := fun y => y.bw.cell y1
         have n2 : ∀ y : LaterS [] wr, _ := fun y => y.bw.cell q2
         clear z0 z1 y0 y1 q2
         by_cases h10 : on = o
         case neg =>
          have d10 : (on == o) = false := beq_eq_false_iff_ne.2 h10
          have hdif : Hid (¬ ((he H n).o = o ∧ (he H n).t = t)) := Lib.hid (fun h => h10 (by rw [← hon]; exact h.1))
          replace h10 := Lib.hid h10
          replace hon := Lib.hid hon
          replace htn := Lib.hid htn
          refine wp_region_gg [] [] [] (by kernel_rfl) ?_
          refine hoist [] [] (a1 := ?_) 0 rfl (by kernel_rfl) (.inl ⟨rfl, rfl⟩) rfl rfl rfl (fun x K hK => ?_) ?_
          rotate_left
          ·go_big_quiet_op
           exact hK
          refine hoist [] [] (a1 := ?_) 1 rfl (by kernel_rfl) (.inl ⟨rfl, rfl⟩) rfl rfl rfl (fun x K hK => ?_) ?_
          rotate_left
          ·go_big_quiet_op
           exact hK
          refine hoist [] [] (a1 := ?_) 2 rfl (by kernel_rfl) (.inl ⟨rfl, rfl⟩) rfl rfl rfl (fun x K hK => ?_) ?_
          rotate_left
          ·go_big_quiet_op
           exact hK
          refine hoist [] [] (a1 := ?_) 3 rfl (by kernel_rfl) (.inl ⟨rfl, rfl⟩) rfl rfl rfl (fun x K hK => ?_) ?_
          rotate_left
          ·go_big_quiet_op
           exact hK
          refine hoist [] [] (a1 := ?_) 4 rfl (by kernel_rfl) (.inl ⟨rfl, rfl⟩) rfl rfl rfl (fun x K hK => ?_) ?_
          rotate_left
          ·go_big_quiet_op
           exact hK
          refine hoist [] [] (a1 := ?_) 5 rfl (by kernel_rfl) (.inl ⟨rfl, rfl⟩) rfl rfl rfl (fun x K hK => ?_) ?_
          rotate_left
          ·go_big_quiet_op
           exact hK
          refine hoist [] [] (a1 := ?_) 6 rfl (by kernel_rfl) (.inl ⟨rfl, rfl⟩) rfl rfl rfl (fun x K hK => ?_) ?_
          rotate_left
          ·go_big_quiet_op
           exact hK
          refine hoist [] [] (a1 := ?_) 7 rfl (by kernel_rfl) (.inl ⟨rfl, rfl⟩) rfl rfl rfl (fun x K hK => ?_) ?_
          rotate_left
          ·go_big_quiet_op
           exact hK
          refine hoist [] [] (a1 := ?_) 8 rfl (by kernel_rfl) (.inl ⟨rfl, rfl⟩) rfl rfl rfl (fun x K hK => ?_) ?_
          rotate_left
          ·go_big_quiet_op
           exact hK
          refine hoist [] [] (a1 := ?_) 9 rfl (by kernel_rfl) (.inl ⟨rfl, rfl⟩) rfl rfl rfl (fun x K hK => ?_) ?_
          rotate_left
          ·go_big_quiet_op
           exact hK
          refine hoist_skip [] [] 10 rfl (by kernel_rfl) (.inl ⟨rfl, rfl⟩) rfl (a1 := ?_) ?_ ?_
          rotate_left
          ·simp only [Act.put, List.setIfInBounds_toArray, List.set_cons_succ, List.set_cons_zero]; rfl
          refine hoist_skip [] [] 11 rfl (by kernel_rfl) (.inl ⟨rfl, rfl⟩) rfl (a1 := ?_) ?_ ?_
          rotate_left
          ·simp only [Act.put, List.setIfInBounds_toArray, List.set_cons_succ, List.set_cons_zero]; rfl
          refine hoist_skip [] [] 12 rfl (by kernel_rfl) (.inl ⟨rfl, rfl⟩) rfl (a1 := ?_) ?_ ?_
          rotate_left
          ·simp only [Act.put, List.setIfInBounds_toArray, List.set_cons_succ, List.set_cons_zero]; rfl
          refine hoist_skip [] [] 13 rfl (by kernel_rfl) (.inl ⟨rfl, rfl⟩) rfl (a1 := ?_) ?_ ?_
          rotate_left
          ·simp only [Act.put, List.setIfInBounds_toArray, List.set_cons_succ, List.set_cons_zero]; rfl
          refine hoist_skip [] [] 14 rfl (by kernel_rfl) (.inl ⟨rfl, rfl⟩) rfl (a1 := ?_) ?_ ?_
          rotate_left
          ·simp only [Act.put, List.setIfInBounds_toArray, List.set_cons_succ, List.set_cons_zero]; rfl
          refine hoist_skip [] [] 15 rfl (by kernel_rfl) (.inl ⟨rfl, rfl⟩) rfl (a1 := ?_) ?_ ?_
          rotate_left
          ·simp only [Act.put, List.setIfInBounds_toArray, List.set_cons_succ, List.set_cons_zero]; rfl
          refine hoist_skip [] [] 16 rfl (by kernel_rfl) (.inl ⟨rfl, rfl⟩) rfl (a1 := ?_) ?_ ?_
          rotate_left
          ·simp only [Act.put, List.setIfInBounds_toArray, List.set_cons_succ, List.set_cons_zero]; rfl
          refine hoist_skip [] [] 17 rfl (by kernel_rfl) (.inl ⟨rfl, rfl⟩) rfl (a1 := ?_) ?_ ?_
          rotate_left
          ·simp only [Act.put, List.setIfInBounds_toArray, List.set_cons_succ, List.set_cons_zero]; rfl
          refine hoist_skip [] [] 18 rfl (by kernel_rfl) (.inl ⟨rfl, rfl⟩) rfl (a1 := ?_) ?_ ?_
          rotate_left
          ·simp only [Act.put, List.setIfInBounds_toArray, List.set_cons_succ, List.set_cons_zero]; rfl
          refine hoist [] [] (a1 := ?_) 19 rfl (by kernel_rfl) (.inl ⟨rfl, rfl⟩) rfl rfl rfl (fun x K hK => ?_) ?_
          rotate_left
          ·go_big_quiet_op
           exact hK
          refine done (by kernel_rfl) (fun xr => ?_)
          have hne2 : Hid (∀ j, j < n + 1 → ¬ ((he H j).o = o ∧ (he H j).t = t)) := Lib.hid (fun j hj => by
           by_cases e : j < n
           ·exact hne.out j e
           ·obtain rfl : j = n := by omega
            exact hdif.out)
          clear hne
          have C2 := Lib.hid (C.out.trans xr.bw)
          clear m0 m1 n0 n1 n2 C
          generalize xr.now = w9 at *
          clear xr
          go_wp2_with fail
          go_roundg (k - (n + 1))
          case measure => omega
          case rel => exact ⟨n + 1, rfl, by omega, by first | rfl | (push_cast; rfl), hne2, C2⟩
         have d10 : (on == o) = true := beq_iff_eq.2 h10
         by_cases h11 : tn = t
         case neg =>
          have d11 : (tn == t) = false := beq_eq_false_iff_ne.2 h11
          have hdif : Hid (¬ ((he H n).o = o ∧ (he H n).t = t)) := Lib.hid (fun h => h11 (by rw [← htn]; exact h.2))
          replace h10 := Lib.hid h10
          replace h11 := Lib.hid h11
          replace hon := Lib.hid hon
          replace htn := Lib.hid htn
          refine wp_region_gg [] [] [] (by kernel_rfl) ?_
          refine hoist [] [] (a1 := ?_) 0 rfl (by kernel_rfl) (.inl ⟨rfl, rfl⟩) rfl rfl rfl (fun x K hK => ?_) ?_
          rotate_left
          ·go_big_quiet_op
           exact hK
          refine hoist [] [] (a1 := ?_) 1 rfl (by kernel_rfl) (.inl ⟨rfl, rfl⟩) rfl rfl rfl (fun x K hK => ?_) ?_
          rotate_left
          ·go_big_quiet_op
           exact hK
          refine hoist [] [] (a1 := ?_) 2 rfl (by kernel_rfl) (.inl ⟨rfl, rfl⟩) rfl rfl rfl (fun x K hK => ?_) ?_
          rotate_left
          ·go_big_quiet_op
           exact hK
          refine hoist [] [] (a1 := ?_) 3 rfl (by kernel_rfl) (.inl ⟨rfl, rfl⟩) rfl rfl rfl (fun x K hK => ?_) ?_
          rotate_left
          ·go_big_quiet_op
           exact hK
          refine hoist [] [] (a1 := ?_) 4 rfl (by kernel_rfl) (.inl ⟨rfl, rfl⟩) rfl rfl rfl (fun x K hK => ?_) ?_
          rotate_left
          ·go_big_quiet_op
           exact hK
          refine hoist [] [] (a1 := ?_) 5 rfl (by kernel_rfl) (.inl ⟨rfl, rfl⟩) rfl rfl rfl (fun x K hK => ?_) ?_
          rotate_left
          ·go_big_quiet_op
           exact hK
          refine hoist [] [] (a1 := ?_) 6 rfl (by kernel_rfl) (.inl ⟨rfl, rfl⟩) rfl rfl rfl (fun x K hK => ?_) ?_
          rotate_left
          ·go_big_quiet_op
           exact hK
          refine hoist [] [] (a1 := ?_) 7 rfl (by kernel_rfl) (.inl ⟨rfl, rfl⟩) rfl rfl rfl (fun x K hK => ?_) ?_
          rotate_left
          ·go_big_quiet_op
           exact hK
          refine hoist [] [] (a1 := ?_) 8 rfl (by kernel_rfl) (.inl ⟨rfl, rfl⟩) rfl rfl rfl (fun x K hK => ?_) ?_
          rotate_left
          ·go_big_quiet_op
           exact hK
          refine hoist [] [] (a1 := ?_) 9 rfl (by kernel_rfl) (.inl ⟨rfl, rfl⟩) rfl rfl rfl (fun x K hK => ?_) ?_
          rotate_left
          ·go_big_quiet_op
           exact hK
          refine hoist [] [] (a1 := ?_) 10 rfl (by kernel_rfl) (.inl ⟨rfl, rfl⟩) rfl rfl rfl (fun x K hK => ?_) ?_
          rotate_left
          ·go_big_quiet_op
           exact hK
          refine hoist [] [] (a1 := ?_) 11 rfl (by kernel_rfl) (.inl ⟨rfl, rfl⟩) rfl rfl rfl (fun x K hK => ?_) ?_
          rotate_left
          ·go_big_quiet_op
           exact hK
          refine hoist [] [] (a1 := ?_) 12 rfl (by kernel_rfl) (.inl ⟨rfl, rfl⟩) rfl rfl rfl (fun x K hK => ?_) ?_
          rotate_left
          ·go_big_quiet_op
           exact hK
          refine hoist [] [] (a1 := ?_) 13 rfl (by kernel_rfl) (.inl ⟨rfl, rfl⟩) rfl rfl rfl (fun x K hK => ?_) ?_
          rotate_left
          ·go_big_quiet_op
           exact hK
          refine hoist [] [] (a1 := ?_) 14 rfl (by kernel_rfl) (.inl ⟨rfl, rfl⟩) rfl rfl rfl (fun x K hK => ?_) ?_
          rotate_left
          ·go_big_quiet_op
           exact hK
          refine hoist [] [] (a1 := ?_) 15 rfl (by kernel_rfl) (.inl ⟨rfl, rfl⟩) rfl rfl rfl (fun x K hK => ?_) ?_
          rotate_left
          ·go_big_quiet_op
           exact hK
          refine hoist [] [] (a1 := ?_) 16 rfl (by kernel_rfl) (.inl ⟨rfl, rfl⟩) rfl rfl rfl (fun x K hK => ?_) ?_
          rotate_left
          ·go_big_quiet_op
           exact hK
          refine hoist [] [] (a1 := ?_) 17 rfl (by kernel_rfl) (.inl ⟨rfl, rfl⟩) rfl rfl rfl (fun x K hK => ?_) ?_
          rotate_left
          ·go_big_quiet_op
           exact hK
          refine hoist [] [] (a1 := ?_) 18 rfl (by kernel_rfl) (.inl ⟨rfl, rfl⟩) rfl rfl rfl (fun x K hK => ?_) ?_
          rotate_left
          ·go_big_quiet_op
           exact hK
          refine hoist [] [] (a1 := ?_) 19 rfl (by kernel_rfl) (.inl ⟨rfl, rfl⟩) rfl rfl rfl (fun x K hK => ?_) ?_
          rotate_left
          ·go_big_quiet_op
           exact hK
          refine done (by kernel_rfl) (fun xr => ?_)
          have hne2 : Hid (∀ j, j < n + 1 → ¬ ((he H j).o = o ∧ (he H j).t = t)) := Lib.hid (fun j hj => by
           by_cases e : j < n
           ·exact hne.out j e
           ·obtain rfl : j = n := by omega
            exact hdif.out)
          clear hne
          have C2 := Lib.hid (C.out.trans xr.bw)
          clear m0 m1 n0 n1 n2 C
          generalize xr.now = w9 at *
          clear xr
          go_wp2_with fail
          go_roundg (k - (n + 1))
          case measure => omega
          case rel => exact ⟨n + 1, rfl, by omega, by first | rfl | (push_cast; rfl), hne2, C2⟩
         have d11 : (tn == t) = true := beq_iff_eq.2 h11
         have hNot := Lib.hid (hNo.out (fun h => (hOk2.out.1 h).2.2.2.2 n hn ⟨by rw [hon]; exact h10, by rw [htn]; exact h11⟩))
         clear hOk2 hNo hOk hne
         replace h10 := Lib.hid h10
         replace h11 := Lib.hid h11
         replace hon := Lib.hid hon
         replace htn := Lib.hid htn
         refine wp_region_gg [] [] [] (by kernel_rfl) ?_
         refine hoist [] [] (a1 := ?_) 0 rfl (by kernel_rfl) (.inl ⟨rfl, rfl⟩) rfl rfl rfl (fun x K hK => ?_) ?_
         rotate_left
         ·go_big_quiet_op
          exact hK
         refine hoist [] [] (a1 := ?_) 1 rfl (by kernel_rfl) (.inl ⟨rfl, rfl⟩) rfl rfl rfl (fun x K hK => ?_) ?_
         rotate_left
         ·go_big_quiet_op
          exact hK
         refine hoist [] [] (a1 := ?_) 2 rfl (by kernel_rfl) (.inl ⟨rfl, rfl⟩) rfl rfl rfl (fun x K hK => ?_) ?_
         rotate_left
         ·go_big_quiet_op
          exact hK
         refine hoist [] [] (a1 := ?_) 3 rfl (by kernel_rfl) (.inl ⟨rfl, rfl⟩) rfl rfl rfl (fun x K hK => ?_) ?_
         rotate_left
         ·go_big_quiet_op
          exact hK
         refine hoist [] [] (a1 := ?_) 4 rfl (by kernel_rfl) (.inl ⟨rfl, rfl⟩) rfl rfl rfl (fun x K hK => ?_) ?_
         rotate_left
         ·go_big_quiet_op
          exact hK
         refine hoist [] [] (a1 := ?_) 5 rfl (by kernel_rfl) (.inl ⟨rfl, rfl⟩) rfl rfl rfl (fun x K hK => ?_) ?_
         rotate_left
         ·go_big_quiet_op
          exact hK
         refine hoist [] [] (a1 := ?_) 6 rfl (by kernel_rfl) (.inl ⟨rfl, rfl⟩) rfl rfl rfl (fun x K hK => ?_) ?_
         rotate_left
         ·go_big_quiet_op
          exact hK
         refine hoist [] [] (a1 := ?_) 7 rfl (by kernel_rfl) (.inl ⟨rfl, rfl⟩) rfl rfl rfl (fun x K hK => ?_) ?_
         rotate_left
         ·go_big_quiet_op
          exact hK
         refine hoist [] [] (a1 := ?_) 8 rfl (by kernel_rfl) (.inl ⟨rfl, rfl⟩) rfl rfl rfl (fun x K hK => ?_) ?_
         rotate_left
         ·go_big_quiet_op
          exact hK
         refine hoist [] [] (a1 := ?_) 9 rfl (by kernel_rfl) (.inl ⟨rfl, rfl⟩) rfl rfl rfl (fun x K hK => ?_) ?_
         rotate_left
         ·go_big_quiet_op
          exact hK
         refine hoist [] [] (a1 := ?_) 10 rfl (by kernel_rfl) (.inl ⟨rfl, rfl⟩) rfl rfl rfl (fun x K hK => ?_) ?_
         rotate_left
         ·go_big_quiet_op
          exact hK
         refine hoist [] [] (a1 := ?_) 11 rfl (by kernel_rfl) (.inl ⟨rfl, rfl⟩) rfl rfl rfl (fun x K hK => ?_) ?_
         rotate_left
         ·go_big_quiet_op
          exact hK
         refine hoist [] [] (a1 := ?_) 12 rfl (by kernel_rfl) (.inl ⟨rfl, rfl⟩) rfl rfl rfl (fun x K hK => ?_) ?_
         rotate_left
         ·go_big_quiet_op
          exact hK
         refine hoist [] [] (a1 := ?_) 13 rfl (by kernel_rfl) (.inl ⟨rfl, rfl⟩) rfl rfl rfl (fun x K hK => ?_) ?_
         rotate_left
         ·go_big_quiet_op
          exact hK
         refine hoist [] [] (a1 := ?_) 14 rfl (by kernel_rfl) (.inl ⟨rfl, rfl⟩) rfl rfl rfl (fun x K hK => ?_) ?_
         rotate_left
         ·go_big_quiet_op
          exact hK
         refine hoist [] [] (a1 := ?_) 15 rfl (by kernel_rfl) (.inl ⟨rfl, rfl⟩) rfl rfl rfl (fun x K hK => ?_) ?_
         rotate_left
         ·go_big_quiet_op
          exact hK
         refine hoist [] [] (a1 := ?_) 16 rfl (by kernel_rfl) (.inl ⟨rfl, rfl⟩) rfl rfl rfl (fun x K hK => ?_) ?_
         rotate_left
         ·go_big_quiet_op
          exact hK
         refine hoist [] [] (a1 := ?_) 17 rfl (by kernel_rfl) (.inl ⟨rfl, rfl⟩) rfl rfl rfl (fun x K hK => ?_) ?_
         rotate_left
         ·go_big_quiet_op
          exact hK
         refine hoist [] [] (a1 := ?_) 18 rfl (by kernel_rfl) (.inl ⟨rfl, rfl⟩) rfl rfl rfl (fun x K hK => ?_) ?_
         rotate_left
         ·go_big_quiet_op
          exact hK
         refine hoist [] [] (a1 := ?_) 19 rfl (by kernel_rfl) (.inl ⟨rfl, rfl⟩) rfl rfl rfl (fun x K hK => ?_) ?_
         rotate_left
         ·go_big_quiet_op
          exact hK
         refine done (by kernel_rfl) (fun xr => ?_)
         have C2 := Lib.hid (B.out.trans (C.out.trans xr.bw))
         clear m0 m1 n0 n1 n2 C
         generalize xr.now = w9 at *
         clear xr
         go_wp2_with fail
         go_ret
         exact ⟨MayOR.no hNot.out, C2.out⟩
        ·obtain rfl : n = k := by omega
         have dn : decide ((n : Int) < (n : Int)) = false := by simp
         have hOk3 : Hid (∀ j, j < n + 1 → OkH seat H j) := Lib.hid (fun j hj => by
          by_cases e : j < n
          ·exact hOk.out j e
          ·obtain rfl : j = n := by omega
           exact hOk2.out.2 ⟨h5.out, h6.out, h8.out, h9.out, hne.out⟩)
         replace X := Lib.hid (X.out.bw C.out)
         replace B := Lib.hid (B.out.trans C.out)
         clear C hOk2 hNo hOk hne Y h5 h6 h8 h9 d9
         go_wp2_with fail
         go_roundg (nH - (n + 1))
         case measure => omega
         case rel => exact ⟨n + 1, rfl, by omega, by first | rfl | (push_cast; rfl), hOk3, X, B⟩
    ·obtain rfl : k = nH := by omega
     have dk2 : decide ((k : Int) < (k : Int)) = false := by simp
     have hYes : Hid (MayO ⟨seat, W, H⟩) := Lib.hid ⟨h1.out, hMW.out, fun j hj => hOk.out j (by rw [← hnHe.out]; exact hj), by show H.length ≤ 4; rw [hnHe.out]; omega⟩
     clear hOk
     go_wp2_with fail
     go_ret
     exact ⟨⟨true, rfl, by simp [hYes.out]⟩, B.out⟩
end Go.Proofs.YtafhnlnhflehhaaGreatDoor
