/- Which wishes may be (printed by wip/gen/genOfQ.py). No condition but the sizes'. -/
import Derived.Test.YtafhnlnhflehhaaGreatDoorOfQs
namespace Go.Proofs.YtafhnlnhflehhaaGreatDoor
open Go.RowKit
def MayWR (L : List WishD) (e : Ending) : Prop := ∃ b : Bool, e = .returned (.bool b) ∧ (b = true ↔ MayW L)
theorem MayWR.no {L : List WishD} (h : ¬ MayW L) : MayWR L (.returned (.bool false)) := ⟨false, rfl, by simp [h]⟩
theorem Sls.newN {α : Type} {E : Elt α} (w : World) (T : TypeId) (k : Nat) (c : List Value) (hc : c.length = k * E.size) (h0 : 0 < k) (hk : k ≤ maxLen) : Sls (w.alloc (.cells c.toArray T)) E.size (.slice (some ⟨w.heap.size, 0, Option.none⟩) k k) k c :=
 ⟨by omega, hk, .inr ⟨w.heap.size, 0, k, rfl, Nat.le_refl _, hk, by simp, fun j hj => by
  rw [Nat.zero_add, hp_cell (hp_new w _ _ rfl) j, List.getElem?_toArray]⟩⟩
theorem newI1 (w : World) (a : Int) : SQ I1 (w.alloc (.cells #[.int .i64 a] 3)) 0 (.slice (some ⟨w.heap.size, 0, none⟩) 1 1) 1 [a] := ⟨rfl, [.int .i64 a], Sls.newN (E := I1) w 3 1 [.int .i64 a] rfl (by decide) (by decide), EL.single (show I1.R _ _ a _ from rfl)⟩
theorem newI3 (w : World) (a b c : Int) : SQ I1 (w.alloc (.cells #[.int .i64 a, .int .i64 b, .int .i64 c] 3)) 0 (.slice (some ⟨w.heap.size, 0, none⟩) 3 3) 3 [a, b, c] :=
 ⟨rfl, [.int .i64 a, .int .i64 b, .int .i64 c], Sls.newN (E := I1) w 3 3 [.int .i64 a, .int .i64 b, .int .i64 c] rfl (by decide) (by decide), (EL.single (E := I1) (a := a) (c := [.int .i64 a]) rfl).append ((EL.single (E := I1) (a := b) (c := [.int .i64 b]) rfl).append (EL.single (E := I1) (a := c) (c := [.int .i64 c]) rfl))⟩
theorem slU4 : SlTy Tryz.prog 39 38 1 4 := SlTy.mk' Tryz.underlying39 (by kernel_rfl) (by decide)
theorem codecs_any (w : World) :
  Calls Tryz.prog 16 #[] w fun e w' => ∃ g, e = .returned (.slice (some ⟨g, 0, none⟩) 3 3) ∧ w'.cell? ⟨g, 0, none⟩ = some (.string ⟨#[112, 108, 97, 105, 110]⟩) ∧ w'.cell? ⟨g, 1, none⟩ = some (.string ⟨#[118, 112, 56]⟩) ∧ w'.cell? ⟨g, 2, none⟩ = some (.string ⟨#[97, 118, 99]⟩) ∧ BW w w' := by
 have BA : BW w (w.alloc (.cells #[.string ⟨#[112, 108, 97, 105, 110]⟩, .string ⟨#[118, 112, 56]⟩, .string ⟨#[97, 118, 99]⟩] 9)) := (BW.refl w).alloc
 have X := HpB.new w (.cells #[.string ⟨#[112, 108, 97, 105, 110]⟩, .string ⟨#[118, 112, 56]⟩, .string ⟨#[97, 118, 99]⟩] 9)
 replace BA := Lib.hid BA
 replace X := Lib.hid X
 go_enter Tryz.func16, Tryz.ntmps16
 go_wp2_with fail
 go_ret
 exact ⟨_, rfl, hp_cell X.out 0, hp_cell X.out 1, hp_cell X.out 2, BA.out⟩
instance smDec (t : Int) : Decidable (Sm t) := by unfold Sm; infer_instance
theorem sm_below (t : Int) : (!([t].any (notSm 255))) = decide (Sm t) := by
 unfold notSm Sm
 rw [List.any_cons, List.any_nil, Bool.or_false, ← Bool.decide_or, ← decide_not]
 exact decide_eq_decide.2 (by omega)
theorem sm_below3 (t : Int) : (!([t].any (notSm 3))) = decide (0 ≤ t ∧ t < 3) := by
 unfold notSm
 rw [List.any_cons, List.any_nil, Bool.or_false, ← Bool.decide_or, ← decide_not]
 exact decide_eq_decide.2 (by omega)
set_option maxRecDepth 100000 in
set_option maxHeartbeats 8000000 in
theorem mayw_any (sa : Option Addr) (n cap : Nat) (L : List WishD) (w : World) (h : SQ EWi w 0 (.slice sa n cap) n L) (hn : n ≤ 100000) (hs : ∀ i, i < n → (wi L i).s.length ≤ 1000000) :
  Calls Tryz.prog 30 #[.slice sa n cap] w fun e w' => MayWR L e ∧ BW w w' := by
 obtain ⟨_, _, he, hnc, hcm⟩ := h.len
 cases he
 unfold maxLen at hcm
 have hH := Lib.hid h
 have hln := Lib.hid h.1
 have hsH := Lib.hid hs
 have Q := Lib.hid (show EQ EU4 38 w w.heap.size (.slice none 0 0) 0 (allS (L.take 0)) from EQ.nil _ _ _ _)
 obtain ⟨base, hbase⟩ : ∃ b, w.heap.size = b := ⟨_, rfl⟩
 rw [hbase] at Q
 have hb0 := Lib.hid hbase
 clear h hs hbase
 go_enter Tryz.func30, Tryz.ntmps30
 go_upto_region 3 with (fail)
 go_loopg [3, 9] n (fun m' v3 v9 wx => ∃ (i m cp : Nat) (s : Option Addr), m' = n - i ∧ i ≤ n ∧ v9 = .int .i64 (i : Nat) ∧ v3 = .slice s m cp ∧ m ≤ 4 * i ∧ i ≤ m ∧ Hid (i = 0 → s = none ∧ cp = 0) ∧ Hid (EQ EU4 38 wx base (.slice s m cp) m (allS (L.take i))) ∧ Hid (∀ j, j < i → OkW L j) ∧ Hid (BW w wx))
 case atStart => exact ⟨0, 0, 0, none, by omega, by omega, rfl, rfl, by omega, by omega, Lib.hid (fun _ => ⟨rfl, rfl⟩), Q, Lib.hid (fun j hj => absurd hj (Nat.not_lt_zero _)), Lib.hid (BW.refl _)⟩
 case round =>
  clear Q
  obtain ⟨i, m, cp, s, rfl, hi, rfl, rfl, hm, him, hz, Q, hOk, B⟩ := hrel
  by_cases hin : i < n
  ·have dk : decide ((i : Int) < (n : Int)) = true := by simp; omega
   have hiL : i < L.length := by rw [hln.out]; exact hin
   obtain ⟨gw, ow, rfl, -, hc⟩ := wi_form (hH.out.bw B.out) (by omega)
   obtain ⟨sk, mk, ck, y0, y1, y2, hk⟩ := hc i hiL
   have hmk : (wi L i).s.length = mk := by rw [wi_get hiL]; exact hk.1
   have hmk40 : mk ≤ 1000000 := by rw [← hmk]; exact hsH.out i hin
   obtain ⟨_, _, he, hkc, hkm⟩ := hk.len
   cases he
   unfold maxLen at hkm
   have hOkI : Hid (OkW L i ↔ Sm (wi L i).t ∧ (0 ≤ (wi L i).c ∧ (wi L i).c < 3) ∧ (0 < i → (wi L (i - 1)).t < (wi L i).t) ∧ (1 ≤ mk ∧ mk ≤ 4)) := Lib.hid (by unfold OkW; rw [hmk])
   rw [← wi_get hiL] at y0 y1 hk
   replace hk := Lib.hid hk
   have hprev : Hid (∀ i1, i = i1 + 1 → wr.cell? ⟨gw, ow + i1 * 3, none⟩ = some (.int .i64 (wi L i1).t)) := Lib.hid (fun i1 e => by
    obtain ⟨_, _, _, z0, _⟩ := hc i1 (by omega)
    rw [← wi_get] at z0
    exact z0)
   clear hc
   obtain ⟨t, ht⟩ : ∃ t, (wi L i).t = t := ⟨_, rfl⟩
   obtain ⟨c, hcc⟩ : ∃ c, (wi L i).c = c := ⟨_, rfl⟩
   rw [ht] at y0
   rw [hcc] at y1
   have hOk2 : Hid (OkW L i ↔ Sm t ∧ (0 ≤ c ∧ c < 3) ∧ (0 < i → (wi L (i - 1)).t < t) ∧ (1 ≤ mk ∧ mk ≤ 4)) := Lib.hid (by rw [← ht, ← hcc]; exact hOkI.out)
   clear hOkI
   replace ht := Lib.hid ht
   replace hcc := Lib.hid hcc
   replace hmk := Lib.hid hmk
   replace hiL := Lib.hid hiL
   go_upto_region 4 with (fail)
   rename World => wo
   go_upto_region 5 with (refine wpList_store_new rfl 41 _ _ rfl _ #[.int .i64 t, .int .i64 c, .slice sk mk ck] _ rfl rfl (by kernel_rfl) rfl rfl ?_)
   have hb := (BW.refl wo).alloc (o := .cells #[.int .i64 t, .int .i64 c, .slice sk mk ck] 41)
   have X := Lib.hid (HpB.new wo (.cells #[.int .i64 t, .int .i64 c, .slice sk mk ck] 41))
   replace Q := Lib.hid (Q.out.bw hb)
   replace hk := Lib.hid (hk.out.bw hb)
   replace hprev : Hid (∀ i1, i = i1 + 1 → (wo.alloc (.cells #[.int .i64 t, .int .i64 c, .slice sk mk ck] 41)).cell? ⟨gw, ow + i1 * 3, none⟩ = some (.int .i64 (wi L i1).t)) := Lib.hid (fun i1 e => hb.cell (hprev.out i1 e))
   replace B := Lib.hid (B.out.trans hb)
   clear hb y0 y1 y2
   generalize wo.alloc (.cells #[.int .i64 t, .int .i64 c, .slice sk mk ck] 41) = w1 at *
   generalize wo.heap.size = gx at *
   clear wo
   have cB1 : Hid (∀ (wx : World) (g : Nat), SQ I1 wx 0 (.slice (some ⟨g, 0, none⟩) 1 1) 1 [t] → Calls Tryz.prog 27 #[.int .i64 255, .slice (some ⟨g, 0, none⟩) 1 1] wx fun e w' => e = .returned (.bool (decide (Sm t))) ∧ BW wx w') := Lib.hid (fun wx g q => by
    rw [← sm_below]
    exact below_any 0 1 _ [t] 255 wx q (by decide))
   have cB2 : Hid (∀ (wx : World) (g : Nat), SQ I1 wx 0 (.slice (some ⟨g, 0, none⟩) 1 1) 1 [c] → Calls Tryz.prog 27 #[.int .i64 3, .slice (some ⟨g, 0, none⟩) 1 1] wx fun e w' => e = .returned (.bool (decide (0 ≤ c ∧ c < 3))) ∧ BW wx w') := Lib.hid (fun wx g q => by
    rw [← sm_below3]
    exact below_any 0 1 _ [c] 3 wx q (by decide))
   by_cases h1 : Sm t
   case neg =>
    rw [decide_eq_false h1] at cB1
    have hNot : Hid (¬ MayW L) := Lib.hid (not_okW hiL.out (fun h => h1 (hOk2.out.1 h).1))
    clear h1 cB2 hprev hOk2 hOk Q hk
    have BB := Lib.hid (BW.refl w1)
    have mt : ∀ y : LaterS [] w1, _ := fun y => y.bw.cell ((hp_cell X.out 0).trans (show _ = some (.int .i64 t) from rfl))
    have mc : ∀ y : LaterS [] w1, _ := fun y => y.bw.cell ((hp_cell X.out 1).trans (show _ = some (.int .i64 c) from rfl))
    have ms : ∀ y : LaterS [] w1, _ := fun y => y.bw.cell ((hp_cell X.out 2).trans (show _ = some (.slice sk mk ck) from rfl))
    refine wp_region_gg [] [] [] (by kernel_rfl) ?_
    refine hoist [] [] (a1 := ?_) 0 rfl (by kernel_rfl) (.inl ⟨rfl, rfl⟩) rfl rfl rfl (fun x K hK => ?_) ?_
    rotate_left
    ·go_big_quiet_op
     exact hK
    refine hoist [] [] (a1 := ?_) 1 rfl (by kernel_rfl) (.inl ⟨rfl, rfl⟩) rfl rfl rfl (fun x K hK => ?_) ?_
    rotate_left
    ·go_big_quiet_op
     exact hK
    refine effect 2 rfl (by kernel_rfl) (by kernel_rfl) rfl (fun x2 K hK => ?_)
    go_simp
    refine hK _ _ (Still.of_below ((Below.refl _ _).alloc (Nat.le_refl _) _)) ?_
    clear hK K
    clear mt mc ms
    have Q2 := Lib.hid (newI1 x2.now t)
    have hb := x2.bw.alloc (o := .cells #[.int .i64 t] 3)
    replace X := Lib.hid (X.out.bw hb)
    replace BB := Lib.hid (BB.out.trans hb)
    generalize x2.now.alloc (.cells #[.int .i64 t] 3) = w2 at *
    generalize x2.now.heap.size = g2 at *
    clear hb
    have mt : ∀ y : LaterS [] w2, _ := fun y => y.bw.cell ((hp_cell X.out 0).trans (show _ = some (.int .i64 t) from rfl))
    have mc : ∀ y : LaterS [] w2, _ := fun y => y.bw.cell ((hp_cell X.out 1).trans (show _ = some (.int .i64 c) from rfl))
    have ms : ∀ y : LaterS [] w2, _ := fun y => y.bw.cell ((hp_cell X.out 2).trans (show _ = some (.slice sk mk ck) from rfl))
    try simp only [Act.put, List.setIfInBounds_toArray, List.set_cons_succ, List.set_cons_zero]
    refine hoist_call [] [] (a1 := ?_) 3 rfl (by kernel_rfl) (.inl ⟨rfl, rfl⟩) rfl rfl rfl (fun x K hK => ?_) ?_
    rotate_left
    ·go_big_quiet_op
     apply Exists.intro
     refine ⟨fun y => ?_, ?_⟩
     ·exact Calls.laterS_of (cB1.out y.now _ (Q2.out.bw (x.bw.trans y.bw)))
     ·exact hK
    refine hoist [] [] (a1 := ?_) 4 rfl (by kernel_rfl) (.inl ⟨rfl, rfl⟩) rfl rfl rfl (fun x K hK => ?_) ?_
    rotate_left
    ·go_big_quiet_op
     exact hK
    refine hoist [] [] (a1 := ?_) 5 rfl (by kernel_rfl) (.inl ⟨rfl, rfl⟩) rfl rfl rfl (fun x K hK => ?_) ?_
    rotate_left
    ·go_big_quiet_op
     exact hK
    refine hoist_skip [] [] 6 rfl (by kernel_rfl) (.inl ⟨rfl, rfl⟩) rfl (a1 := ?_) ?_ ?_
    rotate_left
    ·simp only [Act.put, List.setIfInBounds_toArray, List.set_cons_succ, List.set_cons_zero]; rfl
    refine hoist_skip [] [] 7 rfl (by kernel_rfl) (.inl ⟨rfl, rfl⟩) rfl (a1 := ?_) ?_ ?_
    rotate_left
    ·simp only [Act.put, List.setIfInBounds_toArray, List.set_cons_succ, List.set_cons_zero]; rfl
    refine hoist_skip [] [] 8 rfl (by kernel_rfl) (.inl ⟨rfl, rfl⟩) rfl (a1 := ?_) ?_ ?_
    rotate_left
    ·simp only [Act.put, List.setIfInBounds_toArray, List.set_cons_succ, List.set_cons_zero]; rfl
    refine hoist_skip [] [] 9 rfl (by kernel_rfl) (.inl ⟨rfl, rfl⟩) rfl (a1 := ?_) ?_ ?_
    rotate_left
    ·simp only [Act.put, List.setIfInBounds_toArray, List.set_cons_succ, List.set_cons_zero]; rfl
    refine hoist_skip [] [] 10 rfl (by kernel_rfl) (.inl ⟨rfl, rfl⟩) rfl (a1 := ?_) ?_ ?_
    rotate_left
    ·simp only [Act.put, List.setIfInBounds_toArray, List.set_cons_succ, List.set_cons_zero]; rfl
    refine hoist_skip [] [] 11 rfl (by kernel_rfl) (.inl ⟨rfl, rfl⟩) rfl (a1 := ?_) ?_ ?_
    rotate_left
    ·simp only [Act.put, List.setIfInBounds_toArray, List.set_cons_succ, List.set_cons_zero]; rfl
    refine hoist_skip [] [] 12 rfl (by kernel_rfl) (.inl ⟨rfl, rfl⟩) rfl (a1 := ?_) ?_ ?_
    rotate_left
    ·simp only [Act.put, List.setIfInBounds_toArray, List.set_cons_succ, List.set_cons_zero]; rfl
    refine hoist [] [] (a1 := ?_) 13 rfl (by kernel_rfl) (.inl ⟨rfl, rfl⟩) rfl rfl rfl (fun x K hK => ?_) ?_
    rotate_left
    ·go_big_quiet_op
     exact hK
    refine hoist [] [] (a1 := ?_) 14 rfl (by kernel_rfl) (.inl ⟨rfl, rfl⟩) rfl rfl rfl (fun x K hK => ?_) ?_
    rotate_left
    ·go_big_quiet_op
     exact hK
    refine hoist_skip [] [] 15 rfl (by kernel_rfl) (.inl ⟨rfl, rfl⟩) rfl (a1 := ?_) ?_ ?_
    rotate_left
    ·simp only [Act.put, List.setIfInBounds_toArray, List.set_cons_succ, List.set_cons_zero]; rfl
    refine hoist_skip [] [] 16 rfl (by kernel_rfl) (.inl ⟨rfl, rfl⟩) rfl (a1 := ?_) ?_ ?_
    rotate_left
    ·simp only [Act.put, List.setIfInBounds_toArray, List.set_cons_succ, List.set_cons_zero]; rfl
    refine hoist_skip [] [] 17 rfl (by kernel_rfl) (.inl ⟨rfl, rfl⟩) rfl (a1 := ?_) ?_ ?_
    rotate_left
    ·simp only [Act.put, List.setIfInBounds_toArray, List.set_cons_succ, List.set_cons_zero]; rfl
    refine hoist_skip [] [] 18 rfl (by kernel_rfl) (.inl ⟨rfl, rfl⟩) rfl (a1 := ?_) ?_ ?_
    rotate_left
    ·simp only [Act.put, List.setIfInBounds_toArray, List.set_cons_succ, List.set_cons_zero]; rfl
    refine hoist_skip [] [] 19 rfl (by kernel_rfl) (.inl ⟨rfl, rfl⟩) rfl (a1 := ?_) ?_ ?_
    rotate_left
    ·simp only [Act.put, List.setIfInBounds_toArray, List.set_cons_succ, List.set_cons_zero]; rfl
    refine hoist_skip [] [] 20 rfl (by kernel_rfl) (.inl ⟨rfl, rfl⟩) rfl (a1 := ?_) ?_ ?_
    rotate_left
    ·simp only [Act.put, List.setIfInBounds_toArray, List.set_cons_succ, List.set_cons_zero]; rfl
    refine hoist_skip [] [] 21 rfl (by kernel_rfl) (.inl ⟨rfl, rfl⟩) rfl (a1 := ?_) ?_ ?_
    rotate_left
    ·simp only [Act.put, List.setIfInBounds_toArray, List.set_cons_succ, List.set_cons_zero]; rfl
    refine hoist_skip [] [] 22 rfl (by kernel_rfl) (.inl ⟨rfl, rfl⟩) rfl (a1 := ?_) ?_ ?_
    rotate_left
    ·simp only [Act.put, List.setIfInBounds_toArray, List.set_cons_succ, List.set_cons_zero]; rfl
    refine hoist_skip [] [] 23 rfl (by kernel_rfl) (.inl ⟨rfl, rfl⟩) rfl (a1 := ?_) ?_ ?_
    rotate_left
    ·simp only [Act.put, List.setIfInBounds_toArray, List.set_cons_succ, List.set_cons_zero]; rfl
    refine hoist_skip [] [] 24 rfl (by kernel_rfl) (.inl ⟨rfl, rfl⟩) rfl (a1 := ?_) ?_ ?_
    rotate_left
    ·simp only [Act.put, List.setIfInBounds_toArray, List.set_cons_succ, List.set_cons_zero]; rfl
    refine hoist_skip [] [] 25 rfl (by kernel_rfl) (.inl ⟨rfl, rfl⟩) rfl (a1 := ?_) ?_ ?_
    rotate_left
    ·simp only [Act.put, List.setIfInBounds_toArray, List.set_cons_succ, List.set_cons_zero]; rfl
    refine hoist_skip [] [] 26 rfl (by kernel_rfl) (.inl ⟨rfl, rfl⟩) rfl (a1 := ?_) ?_ ?_
    rotate_left
    ·simp only [Act.put, List.setIfInBounds_toArray, List.set_cons_succ, List.set_cons_zero]; rfl
    refine hoist_skip [] [] 27 rfl (by kernel_rfl) (.inl ⟨rfl, rfl⟩) rfl (a1 := ?_) ?_ ?_
    rotate_left
    ·simp only [Act.put, List.setIfInBounds_toArray, List.set_cons_succ, List.set_cons_zero]; rfl
    refine hoist [] [] (a1 := ?_) 28 rfl (by kernel_rfl) (.inl ⟨rfl, rfl⟩) rfl rfl rfl (fun x K hK => ?_) ?_
    rotate_left
    ·go_big_quiet_op
     exact hK
    refine hoist [] [] (a1 := ?_) 29 rfl (by kernel_rfl) (.inl ⟨rfl, rfl⟩) rfl rfl rfl (fun x K hK => ?_) ?_
    rotate_left
    ·go_big_quiet_op
     exact hK
    refine hoist_skip [] [] 30 rfl (by kernel_rfl) (.inl ⟨rfl, rfl⟩) rfl (a1 := ?_) ?_ ?_
    rotate_left
    ·simp only [Act.put, List.setIfInBounds_toArray, List.set_cons_succ, List.set_cons_zero]; rfl
    refine hoist_skip [] [] 31 rfl (by kernel_rfl) (.inl ⟨rfl, rfl⟩) rfl (a1 := ?_) ?_ ?_
    rotate_left
    ·simp only [Act.put, List.setIfInBounds_toArray, List.set_cons_succ, List.set_cons_zero]; rfl
    refine hoist_skip [] [] 32 rfl (by kernel_rfl) (.inl ⟨rfl, rfl⟩) rfl (a1 := ?_) ?_ ?_
    rotate_left
    ·simp only [Act.put, List.setIfInBounds_toArray, List.set_cons_succ, List.set_cons_zero]; rfl
    refine hoist_skip [] [] 33 rfl (by kernel_rfl) (.inl ⟨rfl, rfl⟩) rfl (a1 := ?_) ?_ ?_
    rotate_left
    ·simp only [Act.put, List.setIfInBounds_toArray, List.set_cons_succ, List.set_cons_zero]; rfl
    refine hoist [] [] (a1 := ?_) 34 rfl (by kernel_rfl) (.inl ⟨rfl, rfl⟩) rfl rfl rfl (fun x K hK => ?_) ?_
    rotate_left
    ·go_big_quiet_op
     exact hK
    refine hoist [] [] (a1 := ?_) 35 rfl (by kernel_rfl) (.inl ⟨rfl, rfl⟩) rfl rfl rfl (fun x K hK => ?_) ?_
    rotate_left
    ·go_big_quiet_op
     exact hK
    refine hoist_skip [] [] 36 rfl (by kernel_rfl) (.inl ⟨rfl, rfl⟩) rfl (a1 := ?_) ?_ ?_
    rotate_left
    ·simp only [Act.put, List.setIfInBounds_toArray, List.set_cons_succ, List.set_cons_zero]; rfl
    refine hoist_skip [] [] 37 rfl (by kernel_rfl) (.inl ⟨rfl, rfl⟩) rfl (a1 := ?_) ?_ ?_
    rotate_left
    ·simp only [Act.put, List.setIfInBounds_toArray, List.set_cons_succ, List.set_cons_zero]; rfl
    refine hoist_skip [] [] 38 rfl (by kernel_rfl) (.inl ⟨rfl, rfl⟩) rfl (a1 := ?_) ?_ ?_
    rotate_left
    ·simp only [Act.put, List.setIfInBounds_toArray, List.set_cons_succ, List.set_cons_zero]; rfl
    refine hoist_skip [] [] 39 rfl (by kernel_rfl) (.inl ⟨rfl, rfl⟩) rfl (a1 := ?_) ?_ ?_
    rotate_left
    ·simp only [Act.put, List.setIfInBounds_toArray, List.set_cons_succ, List.set_cons_zero]; rfl
    refine hoist [] [] (a1 := ?_) 40 rfl (by kernel_rfl) (.inl ⟨rfl, rfl⟩) rfl rfl rfl (fun x K hK => ?_) ?_
    rotate_left
    ·go_big_quiet_op
     exact hK
    refine done (by kernel_rfl) (fun xr => ?_)
    have hNo := hNot.out
    have hB := B.out.trans (BB.out.trans xr.bw)
    go_wp2_with fail
    go_ret
    exact ⟨MayWR.no hNo, hB⟩
   rw [decide_eq_true h1] at cB1
   by_cases h2 : 0 ≤ c ∧ c < 3
   case neg =>
    rw [decide_eq_false h2] at cB2
    have hNot : Hid (¬ MayW L) := Lib.hid (not_okW hiL.out (fun h => h2 (hOk2.out.1 h).2.1))
    clear h1 h2 hprev hOk2 hOk Q hk
    have BB := Lib.hid (BW.refl w1)
    have mt : ∀ y : LaterS [] w1, _ := fun y => y.bw.cell ((hp_cell X.out 0).trans (show _ = some (.int .i64 t) from rfl))
    have mc : ∀ y : LaterS [] w1, _ := fun y => y.bw.cell ((hp_cell X.out 1).trans (show _ = some (.int .i64 c) from rfl))
    have ms : ∀ y : LaterS [] w1, _ := fun y => y.bw.cell ((hp_cell X.out 2).trans (show _ = some (.slice sk mk ck) from rfl))
    refine wp_region_gg [] [] [] (by kernel_rfl) ?_
    refine hoist [] [] (a1 := ?_) 0 rfl (by kernel_rfl) (.inl ⟨rfl, rfl⟩) rfl rfl rfl (fun x K hK => ?_) ?_
    rotate_left
    ·go_big_quiet_op
     exact hK
    refine hoist [] [] (a1 := ?_) 1 rfl (by kernel_rfl) (.inl ⟨rfl, rfl⟩) rfl rfl rfl (fun x K hK => ?_) ?_
    rotate_left
    ·go_big_quiet_op
     exact hK
    refine effect 2 rfl (by kernel_rfl) (by kernel_rfl) rfl (fun x2 K hK => ?_)
    go_simp
    refine hK _ _ (Still.of_below ((Below.refl _ _).alloc (Nat.le_refl _) _)) ?_
    clear hK K
    clear mt mc ms
    have Q2 := Lib.hid (newI1 x2.now t)
    have hb := x2.bw.alloc (o := .cells #[.int .i64 t] 3)
    replace X := Lib.hid (X.out.bw hb)
    replace BB := Lib.hid (BB.out.trans hb)
    generalize x2.now.alloc (.cells #[.int .i64 t] 3) = w2 at *
    generalize x2.now.heap.size = g2 at *
    clear hb
    have mt : ∀ y : LaterS [] w2, _ := fun y => y.bw.cell ((hp_cell X.out 0).trans (show _ = some (.int .i64 t) from rfl))
    have mc : ∀ y : LaterS [] w2, _ := fun y => y.bw.cell ((hp_cell X.out 1).trans (show _ = some (.int .i64 c) from rfl))
    have ms : ∀ y : LaterS [] w2, _ := fun y => y.bw.cell ((hp_cell X.out 2).trans (show _ = some (.slice sk mk ck) from rfl))
    try simp only [Act.put, List.setIfInBounds_toArray, List.set_cons_succ, List.set_cons_zero]
    refine hoist_call [] [] (a1 := ?_) 3 rfl (by kernel_rfl) (.inl ⟨rfl, rfl⟩) rfl rfl rfl (fun x K hK => ?_) ?_
    rotate_left
    ·go_big_quiet_op
     apply Exists.intro
     refine ⟨fun y => ?_, ?_⟩
     ·exact Calls.laterS_of (cB1.out y.now _ (Q2.out.bw (x.bw.trans y.bw)))
     ·exact hK
    refine hoist [] [] (a1 := ?_) 4 rfl (by kernel_rfl) (.inl ⟨rfl, rfl⟩) rfl rfl rfl (fun x K hK => ?_) ?_
    rotate_left
    ·go_big_quiet_op
     exact hK
    refine hoist [] [] (a1 := ?_) 5 rfl (by kernel_rfl) (.inl ⟨rfl, rfl⟩) rfl rfl rfl (fun x K hK => ?_) ?_
    rotate_left
    ·go_big_quiet_op
     exact hK
    refine hoist [] [] (a1 := ?_) 8 rfl (by kernel_rfl) (.inl ⟨rfl, rfl⟩) rfl rfl rfl (fun x K hK => ?_) ?_
    rotate_left
    ·go_big_quiet_op
     exact hK
    refine hoist [] [] (a1 := ?_) 9 rfl (by kernel_rfl) (.inl ⟨rfl, rfl⟩) rfl rfl rfl (fun x K hK => ?_) ?_
    rotate_left
    ·go_big_quiet_op
     exact hK
    refine effect2 6 10 rfl rfl (by kernel_rfl) (by kernel_rfl) (by kernel_rfl) rfl rfl (fun x6 K hK => ?_) (fun x10 K hK => ?_)
    ·skip
     go_simp
     refine Calls.mono (codecs_any x6.now) ?_
     rintro e w6 ⟨g6, rfl, -, -, -, hb6⟩
     refine hK _ _ (hb6.still _) ?_
     clear hK K
     clear mt mc ms
     have hb := x6.bw.trans hb6
     replace X := Lib.hid (X.out.bw hb)
     replace BB := Lib.hid (BB.out.trans hb)
     try replace Q10 := Lib.hid (Q10.out.bw hb)
     clear hb hb6
     have mt : ∀ y : LaterS [] w6, _ := fun y => y.bw.cell ((hp_cell X.out 0).trans (show _ = some (.int .i64 t) from rfl))
     have mc : ∀ y : LaterS [] w6, _ := fun y => y.bw.cell ((hp_cell X.out 1).trans (show _ = some (.int .i64 c) from rfl))
     have ms : ∀ y : LaterS [] w6, _ := fun y => y.bw.cell ((hp_cell X.out 2).trans (show _ = some (.slice sk mk ck) from rfl))
     try simp only [Act.put, List.setIfInBounds_toArray, List.set_cons_succ, List.set_cons_zero]
     refine hoist [] [] (a1 := ?_) 7 rfl (by kernel_rfl) (.inl ⟨rfl, rfl⟩) rfl rfl rfl (fun x K hK => ?_) ?_
     rotate_left
     ·go_big_quiet_op
      exact hK
     refine effect 10 rfl (by kernel_rfl) (by kernel_rfl) rfl (fun x10 K hK => ?_)
     go_simp
     refine hK _ _ (Still.of_below ((Below.refl _ _).alloc (Nat.le_refl _) _)) ?_
     clear hK K
     clear mt mc ms
     have Q10 := Lib.hid (newI1 x10.now c)
     have hb := x10.bw.alloc (o := .cells #[.int .i64 c] 3)
     replace X := Lib.hid (X.out.bw hb)
     replace BB := Lib.hid (BB.out.trans hb)
     generalize x10.now.alloc (.cells #[.int .i64 c] 3) = w10 at *
     generalize x10.now.heap.size = g10 at *
     clear hb
     have mt : ∀ y : LaterS [] w10, _ := fun y => y.bw.cell ((hp_cell X.out 0).trans (show _ = some (.int .i64 t) from rfl))
     have mc : ∀ y : LaterS [] w10, _ := fun y => y.bw.cell ((hp_cell X.out 1).trans (show _ = some (.int .i64 c) from rfl))
     have ms : ∀ y : LaterS [] w10, _ := fun y => y.bw.cell ((hp_cell X.out 2).trans (show _ = some (.slice sk mk ck) from rfl))
     try simp only [Act.put, List.setIfInBounds_toArray, List.set_cons_succ, List.set_cons_zero]
     refine hoist_call [] [] (a1 := ?_) 11 rfl (by kernel_rfl) (.inl ⟨rfl, rfl⟩) rfl rfl rfl (fun x K hK => ?_) ?_
     rotate_left
     ·go_big_quiet_op
      apply Exists.intro
      refine ⟨fun y => ?_, ?_⟩
      ·exact Calls.laterS_of (cB2.out y.now _ (Q10.out.bw (x.bw.trans y.bw)))
      ·exact hK
     refine hoist [] [] (a1 := ?_) 12 rfl (by kernel_rfl) (.inl ⟨rfl, rfl⟩) rfl rfl rfl (fun x K hK => ?_) ?_
     rotate_left
     ·go_big_quiet_op
      exact hK
     refine hoist [] [] (a1 := ?_) 13 rfl (by kernel_rfl) (.inl ⟨rfl, rfl⟩) rfl rfl rfl (fun x K hK => ?_) ?_
     rotate_left
     ·go_big_quiet_op
      exact hK
     refine hoist [] [] (a1 := ?_) 14 rfl (by kernel_rfl) (.inl ⟨rfl, rfl⟩) rfl rfl rfl (fun x K hK => ?_) ?_
     rotate_left
     ·go_big_quiet_op
      exact hK
     refine hoist_skip [] [] 15 rfl (by kernel_rfl) (.inl ⟨rfl, rfl⟩) rfl (a1 := ?_) ?_ ?_
     rotate_left
     ·simp only [Act.put, List.setIfInBounds_toArray, List.set_cons_succ, List.set_cons_zero]; rfl
     refine hoist_skip [] [] 16 rfl (by kernel_rfl) (.inl ⟨rfl, rfl⟩) rfl (a1 := ?_) ?_ ?_
     rotate_left
     ·simp only [Act.put, List.setIfInBounds_toArray, List.set_cons_succ, List.set_cons_zero]; rfl
     refine hoist_skip [] [] 17 rfl (by kernel_rfl) (.inl ⟨rfl, rfl⟩) rfl (a1 := ?_) ?_ ?_
     rotate_left
     ·simp only [Act.put, List.setIfInBounds_toArray, List.set_cons_succ, List.set_cons_zero]; rfl
     refine hoist_skip [] [] 18 rfl (by kernel_rfl) (.inl ⟨rfl, rfl⟩) rfl (a1 := ?_) ?_ ?_
     rotate_left
     ·simp only [Act.put, List.setIfInBounds_toArray, List.set_cons_succ, List.set_cons_zero]; rfl
     refine hoist_skip [] [] 19 rfl (by kernel_rfl) (.inl ⟨rfl, rfl⟩) rfl (a1 := ?_) ?_ ?_
     rotate_left
     ·simp only [Act.put, List.setIfInBounds_toArray, List.set_cons_succ, List.set_cons_zero]; rfl
     refine hoist_skip [] [] 20 rfl (by kernel_rfl) (.inl ⟨rfl, rfl⟩) rfl (a1 := ?_) ?_ ?_
     rotate_left
     ·simp only [Act.put, List.setIfInBounds_toArray, List.set_cons_succ, List.set_cons_zero]; rfl
     refine hoist_skip [] [] 21 rfl (by kernel_rfl) (.inl ⟨rfl, rfl⟩) rfl (a1 := ?_) ?_ ?_
     rotate_left
     ·simp only [Act.put, List.setIfInBounds_toArray, List.set_cons_succ, List.set_cons_zero]; rfl
     refine hoist_skip [] [] 22 rfl (by kernel_rfl) (.inl ⟨rfl, rfl⟩) rfl (a1 := ?_) ?_ ?_
     rotate_left
     ·simp only [Act.put, List.setIfInBounds_toArray, List.set_cons_succ, List.set_cons_zero]; rfl
     refine hoist_skip [] [] 23 rfl (by kernel_rfl) (.inl ⟨rfl, rfl⟩) rfl (a1 := ?_) ?_ ?_
     rotate_left
     ·simp only [Act.put, List.setIfInBounds_toArray, List.set_cons_succ, List.set_cons_zero]; rfl
     refine hoist_skip [] [] 24 rfl (by kernel_rfl) (.inl ⟨rfl, rfl⟩) rfl (a1 := ?_) ?_ ?_
     rotate_left
     ·simp only [Act.put, List.setIfInBounds_toArray, List.set_cons_succ, List.set_cons_zero]; rfl
     refine hoist_skip [] [] 25 rfl (by kernel_rfl) (.inl ⟨rfl, rfl⟩) rfl (a1 := ?_) ?_ ?_
     rotate_left
     ·simp only [Act.put, List.setIfInBounds_toArray, List.set_cons_succ, List.set_cons_zero]; rfl
     refine hoist_skip [] [] 26 rfl (by kernel_rfl) (.inl ⟨rfl, rfl⟩) rfl (a1 := ?_) ?_ ?_
     rotate_left
     ·simp only [Act.put, List.setIfInBounds_toArray, List.set_cons_succ, List.set_cons_zero]; rfl
     refine hoist_skip [] [] 27 rfl (by kernel_rfl) (.inl ⟨rfl, rfl⟩) rfl (a1 := ?_) ?_ ?_
     rotate_left
     ·simp only [Act.put, List.setIfInBounds_toArray, List.set_cons_succ, List.set_cons_zero]; rfl
     refine hoist [] [] (a1 := ?_) 28 rfl (by kernel_rfl) (.inl ⟨rfl, rfl⟩) rfl rfl rfl (fun x K hK => ?_) ?_
     rotate_left
     ·go_big_quiet_op
      exact hK
     refine hoist [] [] (a1 := ?_) 29 rfl (by kernel_rfl) (.inl ⟨rfl, rfl⟩) rfl rfl rfl (fun x K hK => ?_) ?_
     rotate_left
     ·go_big_quiet_op
      exact hK
     refine hoist_skip [] [] 30 rfl (by kernel_rfl) (.inl ⟨rfl, rfl⟩) rfl (a1 := ?_) ?_ ?_
     rotate_left
     ·simp only [Act.put, List.setIfInBounds_toArray, List.set_cons_succ, List.set_cons_zero]; rfl
     refine hoist_skip [] [] 31 rfl (by kernel_rfl) (.inl ⟨rfl, rfl⟩) rfl (a1 := ?_) ?_ ?_
     rotate_left
     ·simp only [Act.put, List.setIfInBounds_toArray, List.set_cons_succ, List.set_cons_zero]; rfl
     refine hoist_skip [] [] 32 rfl (by kernel_rfl) (.inl ⟨rfl, rfl⟩) rfl (a1 := ?_) ?_ ?_
     rotate_left
     ·simp only [Act.put, List.setIfInBounds_toArray, List.set_cons_succ, List.set_cons_zero]; rfl
     refine hoist_skip [] [] 33 rfl (by kernel_rfl) (.inl ⟨rfl, rfl⟩) rfl (a1 := ?_) ?_ ?_
     rotate_left
     ·simp only [Act.put, List.setIfInBounds_toArray, List.set_cons_succ, List.set_cons_zero]; rfl
     refine hoist [] [] (a1 := ?_) 34 rfl (by kernel_rfl) (.inl ⟨rfl, rfl⟩) rfl rfl rfl (fun x K hK => ?_) ?_
     rotate_left
     ·go_big_quiet_op
      exact hK
     refine hoist [] [] (a1 := ?_) 35 rfl (by kernel_rfl) (.inl ⟨rfl, rfl⟩) rfl rfl rfl (fun x K hK => ?_) ?_
     rotate_left
     ·go_big_quiet_op
      exact hK
     refine hoist_skip [] [] 36 rfl (by kernel_rfl) (.inl ⟨rfl, rfl⟩) rfl (a1 := ?_) ?_ ?_
     rotate_left
     ·simp only [Act.put, List.setIfInBounds_toArray, List.set_cons_succ, List.set_cons_zero]; rfl
     refine hoist_skip [] [] 37 rfl (by kernel_rfl) (.inl ⟨rfl, rfl⟩) rfl (a1 := ?_) ?_ ?_
     rotate_left
     ·simp only [Act.put, List.setIfInBounds_toArray, List.set_cons_succ, List.set_cons_zero]; rfl
     refine hoist_skip [] [] 38 rfl (by kernel_rfl) (.inl ⟨rfl, rfl⟩) rfl (a1 := ?_) ?_ ?_
     rotate_left
     ·simp only [Act.put, List.setIfInBounds_toArray, List.set_cons_succ, List.set_cons_zero]; rfl
     refine hoist_skip [] [] 39 rfl (by kernel_rfl) (.inl ⟨rfl, rfl⟩) rfl (a1 := ?_) ?_ ?_
     rotate_left
     ·simp only [Act.put, List.setIfInBounds_toArray, List.set_cons_succ, List.set_cons_zero]; rfl
     refine hoist [] [] (a1 := ?_) 40 rfl (by kernel_rfl) (.inl ⟨rfl, rfl⟩) rfl rfl rfl (fun x K hK => ?_) ?_
     rotate_left
     ·go_big_quiet_op
      exact hK
     refine done (by kernel_rfl) (fun xr => ?_)
     have hNo := hNot.out
     have hB := B.out.trans (BB.out.trans xr.bw)
     go_wp2_with fail
     go_ret
     exact ⟨MayWR.no hNo, hB⟩
    ·skip
     go_simp
     refine hK _ _ (Still.of_below ((Below.refl _ _).alloc (Nat.le_refl _) _)) ?_
     clear hK K
     clear mt mc ms
     have Q10 := Lib.hid (newI1 x10.now c)
     have hb := x10.bw.alloc (o := .cells #[.int .i64 c] 3)
     replace X := Lib.hid (X.out.bw hb)
     replace BB := Lib.hid (BB.out.trans hb)
     generalize x10.now.alloc (.cells #[.int .i64 c] 3) = w10 at *
     generalize x10.now.heap.size = g10 at *
     clear hb
     have mt : ∀ y : LaterS [] w10, _ := fun y => y.bw.cell ((hp_cell X.out 0).trans (show _ = some (.int .i64 t) from rfl))
     have mc : ∀ y : LaterS [] w10, _ := fun y => y.bw.cell ((hp_cell X.out 1).trans (show _ = some (.int .i64 c) from rfl))
     have ms : ∀ y : LaterS [] w10, _ := fun y => y.bw.cell ((hp_cell X.out 2).trans (show _ = some (.slice sk mk ck) from rfl))
     try simp only [Act.put, List.setIfInBounds_toArray, List.set_cons_succ, List.set_cons_zero]
     refine effect 6 rfl (by kernel_rfl) (by kernel_rfl) rfl (fun x6 K hK => ?_)
     go_simp
     refine Calls.mono (codecs_any x6.now) ?_
     rintro e w6 ⟨g6, rfl, -, -, -, hb6⟩
     refine hK _ _ (hb6.still _) ?_
     clear hK K
     clear mt mc ms
     have hb := x6.bw.trans hb6
     replace X := Lib.hid (X.out.bw hb)
     replace BB := Lib.hid (BB.out.trans hb)
     try replace Q10 := Lib.hid (Q10.out.bw hb)
     clear hb hb6
     have mt : ∀ y : LaterS [] w6, _ := fun y => y.bw.cell ((hp_cell X.out 0).trans (show _ = some (.int .i64 t) from rfl))
     have mc : ∀ y : LaterS [] w6, _ := fun y => y.bw.cell ((hp_cell X.out 1).trans (show _ = some (.int .i64 c) from rfl))
     have ms : ∀ y : LaterS [] w6, _ := fun y => y.bw.cell ((hp_cell X.out 2).trans (show _ = some (.slice sk mk ck) from rfl))
     try simp only [Act.put, List.setIfInBounds_toArray, List.set_cons_succ, List.set_cons_zero]
     refine hoist [] [] (a1 := ?_) 7 rfl (by kernel_rfl) (.inl ⟨rfl, rfl⟩) rfl rfl rfl (fun x K hK => ?_) ?_
     rotate_left
     ·go_big_quiet_op
      exact hK
     refine hoist_call [] [] (a1 := ?_) 11 rfl (by kernel_rfl) (.inl ⟨rfl, rfl⟩) rfl rfl rfl (fun x K hK => ?_) ?_
     rotate_left
     ·go_big_quiet_op
      apply Exists.intro
      refine ⟨fun y => ?_, ?_⟩
      ·exact Calls.laterS_of (cB2.out y.now _ (Q10.out.bw (x.bw.trans y.bw)))
      ·exact hK
     refine hoist [] [] (a1 := ?_) 12 rfl (by kernel_rfl) (.inl ⟨rfl, rfl⟩) rfl rfl rfl (fun x K hK => ?_) ?_
     rotate_left
     ·go_big_quiet_op
      exact hK
     refine hoist [] [] (a1 := ?_) 13 rfl (by kernel_rfl) (.inl ⟨rfl, rfl⟩) rfl rfl rfl (fun x K hK => ?_) ?_
     rotate_left
     ·go_big_quiet_op
      exact hK
     refine hoist [] [] (a1 := ?_) 14 rfl (by kernel_rfl) (.inl ⟨rfl, rfl⟩) rfl rfl rfl (fun x K hK => ?_) ?_
     rotate_left
     ·go_big_quiet_op
      exact hK
     refine hoist_skip [] [] 15 rfl (by kernel_rfl) (.inl ⟨rfl, rfl⟩) rfl (a1 := ?_) ?_ ?_
     rotate_left
     ·simp only [Act.put, List.setIfInBounds_toArray, List.set_cons_succ, List.set_cons_zero]; rfl
     refine hoist_skip [] [] 16 rfl (by kernel_rfl) (.inl ⟨rfl, rfl⟩) rfl (a1 := ?_) ?_ ?_
     rotate_left
     ·simp only [Act.put, List.setIfInBounds_toArray, List.set_cons_succ, List.set_cons_zero]; rfl
     refine hoist_skip [] [] 17 rfl (by kernel_rfl) (.inl ⟨rfl, rfl⟩) rfl (a1 := ?_) ?_ ?_
     rotate_left
     ·simp only [Act.put, List.setIfInBounds_toArray, List.set_cons_succ, List.set_cons_zero]; rfl
     refine hoist_skip [] [] 18 rfl (by kernel_rfl) (.inl ⟨rfl, rfl⟩) rfl (a1 := ?_) ?_ ?_
     rotate_left
     ·simp only [Act.put, List.setIfInBounds_toArray, List.set_cons_succ, List.set_cons_zero]; rfl
     refine hoist_skip [] [] 19 rfl (by kernel_rfl) (.inl ⟨rfl, rfl⟩) rfl (a1 := ?_) ?_ ?_
     rotate_left
     ·simp only [Act.put, List.setIfInBounds_toArray, List.set_cons_succ, List.set_cons_zero]; rfl
     refine hoist_skip [] [] 20 rfl (by kernel_rfl) (.inl ⟨rfl, rfl⟩) rfl (a1 := ?_) ?_ ?_
     rotate_left
     ·simp only [Act.put, List.setIfInBounds_toArray, List.set_cons_succ, List.set_cons_zero]; rfl
     refine hoist_skip [] [] 21 rfl (by kernel_rfl) (.inl ⟨rfl, rfl⟩) rfl (a1 := ?_) ?_ ?_
     rotate_left
     ·simp only [Act.put, List.setIfInBounds_toArray, List.set_cons_succ, List.set_cons_zero]; rfl
     refine hoist_skip [] [] 22 rfl (by kernel_rfl) (.inl ⟨rfl, rfl⟩) rfl (a1 := ?_) ?_ ?_
     rotate_left
     ·simp only [Act.put, List.setIfInBounds_toArray, List.set_cons_succ, List.set_cons_zero]; rfl
     refine hoist_skip [] [] 23 rfl (by kernel_rfl) (.inl ⟨rfl, rfl⟩) rfl (a1 := ?_) ?_ ?_
     rotate_left
     ·simp only [Act.put, List.setIfInBounds_toArray, List.set_cons_succ, List.set_cons_zero]; rfl
     refine hoist_skip [] [] 24 rfl (by kernel_rfl) (.inl ⟨rfl, rfl⟩) rfl (a1 := ?_) ?_ ?_
     rotate_left
     ·simp only [Act.put, List.setIfInBounds_toArray, List.set_cons_succ, List.set_cons_zero]; rfl
     refine hoist_skip [] [] 25 rfl (by kernel_rfl) (.inl ⟨rfl, rfl⟩) rfl (a1 := ?_) ?_ ?_
     rotate_left
     ·simp only [Act.put, List.setIfInBounds_toArray, List.set_cons_succ, List.set_cons_zero]; rfl
     refine hoist_skip [] [] 26 rfl (by kernel_rfl) (.inl ⟨rfl, rfl⟩) rfl (a1 := ?_) ?_ ?_
     rotate_left
     ·simp only [Act.put, List.setIfInBounds_toArray, List.set_cons_succ, List.set_cons_zero]; rfl
     refine hoist_skip [] [] 27 rfl (by kernel_rfl) (.inl ⟨rfl, rfl⟩) rfl (a1 := ?_) ?_ ?_
     rotate_left
     ·simp only [Act.put, List.setIfInBounds_toArray, List.set_cons_succ, List.set_cons_zero]; rfl
     refine hoist [] [] (a1 := ?_) 28 rfl (by kernel_rfl) (.inl ⟨rfl, rfl⟩) rfl rfl rfl (fun x K hK => ?_) ?_
     rotate_left
     ·go_big_quiet_op
      exact hK
     refine hoist [] [] (a1 := ?_) 29 rfl (by kernel_rfl) (.inl ⟨rfl, rfl⟩) rfl rfl rfl (fun x K hK => ?_) ?_
     rotate_left
     ·go_big_quiet_op
      exact hK
     refine hoist_skip [] [] 30 rfl (by kernel_rfl) (.inl ⟨rfl, rfl⟩) rfl (a1 := ?_) ?_ ?_
     rotate_left
     ·simp only [Act.put, List.setIfInBounds_toArray, List.set_cons_succ, List.set_cons_zero]; rfl
     refine hoist_skip [] [] 31 rfl (by kernel_rfl) (.inl ⟨rfl, rfl⟩) rfl (a1 := ?_) ?_ ?_
     rotate_left
     ·simp only [Act.put, List.setIfInBounds_toArray, List.set_cons_succ, List.set_cons_zero]; rfl
     refine hoist_skip [] [] 32 rfl (by kernel_rfl) (.inl ⟨rfl, rfl⟩) rfl (a1 := ?_) ?_ ?_
     rotate_left
     ·simp only [Act.put, List.setIfInBounds_toArray, List.set_cons_succ, List.set_cons_zero]; rfl
     refine hoist_skip [] [] 33 rfl (by kernel_rfl) (.inl ⟨rfl, rfl⟩) rfl (a1 := ?_) ?_ ?_
     rotate_left
     ·simp only [Act.put, List.setIfInBounds_toArray, List.set_cons_succ, List.set_cons_zero]; rfl
     refine hoist [] [] (a1 := ?_) 34 rfl (by kernel_rfl) (.inl ⟨rfl, rfl⟩) rfl rfl rfl (fun x K hK => ?_) ?_
     rotate_left
     ·go_big_quiet_op
      exact hK
     refine hoist [] [] (a1 := ?_) 35 rfl (by kernel_rfl) (.inl ⟨rfl, rfl⟩) rfl rfl rfl (fun x K hK => ?_) ?_
     rotate_left
     ·go_big_quiet_op
      exact hK
     refine hoist_skip [] [] 36 rfl (by kernel_rfl) (.inl ⟨rfl, rfl⟩) rfl (a1 := ?_) ?_ ?_
     rotate_left
     ·simp only [Act.put, List.setIfInBounds_toArray, List.set_cons_succ, List.set_cons_zero]; rfl
     refine hoist_skip [] [] 37 rfl (by kernel_rfl) (.inl ⟨rfl, rfl⟩) rfl (a1 := ?_) ?_ ?_
     rotate_left
     ·simp only [Act.put, List.setIfInBounds_toArray, List.set_cons_succ, List.set_cons_zero]; rfl
     refine hoist_skip [] [] 38 rfl (by kernel_rfl) (.inl ⟨rfl, rfl⟩) rfl (a1 := ?_) ?_ ?_
     rotate_left
     ·simp only [Act.put, List.setIfInBounds_toArray, List.set_cons_succ, List.set_cons_zero]; rfl
     refine hoist_skip [] [] 39 rfl (by kernel_rfl) (.inl ⟨rfl, rfl⟩) rfl (a1 := ?_) ?_ ?_
     rotate_left
     ·simp only [Act.put, List.setIfInBounds_toArray, List.set_cons_succ, List.set_cons_zero]; rfl
     refine hoist [] [] (a1 := ?_) 40 rfl (by kernel_rfl) (.inl ⟨rfl, rfl⟩) rfl rfl rfl (fun x K hK => ?_) ?_
     rotate_left
     ·go_big_quiet_op
      exact hK
     refine done (by kernel_rfl) (fun xr => ?_)
     have hNo := hNot.out
     have hB := B.out.trans (BB.out.trans xr.bw)
     go_wp2_with fail
     go_ret
     exact ⟨MayWR.no hNo, hB⟩
   rw [decide_eq_true h2] at cB2
   by_cases h3 : 0 < i
   case pos =>
    have di : decide ((0 : Int) < (i : Int)) = true := decide_eq_true (by omega)
    obtain ⟨i1, hi1⟩ : ∃ i1, i = i1 + 1 := ⟨i - 1, by omega⟩
    have ei : (i : Int) - 1 = (i1 : Int) := by omega
    have hi1n : i1 < n := by omega
    obtain ⟨pt, hpt⟩ : ∃ pt, (wi L i1).t = pt := ⟨_, rfl⟩
    have Cp := hprev.out i1 hi1
    rw [hpt] at Cp
    replace Cp := Lib.hid Cp
    have hOk4 : Hid (OkW L i ↔ Sm t ∧ (0 ≤ c ∧ c < 3) ∧ pt < t ∧ (1 ≤ mk ∧ mk ≤ 4)) := Lib.hid (by rw [hOk2.out, show i - 1 = i1 by omega, hpt]; exact ⟨fun h => ⟨h.1, h.2.1, h.2.2.1 h3, h.2.2.2⟩, fun h => ⟨h.1, h.2.1, fun _ => h.2.2.1, h.2.2.2⟩⟩)
    by_cases h4 : t ≤ pt
    case pos =>
     have d4 : decide (t ≤ pt) = true := decide_eq_true h4
     have hNot : Hid (¬ MayW L) := Lib.hid (not_okW hiL.out (fun h => by have := (hOk4.out.1 h).2.2.1; omega))
     replace hi1 := Lib.hid hi1
     replace hpt := Lib.hid hpt
     clear h1 h2 h4 hprev hOk2 hOk4 hOk Q hk
     have BB := Lib.hid (BW.refl w1)
     have mt : ∀ y : LaterS [] w1, _ := fun y => y.bw.cell ((hp_cell X.out 0).trans (show _ = some (.int .i64 t) from rfl))
     have mc : ∀ y : LaterS [] w1, _ := fun y => y.bw.cell ((hp_cell X.out 1).trans (show _ = some (.int .i64 c) from rfl))
     have ms : ∀ y : LaterS [] w1, _ := fun y => y.bw.cell ((hp_cell X.out 2).trans (show _ = some (.slice sk mk ck) from rfl))
     have mp : ∀ y : LaterS [] w1, _ := fun y => y.bw.cell Cp.out
     refine wp_region_gg [] [] [] (by kernel_rfl) ?_
     refine hoist [] [] (a1 := ?_) 0 rfl (by kernel_rfl) (.inl ⟨rfl, rfl⟩) rfl rfl rfl (fun x K hK => ?_) ?_
     rotate_left
     ·go_big_quiet_op
      exact hK
     refine hoist [] [] (a1 := ?_) 1 rfl (by kernel_rfl) (.inl ⟨rfl, rfl⟩) rfl rfl rfl (fun x K hK => ?_) ?_
     rotate_left
     ·go_big_quiet_op
      exact hK
     refine effect 2 rfl (by kernel_rfl) (by kernel_rfl) rfl (fun x2 K hK => ?_)
     go_simp
     refine hK _ _ (Still.of_below ((Below.refl _ _).alloc (Nat.le_refl _) _)) ?_
     clear hK K
     clear mt mc ms mp
     have Q2 := Lib.hid (newI1 x2.now t)
     have hb := x2.bw.alloc (o := .cells #[.int .i64 t] 3)
     replace X := Lib.hid (X.out.bw hb)
     replace BB := Lib.hid (BB.out.trans hb)
     replace Cp := Lib.hid (hb.cell Cp.out)
     generalize x2.now.alloc (.cells #[.int .i64 t] 3) = w2 at *
     generalize x2.now.heap.size = g2 at *
     clear hb
     have mt : ∀ y : LaterS [] w2, _ := fun y => y.bw.cell ((hp_cell X.out 0).trans (show _ = some (.int .i64 t) from rfl))
     have mc : ∀ y : LaterS [] w2, _ := fun y => y.bw.cell ((hp_cell X.out 1).trans (show _ = some (.int .i64 c) from rfl))
     have ms : ∀ y : LaterS [] w2, _ := fun y => y.bw.cell ((hp_cell X.out 2).trans (show _ = some (.slice sk mk ck) from rfl))
     have mp : ∀ y : LaterS [] w2, _ := fun y => y.bw.cell Cp.out
     try simp only [Act.put, List.setIfInBounds_toArray, List.set_cons_succ, List.set_cons_zero]
     refine hoist_call [] [] (a1 := ?_) 3 rfl (by kernel_rfl) (.inl ⟨rfl, rfl⟩) rfl rfl rfl (fun x K hK => ?_) ?_
     rotate_left
     ·go_big_quiet_op
      apply Exists.intro
      refine ⟨fun y => ?_, ?_⟩
      ·exact Calls.laterS_of (cB1.out y.now _ (Q2.out.bw (x.bw.trans y.bw)))
      ·exact hK
     refine hoist [] [] (a1 := ?_) 4 rfl (by kernel_rfl) (.inl ⟨rfl, rfl⟩) rfl rfl rfl (fun x K hK => ?_) ?_
     rotate_left
     ·go_big_quiet_op
      exact hK
     refine hoist [] [] (a1 := ?_) 5 rfl (by kernel_rfl) (.inl ⟨rfl, rfl⟩) rfl rfl rfl (fun x K hK => ?_) ?_
     rotate_left
     ·go_big_quiet_op
      exact hK
     refine hoist [] [] (a1 := ?_) 8 rfl (by kernel_rfl) (.inl ⟨rfl, rfl⟩) rfl rfl rfl (fun x K hK => ?_) ?_
     rotate_left
     ·go_big_quiet_op
      exact hK
     refine hoist [] [] (a1 := ?_) 9 rfl (by kernel_rfl) (.inl ⟨rfl, rfl⟩) rfl rfl rfl (fun x K hK => ?_) ?_
     rotate_left
     ·go_big_quiet_op
      exact hK
     refine effect2 6 10 rfl rfl (by kernel_rfl) (by kernel_rfl) (by kernel_rfl) rfl rfl (fun x6 K hK => ?_) (fun x10 K hK => ?_)
     ·skip
      go_simp
      refine Calls.mono (codecs_any x6.now) ?_
      rintro e w6 ⟨g6, rfl, -, -, -, hb6⟩
      refine hK _ _ (hb6.still _) ?_
      clear hK K
      clear mt mc ms mp
      have hb := x6.bw.trans hb6
      replace X := Lib.hid (X.out.bw hb)
      replace BB := Lib.hid (BB.out.trans hb)
      replace Cp := Lib.hid (hb.cell Cp.out)
      try replace Q10 := Lib.hid (Q10.out.bw hb)
      clear hb hb6
      have mt : ∀ y : LaterS [] w6, _ := fun y => y.bw.cell ((hp_cell X.out 0).trans (show _ = some (.int .i64 t) from rfl))
      have mc : ∀ y : LaterS [] w6, _ := fun y => y.bw.cell ((hp_cell X.out 1).trans (show _ = some (.int .i64 c) from rfl))
      have ms : ∀ y : LaterS [] w6, _ := fun y => y.bw.cell ((hp_cell X.out 2).trans (show _ = some (.slice sk mk ck) from rfl))
      have mp : ∀ y : LaterS [] w6, _ := fun y => y.bw.cell Cp.out
      try simp only [Act.put, List.setIfInBounds_toArray, List.set_cons_succ, List.set_cons_zero]
      refine hoist [] [] (a1 := ?_) 7 rfl (by kernel_rfl) (.inl ⟨rfl, rfl⟩) rfl rfl rfl (fun x K hK => ?_) ?_
      rotate_left
      ·go_big_quiet_op
       exact hK
      refine effect 10 rfl (by kernel_rfl) (by kernel_rfl) rfl (fun x10 K hK => ?_)
      go_simp
      refine hK _ _ (Still.of_below ((Below.refl _ _).alloc (Nat.le_refl _) _)) ?_
      clear hK K
      clear mt mc ms mp
      have Q10 := Lib.hid (newI1 x10.now c)
      have hb := x10.bw.alloc (o := .cells #[.int .i64 c] 3)
      replace X := Lib.hid (X.out.bw hb)
      replace BB := Lib.hid (BB.out.trans hb)
      replace Cp := Lib.hid (hb.cell Cp.out)
      generalize x10.now.alloc (.cells #[.int .i64 c] 3) = w10 at *
      generalize x10.now.heap.size = g10 at *
      clear hb
      have mt : ∀ y : LaterS [] w10, _ := fun y => y.bw.cell ((hp_cell X.out 0).trans (show _ = some (.int .i64 t) from rfl))
      have mc : ∀ y : LaterS [] w10, _ := fun y => y.bw.cell ((hp_cell X.out 1).trans (show _ = some (.int .i64 c) from rfl))
      have ms : ∀ y : LaterS [] w10, _ := fun y => y.bw.cell ((hp_cell X.out 2).trans (show _ = some (.slice sk mk ck) from rfl))
      have mp : ∀ y : LaterS [] w10, _ := fun y => y.bw.cell Cp.out
      try simp only [Act.put, List.setIfInBounds_toArray, List.set_cons_succ, List.set_cons_zero]
      refine hoist_call [] [] (a1 := ?_) 11 rfl (by kernel_rfl) (.inl ⟨rfl, rfl⟩) rfl rfl rfl (fun x K hK => ?_) ?_
      rotate_left
      ·go_big_quiet_op
       apply Exists.intro
       refine ⟨fun y => ?_, ?_⟩
       ·exact Calls.laterS_of (cB2.out y.now _ (Q10.out.bw (x.bw.trans y.bw)))
       ·exact hK
      refine hoist [] [] (a1 := ?_) 12 rfl (by kernel_rfl) (.inl ⟨rfl, rfl⟩) rfl rfl rfl (fun x K hK => ?_) ?_
      rotate_left
      ·go_big_quiet_op
       exact hK
      refine hoist [] [] (a1 := ?_) 13 rfl (by kernel_rfl) (.inl ⟨rfl, rfl⟩) rfl rfl rfl (fun x K hK => ?_) ?_
      rotate_left
      ·go_big_quiet_op
       exact hK
      refine hoist [] [] (a1 := ?_) 14 rfl (by kernel_rfl) (.inl ⟨rfl, rfl⟩) rfl rfl rfl (fun x K hK => ?_) ?_
      rotate_left
      ·go_big_quiet_op
       exact hK
      refine hoist [] [] (a1 := ?_) 15 rfl (by kernel_rfl) (.inl ⟨rfl, rfl⟩) rfl rfl rfl (fun x K hK => ?_) ?_
      rotate_left
      ·go_big_quiet_op
       exact hK
      refine hoist [] [] (a1 := ?_) 16 rfl (by kernel_rfl) (.inl ⟨rfl, rfl⟩) rfl rfl rfl (fun x K hK => ?_) ?_
      rotate_left
      ·go_big_quiet_op
       exact hK
      refine hoist [] [] (a1 := ?_) 17 rfl (by kernel_rfl) (.inl ⟨rfl, rfl⟩) rfl rfl rfl (fun x K hK => ?_) ?_
      rotate_left
      ·go_big_quiet_op
       exact hK
      refine hoist [] [] (a1 := ?_) 18 rfl (by kernel_rfl) (.inl ⟨rfl, rfl⟩) rfl rfl rfl (fun x K hK => ?_) ?_
      rotate_left
      ·go_big_quiet_op
       exact hK
      refine hoist [] [] (a1 := ?_) 19 rfl (by kernel_rfl) (.inl ⟨rfl, rfl⟩) rfl rfl rfl (fun x K hK => ?_) ?_
      rotate_left
      ·go_big_quiet_op
       exact hK
      refine hoist [] [] (a1 := ?_) 20 rfl (by kernel_rfl) (.inl ⟨rfl, rfl⟩) rfl rfl rfl (fun x K hK => ?_) ?_
      rotate_left
      ·go_big_quiet_op
       exact hK
      refine hoist [] [] (a1 := ?_) 21 rfl (by kernel_rfl) (.inl ⟨rfl, rfl⟩) rfl rfl rfl (fun x K hK => ?_) ?_
      rotate_left
      ·go_big_quiet_op
       exact hK
      refine hoist [] [] (a1 := ?_) 22 rfl (by kernel_rfl) (.inl ⟨rfl, rfl⟩) rfl rfl rfl (fun x K hK => ?_) ?_
      rotate_left
      ·go_big_quiet_op
       exact hK
      refine hoist [] [] (a1 := ?_) 23 rfl (by kernel_rfl) (.inl ⟨rfl, rfl⟩) rfl rfl rfl (fun x K hK => ?_) ?_
      rotate_left
      ·go_big_quiet_op
       exact hK
      refine hoist [] [] (a1 := ?_) 24 rfl (by kernel_rfl) (.inl ⟨rfl, rfl⟩) rfl rfl rfl (fun x K hK => ?_) ?_
      rotate_left
      ·go_big_quiet_op
       exact hK
      refine hoist [] [] (a1 := ?_) 25 rfl (by kernel_rfl) (.inl ⟨rfl, rfl⟩) rfl rfl rfl (fun x K hK => ?_) ?_
      rotate_left
      ·go_big_quiet_op
       exact hK
      refine hoist [] [] (a1 := ?_) 26 rfl (by kernel_rfl) (.inl ⟨rfl, rfl⟩) rfl rfl rfl (fun x K hK => ?_) ?_
      rotate_left
      ·go_big_quiet_op
       exact hK
      refine hoist [] [] (a1 := ?_) 27 rfl (by kernel_rfl) (.inl ⟨rfl, rfl⟩) rfl rfl rfl (fun x K hK => ?_) ?_
      rotate_left
      ·go_big_quiet_op
       exact hK
      refine hoist [] [] (a1 := ?_) 28 rfl (by kernel_rfl) (.inl ⟨rfl, rfl⟩) rfl rfl rfl (fun x K hK => ?_) ?_
      rotate_left
      ·go_big_quiet_op
       exact hK
      refine hoist [] [] (a1 := ?_) 29 rfl (by kernel_rfl) (.inl ⟨rfl, rfl⟩) rfl rfl rfl (fun x K hK => ?_) ?_
      rotate_left
      ·go_big_quiet_op
       exact hK
      refine hoist_skip [] [] 30 rfl (by kernel_rfl) (.inl ⟨rfl, rfl⟩) rfl (a1 := ?_) ?_ ?_
      rotate_left
      ·simp only [Act.put, List.setIfInBounds_toArray, List.set_cons_succ, List.set_cons_zero]; rfl
      refine hoist_skip [] [] 31 rfl (by kernel_rfl) (.inl ⟨rfl, rfl⟩) rfl (a1 := ?_) ?_ ?_
      rotate_left
      ·simp only [Act.put, List.setIfInBounds_toArray, List.set_cons_succ, List.set_cons_zero]; rfl
      refine hoist_skip [] [] 32 rfl (by kernel_rfl) (.inl ⟨rfl, rfl⟩) rfl (a1 := ?_) ?_ ?_
      rotate_left
      ·simp only [Act.put, List.setIfInBounds_toArray, List.set_cons_succ, List.set_cons_zero]; rfl
      refine hoist_skip [] [] 33 rfl (by kernel_rfl) (.inl ⟨rfl, rfl⟩) rfl (a1 := ?_) ?_ ?_
      rotate_left
      ·simp only [Act.put, List.setIfInBounds_toArray, List.set_cons_succ, List.set_cons_zero]; rfl
      refine hoist [] [] (a1 := ?_) 34 rfl (by kernel_rfl) (.inl ⟨rfl, rfl⟩) rfl rfl rfl (fun x K hK => ?_) ?_
      rotate_left
      ·go_big_quiet_op
       exact hK
      refine hoist [] [] (a1 := ?_) 35 rfl (by kernel_rfl) (.inl ⟨rfl, rfl⟩) rfl rfl rfl (fun x K hK => ?_) ?_
      rotate_left
      ·go_big_quiet_op
       exact hK
      refine hoist_skip [] [] 36 rfl (by kernel_rfl) (.inl ⟨rfl, rfl⟩) rfl (a1 := ?_) ?_ ?_
      rotate_left
      ·simp only [Act.put, List.setIfInBounds_toArray, List.set_cons_succ, List.set_cons_zero]; rfl
      refine hoist_skip [] [] 37 rfl (by kernel_rfl) (.inl ⟨rfl, rfl⟩) rfl (a1 := ?_) ?_ ?_
      rotate_left
      ·simp only [Act.put, List.setIfInBounds_toArray, List.set_cons_succ, List.set_cons_zero]; rfl
      refine hoist_skip [] [] 38 rfl (by kernel_rfl) (.inl ⟨rfl, rfl⟩) rfl (a1 := ?_) ?_ ?_
      rotate_left
      ·simp only [Act.put, List.setIfInBounds_toArray, List.set_cons_succ, List.set_cons_zero]; rfl
      refine hoist_skip [] [] 39 rfl (by kernel_rfl) (.inl ⟨rfl, rfl⟩) rfl (a1 := ?_) ?_ ?_
      rotate_left
      ·simp only [Act.put, List.setIfInBounds_toArray, List.set_cons_succ, List.set_cons_zero]; rfl
      refine hoist [] [] (a1 := ?_) 40 rfl (by kernel_rfl) (.inl ⟨rfl, rfl⟩) rfl rfl rfl (fun x K hK => ?_) ?_
      rotate_left
      ·go_big_quiet_op
       exact hK
      refine done (by kernel_rfl) (fun xr => ?_)
      have hNo := hNot.out
      have hB := B.out.trans (BB.out.trans xr.bw)
      go_wp2_with fail
      go_ret
      exact ⟨MayWR.no hNo, hB⟩
     ·skip
      go_simp
      refine hK _ _ (Still.of_below ((Below.refl _ _).alloc (Nat.le_refl _) _)) ?_
      clear hK K
      clear mt mc ms mp
      have Q10 := Lib.hid (newI1 x10.now c)
      have hb := x10.bw.alloc (o := .cells #[.int .i64 c] 3)
      replace X := Lib.hid (X.out.bw hb)
      replace BB := Lib.hid (BB.out.trans hb)
      replace Cp := Lib.hid (hb.cell Cp.out)
      generalize x10.now.alloc (.cells #[.int .i64 c] 3) = w10 at *
      generalize x10.now.heap.size = g10 at *
      clear hb
      have mt : ∀ y : LaterS [] w10, _ := fun y => y.bw.cell ((hp_cell X.out 0).trans (show _ = some (.int .i64 t) from rfl))
      have mc : ∀ y : LaterS [] w10, _ := fun y => y.bw.cell ((hp_cell X.out 1).trans (show _ = some (.int .i64 c) from rfl))
      have ms : ∀ y : LaterS [] w10, _ := fun y => y.bw.cell ((hp_cell X.out 2).trans (show _ = some (.slice sk mk ck) from rfl))
      have mp : ∀ y : LaterS [] w10, _ := fun y => y.bw.cell Cp.out
      try simp only [Act.put, List.setIfInBounds_toArray, List.set_cons_succ, List.set_cons_zero]
      refine effect 6 rfl (by kernel_rfl) (by kernel_rfl) rfl (fun x6 K hK => ?_)
      go_simp
      refine Calls.mono (codecs_any x6.now) ?_
      rintro e w6 ⟨g6, rfl, -, -, -, hb6⟩
      refine hK _ _ (hb6.still _) ?_
      clear hK K
      clear mt mc ms mp
      have hb := x6.bw.trans hb6
      replace X := Lib.hid (X.out.bw hb)
      replace BB := Lib.hid (BB.out.trans hb)
      replace Cp := Lib.hid (hb.cell Cp.out)
      try replace Q10 := Lib.hid (Q10.out.bw hb)
      clear hb hb6
      have mt : ∀ y : LaterS [] w6, _ := fun y => y.bw.cell ((hp_cell X.out 0).trans (show _ = some (.int .i64 t) from rfl))
      have mc : ∀ y : LaterS [] w6, _ := fun y => y.bw.cell ((hp_cell X.out 1).trans (show _ = some (.int .i64 c) from rfl))
      have ms : ∀ y : LaterS [] w6, _ := fun y => y.bw.cell ((hp_cell X.out 2).trans (show _ = some (.slice sk mk ck) from rfl))
      have mp : ∀ y : LaterS [] w6, _ := fun y => y.bw.cell Cp.out
      try simp only [Act.put, List.setIfInBounds_toArray, List.set_cons_succ, List.set_cons_zero]
      refine hoist [] [] (a1 := ?_) 7 rfl (by kernel_rfl) (.inl ⟨rfl, rfl⟩) rfl rfl rfl (fun x K hK => ?_) ?_
      rotate_left
      ·go_big_quiet_op
       exact hK
      refine hoist_call [] [] (a1 := ?_) 11 rfl (by kernel_rfl) (.inl ⟨rfl, rfl⟩) rfl rfl rfl (fun x K hK => ?_) ?_
      rotate_left
      ·go_big_quiet_op
       apply Exists.intro
       refine ⟨fun y => ?_, ?_⟩
       ·exact Calls.laterS_of (cB2.out y.now _ (Q10.out.bw (x.bw.trans y.bw)))
       ·exact hK
      refine hoist [] [] (a1 := ?_) 12 rfl (by kernel_rfl) (.inl ⟨rfl, rfl⟩) rfl rfl rfl (fun x K hK => ?_) ?_
      rotate_left
      ·go_big_quiet_op
       exact hK
      refine hoist [] [] (a1 := ?_) 13 rfl (by kernel_rfl) (.inl ⟨rfl, rfl⟩) rfl rfl rfl (fun x K hK => ?_) ?_
      rotate_left
      ·go_big_quiet_op
       exact hK
      refine hoist [] [] (a1 := ?_) 14 rfl (by kernel_rfl) (.inl ⟨rfl, rfl⟩) rfl rfl rfl (fun x K hK => ?_) ?_
      rotate_left
      ·go_big_quiet_op
       exact hK
      refine hoist [] [] (a1 := ?_) 15 rfl (by kernel_rfl) (.inl ⟨rfl, rfl⟩) rfl rfl rfl (fun x K hK => ?_) ?_
      rotate_left
      ·go_big_quiet_op
       exact hK
      refine hoist [] [] (a1 := ?_) 16 rfl (by kernel_rfl) (.inl ⟨rfl, rfl⟩) rfl rfl rfl (fun x K hK => ?_) ?_
      rotate_left
      ·go_big_quiet_op
       exact hK
      refine hoist [] [] (a1 := ?_) 17 rfl (by kernel_rfl) (.inl ⟨rfl, rfl⟩) rfl rfl rfl (fun x K hK => ?_) ?_
      rotate_left
      ·go_big_quiet_op
       exact hK
      refine hoist [] [] (a1 := ?_) 18 rfl (by kernel_rfl) (.inl ⟨rfl, rfl⟩) rfl rfl rfl (fun x K hK => ?_) ?_
      rotate_left
      ·go_big_quiet_op
       exact hK
      refine hoist [] [] (a1 := ?_) 19 rfl (by kernel_rfl) (.inl ⟨rfl, rfl⟩) rfl rfl rfl (fun x K hK => ?_) ?_
      rotate_left
      ·go_big_quiet_op
       exact hK
      refine hoist [] [] (a1 := ?_) 20 rfl (by kernel_rfl) (.inl ⟨rfl, rfl⟩) rfl rfl rfl (fun x K hK => ?_) ?_
      rotate_left
      ·go_big_quiet_op
       exact hK
      refine hoist [] [] (a1 := ?_) 21 rfl (by kernel_rfl) (.inl ⟨rfl, rfl⟩) rfl rfl rfl (fun x K hK => ?_) ?_
      rotate_left
      ·go_big_quiet_op
       exact hK
      refine hoist [] [] (a1 := ?_) 22 rfl (by kernel_rfl) (.inl ⟨rfl, rfl⟩) rfl rfl rfl (fun x K hK => ?_) ?_
      rotate_left
      ·go_big_quiet_op
       exact hK
      refine hoist [] [] (a1 := ?_) 23 rfl (by kernel_rfl) (.inl ⟨rfl, rfl⟩) rfl rfl rfl (fun x K hK => ?_) ?_
      rotate_left
      ·go_big_quiet_op
       exact hK
      refine hoist [] [] (a1 := ?_) 24 rfl (by kernel_rfl) (.inl ⟨rfl, rfl⟩) rfl rfl rfl (fun x K hK => ?_) ?_
      rotate_left
      ·go_big_quiet_op
       exact hK
      refine hoist [] [] (a1 := ?_) 25 rfl (by kernel_rfl) (.inl ⟨rfl, rfl⟩) rfl rfl rfl (fun x K hK => ?_) ?_
      rotate_left
      ·go_big_quiet_op
       exact hK
      refine hoist [] [] (a1 := ?_) 26 rfl (by kernel_rfl) (.inl ⟨rfl, rfl⟩) rfl rfl rfl (fun x K hK => ?_) ?_
      rotate_left
      ·go_big_quiet_op
       exact hK
      refine hoist [] [] (a1 := ?_) 27 rfl (by kernel_rfl) (.inl ⟨rfl, rfl⟩) rfl rfl rfl (fun x K hK => ?_) ?_
      rotate_left
      ·go_big_quiet_op
       exact hK
      refine hoist [] [] (a1 := ?_) 28 rfl (by kernel_rfl) (.inl ⟨rfl, rfl⟩) rfl rfl rfl (fun x K hK => ?_) ?_
      rotate_left
      ·go_big_quiet_op
       exact hK
      refine hoist [] [] (a1 := ?_) 29 rfl (by kernel_rfl) (.inl ⟨rfl, rfl⟩) rfl rfl rfl (fun x K hK => ?_) ?_
      rotate_left
      ·go_big_quiet_op
       exact hK
      refine hoist_skip [] [] 30 rfl (by kernel_rfl) (.inl ⟨rfl, rfl⟩) rfl (a1 := ?_) ?_ ?_
      rotate_left
      ·simp only [Act.put, List.setIfInBounds_toArray, List.set_cons_succ, List.set_cons_zero]; rfl
      refine hoist_skip [] [] 31 rfl (by kernel_rfl) (.inl ⟨rfl, rfl⟩) rfl (a1 := ?_) ?_ ?_
      rotate_left
      ·simp only [Act.put, List.setIfInBounds_toArray, List.set_cons_succ, List.set_cons_zero]; rfl
      refine hoist_skip [] [] 32 rfl (by kernel_rfl) (.inl ⟨rfl, rfl⟩) rfl (a1 := ?_) ?_ ?_
      rotate_left
      ·simp only [Act.put, List.setIfInBounds_toArray, List.set_cons_succ, List.set_cons_zero]; rfl
      refine hoist_skip [] [] 33 rfl (by kernel_rfl) (.inl ⟨rfl, rfl⟩) rfl (a1 := ?_) ?_ ?_
      rotate_left
      ·simp only [Act.put, List.setIfInBounds_toArray, List.set_cons_succ, List.set_cons_zero]; rfl
      refine hoist [] [] (a1 := ?_) 34 rfl (by kernel_rfl) (.inl ⟨rfl, rfl⟩) rfl rfl rfl (fun x K hK => ?_) ?_
      rotate_left
      ·go_big_quiet_op
       exact hK
      refine hoist [] [] (a1 := ?_) 35 rfl (by kernel_rfl) (.inl ⟨rfl, rfl⟩) rfl rfl rfl (fun x K hK => ?_) ?_
      rotate_left
      ·go_big_quiet_op
       exact hK
      refine hoist_skip [] [] 36 rfl (by kernel_rfl) (.inl ⟨rfl, rfl⟩) rfl (a1 := ?_) ?_ ?_
      rotate_left
      ·simp only [Act.put, List.setIfInBounds_toArray, List.set_cons_succ, List.set_cons_zero]; rfl
      refine hoist_skip [] [] 37 rfl (by kernel_rfl) (.inl ⟨rfl, rfl⟩) rfl (a1 := ?_) ?_ ?_
      rotate_left
      ·simp only [Act.put, List.setIfInBounds_toArray, List.set_cons_succ, List.set_cons_zero]; rfl
      refine hoist_skip [] [] 38 rfl (by kernel_rfl) (.inl ⟨rfl, rfl⟩) rfl (a1 := ?_) ?_ ?_
      rotate_left
      ·simp only [Act.put, List.setIfInBounds_toArray, List.set_cons_succ, List.set_cons_zero]; rfl
      refine hoist_skip [] [] 39 rfl (by kernel_rfl) (.inl ⟨rfl, rfl⟩) rfl (a1 := ?_) ?_ ?_
      rotate_left
      ·simp only [Act.put, List.setIfInBounds_toArray, List.set_cons_succ, List.set_cons_zero]; rfl
      refine hoist [] [] (a1 := ?_) 40 rfl (by kernel_rfl) (.inl ⟨rfl, rfl⟩) rfl rfl rfl (fun x K hK => ?_) ?_
      rotate_left
      ·go_big_quiet_op
       exact hK
      refine done (by kernel_rfl) (fun xr => ?_)
      have hNo := hNot.out
      have hB := B.out.trans (BB.out.trans xr.bw)
      go_wp2_with fail
      go_ret
      exact ⟨MayWR.no hNo, hB⟩
    have d4 : decide (t ≤ pt) = false := decide_eq_false h4
    have hT : Hid (0 < i → (wi L (i - 1)).t < t) := Lib.hid (fun _ => by rw [show i - 1 = i1 by omega, hpt]; omega)
    replace hi1 := Lib.hid hi1
    replace hpt := Lib.hid hpt
    clear hOk4 h4
    by_cases h5 : mk < 1
    case pos =>
     have d5 : decide ((mk : Int) < 1) = true := decide_eq_true (by omega)
     have hNot : Hid (¬ MayW L) := Lib.hid (not_okW hiL.out (fun h => by have := (hOk2.out.1 h).2.2.2.1; omega))
     clear h1 h2 hprev hOk2 hOk Q hk hT
     have BB := Lib.hid (BW.refl w1)
     have mt : ∀ y : LaterS [] w1, _ := fun y => y.bw.cell ((hp_cell X.out 0).trans (show _ = some (.int .i64 t) from rfl))
     have mc : ∀ y : LaterS [] w1, _ := fun y => y.bw.cell ((hp_cell X.out 1).trans (show _ = some (.int .i64 c) from rfl))
     have ms : ∀ y : LaterS [] w1, _ := fun y => y.bw.cell ((hp_cell X.out 2).trans (show _ = some (.slice sk mk ck) from rfl))
     have mp : ∀ y : LaterS [] w1, _ := fun y => y.bw.cell Cp.out
     refine wp_region_gg [] [] [] (by kernel_rfl) ?_
     refine hoist [] [] (a1 := ?_) 0 rfl (by kernel_rfl) (.inl ⟨rfl, rfl⟩) rfl rfl rfl (fun x K hK => ?_) ?_
     rotate_left
     ·go_big_quiet_op
      exact hK
     refine hoist [] [] (a1 := ?_) 1 rfl (by kernel_rfl) (.inl ⟨rfl, rfl⟩) rfl rfl rfl (fun x K hK => ?_) ?_
     rotate_left
     ·go_big_quiet_op
      exact hK
     refine effect 2 rfl (by kernel_rfl) (by kernel_rfl) rfl (fun x2 K hK => ?_)
     go_simp
     refine hK _ _ (Still.of_below ((Below.refl _ _).alloc (Nat.le_refl _) _)) ?_
     clear hK K
     clear mt mc ms mp
     have Q2 := Lib.hid (newI1 x2.now t)
     have hb := x2.bw.alloc (o := .cells #[.int .i64 t] 3)
     replace X := Lib.hid (X.out.bw hb)
     replace BB := Lib.hid (BB.out.trans hb)
     replace Cp := Lib.hid (hb.cell Cp.out)
     generalize x2.now.alloc (.cells #[.int .i64 t] 3) = w2 at *
     generalize x2.now.heap.size = g2 at *
     clear hb
     have mt : ∀ y : LaterS [] w2, _ := fun y => y.bw.cell ((hp_cell X.out 0).trans (show _ = some (.int .i64 t) from rfl))
     have mc : ∀ y : LaterS [] w2, _ := fun y => y.bw.cell ((hp_cell X.out 1).trans (show _ = some (.int .i64 c) from rfl))
     have ms : ∀ y : LaterS [] w2, _ := fun y => y.bw.cell ((hp_cell X.out 2).trans (show _ = some (.slice sk mk ck) from rfl))
     have mp : ∀ y : LaterS [] w2, _ := fun y => y.bw.cell Cp.out
     try simp only [Act.put, List.setIfInBounds_toArray, List.set_cons_succ, List.set_cons_zero]
     refine hoist_call [] [] (a1 := ?_) 3 rfl (by kernel_rfl) (.inl ⟨rfl, rfl⟩) rfl rfl rfl (fun x K hK => ?_) ?_
     rotate_left
     ·go_big_quiet_op
      apply Exists.intro
      refine ⟨fun y => ?_, ?_⟩
      ·exact Calls.laterS_of (cB1.out y.now _ (Q2.out.bw (x.bw.trans y.bw)))
      ·exact hK
     refine hoist [] [] (a1 := ?_) 4 rfl (by kernel_rfl) (.inl ⟨rfl, rfl⟩) rfl rfl rfl (fun x K hK => ?_) ?_
     rotate_left
     ·go_big_quiet_op
      exact hK
     refine hoist [] [] (a1 := ?_) 5 rfl (by kernel_rfl) (.inl ⟨rfl, rfl⟩) rfl rfl rfl (fun x K hK => ?_) ?_
     rotate_left
     ·go_big_quiet_op
      exact hK
     refine hoist [] [] (a1 := ?_) 8 rfl (by kernel_rfl) (.inl ⟨rfl, rfl⟩) rfl rfl rfl (fun x K hK => ?_) ?_
     rotate_left
     ·go_big_quiet_op
      exact hK
     refine hoist [] [] (a1 := ?_) 9 rfl (by kernel_rfl) (.inl ⟨rfl, rfl⟩) rfl rfl rfl (fun x K hK => ?_) ?_
     rotate_left
     ·go_big_quiet_op
      exact hK
     refine effect2 6 10 rfl rfl (by kernel_rfl) (by kernel_rfl) (by kernel_rfl) rfl rfl (fun x6 K hK => ?_) (fun x10 K hK => ?_)
     ·skip
      go_simp
      refine Calls.mono (codecs_any x6.now) ?_
      rintro e w6 ⟨g6, rfl, -, -, -, hb6⟩
      refine hK _ _ (hb6.still _) ?_
      clear hK K
      clear mt mc ms mp
      have hb := x6.bw.trans hb6
      replace X := Lib.hid (X.out.bw hb)
      replace BB := Lib.hid (BB.out.trans hb)
      replace Cp := Lib.hid (hb.cell Cp.out)
      try replace Q10 := Lib.hid (Q10.out.bw hb)
      clear hb hb6
      have mt : ∀ y : LaterS [] w6, _ := fun y => y.bw.cell ((hp_cell X.out 0).trans (show _ = some (.int .i64 t) from rfl))
      have mc : ∀ y : LaterS [] w6, _ := fun y => y.bw.cell ((hp_cell X.out 1).trans (show _ = some (.int .i64 c) from rfl))
      have ms : ∀ y : LaterS [] w6, _ := fun y => y.bw.cell ((hp_cell X.out 2).trans (show _ = some (.slice sk mk ck) from rfl))
      have mp : ∀ y : LaterS [] w6, _ := fun y => y.bw.cell Cp.out
      try simp only [Act.put, List.setIfInBounds_toArray, List.set_cons_succ, List.set_cons_zero]
      refine hoist [] [] (a1 := ?_) 7 rfl (by kernel_rfl) (.inl ⟨rfl, rfl⟩) rfl rfl rfl (fun x K hK => ?_) ?_
      rotate_left
      ·go_big_quiet_op
       exact hK
      refine effect 10 rfl (by kernel_rfl) (by kernel_rfl) rfl (fun x10 K hK => ?_)
      go_simp
      refine hK _ _ (Still.of_below ((Below.refl _ _).alloc (Nat.le_refl _) _)) ?_
      clear hK K
      clear mt mc ms mp
      have Q10 := Lib.hid (newI1 x10.now c)
      have hb := x10.bw.alloc (o := .cells #[.int .i64 c] 3)
      replace X := Lib.hid (X.out.bw hb)
      replace BB := Lib.hid (BB.out.trans hb)
      replace Cp := Lib.hid (hb.cell Cp.out)
      generalize x10.now.alloc (.cells #[.int .i64 c] 3) = w10 at *
      generalize x10.now.heap.size = g10 at *
      clear hb
      have mt : ∀ y : LaterS [] w10, _ := fun y => y.bw.cell ((hp_cell X.out 0).trans (show _ = some (.int .i64 t) from rfl))
      have mc : ∀ y : LaterS [] w10, _ := fun y => y.bw.cell ((hp_cell X.out 1).trans (show _ = some (.int .i64 c) from rfl))
      have ms : ∀ y : LaterS [] w10, _ := fun y => y.bw.cell ((hp_cell X.out 2).trans (show _ = some (.slice sk mk ck) from rfl))
      have mp : ∀ y : LaterS [] w10, _ := fun y => y.bw.cell Cp.out
      try simp only [Act.put, List.setIfInBounds_toArray, List.set_cons_succ, List.set_cons_zero]
      refine hoist_call [] [] (a1 := ?_) 11 rfl (by kernel_rfl) (.inl ⟨rfl, rfl⟩) rfl rfl rfl (fun x K hK => ?_) ?_
      rotate_left
      ·go_big_quiet_op
       apply Exists.intro
       refine ⟨fun y => ?_, ?_⟩
       ·exact Calls.laterS_of (cB2.out y.now _ (Q10.out.bw (x.bw.trans y.bw)))
       ·exact hK
      refine hoist [] [] (a1 := ?_) 12 rfl (by kernel_rfl) (.inl ⟨rfl, rfl⟩) rfl rfl rfl (fun x K hK => ?_) ?_
      rotate_left
      ·go_big_quiet_op
       exact hK
      refine hoist [] [] (a1 := ?_) 13 rfl (by kernel_rfl) (.inl ⟨rfl, rfl⟩) rfl rfl rfl (fun x K hK => ?_) ?_
      rotate_left
      ·go_big_quiet_op
       exact hK
      refine hoist [] [] (a1 := ?_) 14 rfl (by kernel_rfl) (.inl ⟨rfl, rfl⟩) rfl rfl rfl (fun x K hK => ?_) ?_
      rotate_left
      ·go_big_quiet_op
       exact hK
      refine hoist [] [] (a1 := ?_) 15 rfl (by kernel_rfl) (.inl ⟨rfl, rfl⟩) rfl rfl rfl (fun x K hK => ?_) ?_
      rotate_left
      ·go_big_quiet_op
       exact hK
      refine hoist [] [] (a1 := ?_) 16 rfl (by kernel_rfl) (.inl ⟨rfl, rfl⟩) rfl rfl rfl (fun x K hK => ?_) ?_
      rotate_left
      ·go_big_quiet_op
       exact hK
      refine hoist [] [] (a1 := ?_) 17 rfl (by kernel_rfl) (.inl ⟨rfl, rfl⟩) rfl rfl rfl (fun x K hK => ?_) ?_
      rotate_left
      ·go_big_quiet_op
       exact hK
      refine hoist [] [] (a1 := ?_) 18 rfl (by kernel_rfl) (.inl ⟨rfl, rfl⟩) rfl rfl rfl (fun x K hK => ?_) ?_
      rotate_left
      ·go_big_quiet_op
       exact hK
      refine hoist [] [] (a1 := ?_) 19 rfl (by kernel_rfl) (.inl ⟨rfl, rfl⟩) rfl rfl rfl (fun x K hK => ?_) ?_
      rotate_left
      ·go_big_quiet_op
       exact hK
      refine hoist [] [] (a1 := ?_) 20 rfl (by kernel_rfl) (.inl ⟨rfl, rfl⟩) rfl rfl rfl (fun x K hK => ?_) ?_
      rotate_left
      ·go_big_quiet_op
       exact hK
      refine hoist [] [] (a1 := ?_) 21 rfl (by kernel_rfl) (.inl ⟨rfl, rfl⟩) rfl rfl rfl (fun x K hK => ?_) ?_
      rotate_left
      ·go_big_quiet_op
       exact hK
      refine hoist [] [] (a1 := ?_) 22 rfl (by kernel_rfl) (.inl ⟨rfl, rfl⟩) rfl rfl rfl (fun x K hK => ?_) ?_
      rotate_left
      ·go_big_quiet_op
       exact hK
      refine hoist [] [] (a1 := ?_) 23 rfl (by kernel_rfl) (.inl ⟨rfl, rfl⟩) rfl rfl rfl (fun x K hK => ?_) ?_
      rotate_left
      ·go_big_quiet_op
       exact hK
      refine hoist [] [] (a1 := ?_) 24 rfl (by kernel_rfl) (.inl ⟨rfl, rfl⟩) rfl rfl rfl (fun x K hK => ?_) ?_
      rotate_left
      ·go_big_quiet_op
       exact hK
      refine hoist [] [] (a1 := ?_) 25 rfl (by kernel_rfl) (.inl ⟨rfl, rfl⟩) rfl rfl rfl (fun x K hK => ?_) ?_
      rotate_left
      ·go_big_quiet_op
       exact hK
      refine hoist [] [] (a1 := ?_) 26 rfl (by kernel_rfl) (.inl ⟨rfl, rfl⟩) rfl rfl rfl (fun x K hK => ?_) ?_
      rotate_left
      ·go_big_quiet_op
       exact hK
      refine hoist [] [] (a1 := ?_) 27 rfl (by kernel_rfl) (.inl ⟨rfl, rfl⟩) rfl rfl rfl (fun x K hK => ?_) ?_
      rotate_left
      ·go_big_quiet_op
       exact hK
      refine hoist [] [] (a1 := ?_) 28 rfl (by kernel_rfl) (.inl ⟨rfl, rfl⟩) rfl rfl rfl (fun x K hK => ?_) ?_
      rotate_left
      ·go_big_quiet_op
       exact hK
      refine hoist [] [] (a1 := ?_) 29 rfl (by kernel_rfl) (.inl ⟨rfl, rfl⟩) rfl rfl rfl (fun x K hK => ?_) ?_
      rotate_left
      ·go_big_quiet_op
       exact hK
      refine hoist [] [] (a1 := ?_) 30 rfl (by kernel_rfl) (.inl ⟨rfl, rfl⟩) rfl rfl rfl (fun x K hK => ?_) ?_
      rotate_left
      ·go_big_quiet_op
       exact hK
      refine hoist [] [] (a1 := ?_) 31 rfl (by kernel_rfl) (.inl ⟨rfl, rfl⟩) rfl rfl rfl (fun x K hK => ?_) ?_
      rotate_left
      ·go_big_quiet_op
       exact hK
      refine hoist [] [] (a1 := ?_) 32 rfl (by kernel_rfl) (.inl ⟨rfl, rfl⟩) rfl rfl rfl (fun x K hK => ?_) ?_
      rotate_left
      ·go_big_quiet_op
       exact hK
      refine hoist [] [] (a1 := ?_) 33 rfl (by kernel_rfl) (.inl ⟨rfl, rfl⟩) rfl rfl rfl (fun x K hK => ?_) ?_
      rotate_left
      ·go_big_quiet_op
       exact hK
      refine hoist [] [] (a1 := ?_) 34 rfl (by kernel_rfl) (.inl ⟨rfl, rfl⟩) rfl rfl rfl (fun x K hK => ?_) ?_
      rotate_left
      ·go_big_quiet_op
       exact hK
      refine hoist [] [] (a1 := ?_) 35 rfl (by kernel_rfl) (.inl ⟨rfl, rfl⟩) rfl rfl rfl (fun x K hK => ?_) ?_
      rotate_left
      ·go_big_quiet_op
       exact hK
      refine hoist_skip [] [] 36 rfl (by kernel_rfl) (.inl ⟨rfl, rfl⟩) rfl (a1 := ?_) ?_ ?_
      rotate_left
      ·simp only [Act.put, List.setIfInBounds_toArray, List.set_cons_succ, List.set_cons_zero]; rfl
      refine hoist_skip [] [] 37 rfl (by kernel_rfl) (.inl ⟨rfl, rfl⟩) rfl (a1 := ?_) ?_ ?_
      rotate_left
      ·simp only [Act.put, List.setIfInBounds_toArray, List.set_cons_succ, List.set_cons_zero]; rfl
      refine hoist_skip [] [] 38 rfl (by kernel_rfl) (.inl ⟨rfl, rfl⟩) rfl (a1 := ?_) ?_ ?_
      rotate_left
      ·simp only [Act.put, List.setIfInBounds_toArray, List.set_cons_succ, List.set_cons_zero]; rfl
      refine hoist_skip [] [] 39 rfl (by kernel_rfl) (.inl ⟨rfl, rfl⟩) rfl (a1 := ?_) ?_ ?_
      rotate_left
      ·simp only [Act.put, List.setIfInBounds_toArray, List.set_cons_succ, List.set_cons_zero]; rfl
      refine hoist [] [] (a1 := ?_) 40 rfl (by kernel_rfl) (.inl ⟨rfl, rfl⟩) rfl rfl rfl (fun x K hK => ?_) ?_
      rotate_left
      ·go_big_quiet_op
       exact hK
      refine done (by kernel_rfl) (fun xr => ?_)
      have hNo := hNot.out
      have hB := B.out.trans (BB.out.trans xr.bw)
      go_wp2_with fail
      go_ret
      exact ⟨MayWR.no hNo, hB⟩
     ·skip
      go_simp
      refine hK _ _ (Still.of_below ((Below.refl _ _).alloc (Nat.le_refl _) _)) ?_
      clear hK K
      clear mt mc ms mp
      have Q10 := Lib.hid (newI1 x10.now c)
      have hb := x10.bw.alloc (o := .cells #[.int .i64 c] 3)
      replace X := Lib.hid (X.out.bw hb)
      replace BB := Lib.hid (BB.out.trans hb)
      replace Cp := Lib.hid (hb.cell Cp.out)
      generalize x10.now.alloc (.cells #[.int .i64 c] 3) = w10 at *
      generalize x10.now.heap.size = g10 at *
      clear hb
      have mt : ∀ y : LaterS [] w10, _ := fun y => y.bw.cell ((hp_cell X.out 0).trans (show _ = some (.int .i64 t) from rfl))
      have mc : ∀ y : LaterS [] w10, _ := fun y => y.bw.cell ((hp_cell X.out 1).trans (show _ = some (.int .i64 c) from rfl))
      have ms : ∀ y : LaterS [] w10, _ := fun y => y.bw.cell ((hp_cell X.out 2).trans (show _ = some (.slice sk mk ck) from rfl))
      have mp : ∀ y : LaterS [] w10, _ := fun y => y.bw.cell Cp.out
      try simp only [Act.put, List.setIfInBounds_toArray, List.set_cons_succ, List.set_cons_zero]
      refine effect 6 rfl (by kernel_rfl) (by kernel_rfl) rfl (fun x6 K hK => ?_)
      go_simp
      refine Calls.mono (codecs_any x6.now) ?_
      rintro e w6 ⟨g6, rfl, -, -, -, hb6⟩
      refine hK _ _ (hb6.still _) ?_
      clear hK K
      clear mt mc ms mp
      have hb := x6.bw.trans hb6
      replace X := Lib.hid (X.out.bw hb)
      replace BB := Lib.hid (BB.out.trans hb)
      replace Cp := Lib.hid (hb.cell Cp.out)
      try replace Q10 := Lib.hid (Q10.out.bw hb)
      clear hb hb6
      have mt : ∀ y : LaterS [] w6, _ := fun y => y.bw.cell ((hp_cell X.out 0).trans (show _ = some (.int .i64 t) from rfl))
      have mc : ∀ y : LaterS [] w6, _ := fun y => y.bw.cell ((hp_cell X.out 1).trans (show _ = some (.int .i64 c) from rfl))
      have ms : ∀ y : LaterS [] w6, _ := fun y => y.bw.cell ((hp_cell X.out 2).trans (show _ = some (.slice sk mk ck) from rfl))
      have mp : ∀ y : LaterS [] w6, _ := fun y => y.bw.cell Cp.out
      try simp only [Act.put, List.setIfInBounds_toArray, List.set_cons_succ, List.set_cons_zero]
      refine hoist [] [] (a1 := ?_) 7 rfl (by kernel_rfl) (.inl ⟨rfl, rfl⟩) rfl rfl rfl (fun x K hK => ?_) ?_
      rotate_left
      ·go_big_quiet_op
       exact hK
      refine hoist_call [] [] (a1 := ?_) 11 rfl (by kernel_rfl) (.inl ⟨rfl, rfl⟩) rfl rfl rfl (fun x K hK => ?_) ?_
      rotate_left
      ·go_big_quiet_op
       apply Exists.intro
       refine ⟨fun y => ?_, ?_⟩
       ·exact Calls.laterS_of (cB2.out y.now _ (Q10.out.bw (x.bw.trans y.bw)))
       ·exact hK
      refine hoist [] [] (a1 := ?_) 12 rfl (by kernel_rfl) (.inl ⟨rfl, rfl⟩) rfl rfl rfl (fun x K hK => ?_) ?_
      rotate_left
      ·go_big_quiet_op
       exact hK
      refine hoist [] [] (a1 := ?_) 13 rfl (by kernel_rfl) (.inl ⟨rfl, rfl⟩) rfl rfl rfl (fun x K hK => ?_) ?_
      rotate_left
      ·go_big_quiet_op
       exact hK
      refine hoist [] [] (a1 := ?_) 14 rfl (by kernel_rfl) (.inl ⟨rfl, rfl⟩) rfl rfl rfl (fun x K hK => ?_) ?_
      rotate_left
      ·go_big_quiet_op
       exact hK
      refine hoist [] [] (a1 := ?_) 15 rfl (by kernel_rfl) (.inl ⟨rfl, rfl⟩) rfl rfl rfl (fun x K hK => ?_) ?_
      rotate_left
      ·go_big_quiet_op
       exact hK
      refine hoist [] [] (a1 := ?_) 16 rfl (by kernel_rfl) (.inl ⟨rfl, rfl⟩) rfl rfl rfl (fun x K hK => ?_) ?_
      rotate_left
      ·go_big_quiet_op
       exact hK
      refine hoist [] [] (a1 := ?_) 17 rfl (by kernel_rfl) (.inl ⟨rfl, rfl⟩) rfl rfl rfl (fun x K hK => ?_) ?_
      rotate_left
      ·go_big_quiet_op
       exact hK
      refine hoist [] [] (a1 := ?_) 18 rfl (by kernel_rfl) (.inl ⟨rfl, rfl⟩) rfl rfl rfl (fun x K hK => ?_) ?_
      rotate_left
      ·go_big_quiet_op
       exact hK
      refine hoist [] [] (a1 := ?_) 19 rfl (by kernel_rfl) (.inl ⟨rfl, rfl⟩) rfl rfl rfl (fun x K hK => ?_) ?_
      rotate_left
      ·go_big_quiet_op
       exact hK
      refine hoist [] [] (a1 := ?_) 20 rfl (by kernel_rfl) (.inl ⟨rfl, rfl⟩) rfl rfl rfl (fun x K hK => ?_) ?_
      rotate_left
      ·go_big_quiet_op
       exact hK
      refine hoist [] [] (a1 := ?_) 21 rfl (by kernel_rfl) (.inl ⟨rfl, rfl⟩) rfl rfl rfl (fun x K hK => ?_) ?_
      rotate_left
      ·go_big_quiet_op
       exact hK
      refine hoist [] [] (a1 := ?_) 22 rfl (by kernel_rfl) (.inl ⟨rfl, rfl⟩) rfl rfl rfl (fun x K hK => ?_) ?_
      rotate_left
      ·go_big_quiet_op
       exact hK
      refine hoist [] [] (a1 := ?_) 23 rfl (by kernel_rfl) (.inl ⟨rfl, rfl⟩) rfl rfl rfl (fun x K hK => ?_) ?_
      rotate_left
      ·go_big_quiet_op
       exact hK
      refine hoist [] [] (a1 := ?_) 24 rfl (by kernel_rfl) (.inl ⟨rfl, rfl⟩) rfl rfl rfl (fun x K hK => ?_) ?_
      rotate_left
      ·go_big_quiet_op
       exact hK
      refine hoist [] [] (a1 := ?_) 25 rfl (by kernel_rfl) (.inl ⟨rfl, rfl⟩) rfl rfl rfl (fun x K hK => ?_) ?_
      rotate_left
      ·go_big_quiet_op
       exact hK
      refine hoist [] [] (a1 := ?_) 26 rfl (by kernel_rfl) (.inl ⟨rfl, rfl⟩) rfl rfl rfl (fun x K hK => ?_) ?_
      rotate_left
      ·go_big_quiet_op
       exact hK
      refine hoist [] [] (a1 := ?_) 27 rfl (by kernel_rfl) (.inl ⟨rfl, rfl⟩) rfl rfl rfl (fun x K hK => ?_) ?_
      rotate_left
      ·go_big_quiet_op
       exact hK
      refine hoist [] [] (a1 := ?_) 28 rfl (by kernel_rfl) (.inl ⟨rfl, rfl⟩) rfl rfl rfl (fun x K hK => ?_) ?_
      rotate_left
      ·go_big_quiet_op
       exact hK
      refine hoist [] [] (a1 := ?_) 29 rfl (by kernel_rfl) (.inl ⟨rfl, rfl⟩) rfl rfl rfl (fun x K hK => ?_) ?_
      rotate_left
      ·go_big_quiet_op
       exact hK
      refine hoist [] [] (a1 := ?_) 30 rfl (by kernel_rfl) (.inl ⟨rfl, rfl⟩) rfl rfl rfl (fun x K hK => ?_) ?_
      rotate_left
      ·go_big_quiet_op
       exact hK
      refine hoist [] [] (a1 := ?_) 31 rfl (by kernel_rfl) (.inl ⟨rfl, rfl⟩) rfl rfl rfl (fun x K hK => ?_) ?_
      rotate_left
      ·go_big_quiet_op
       exact hK
      refine hoist [] [] (a1 := ?_) 32 rfl (by kernel_rfl) (.inl ⟨rfl, rfl⟩) rfl rfl rfl (fun x K hK => ?_) ?_
      rotate_left
      ·go_big_quiet_op
       exact hK
      refine hoist [] [] (a1 := ?_) 33 rfl (by kernel_rfl) (.inl ⟨rfl, rfl⟩) rfl rfl rfl (fun x K hK => ?_) ?_
      rotate_left
      ·go_big_quiet_op
       exact hK
      refine hoist [] [] (a1 := ?_) 34 rfl (by kernel_rfl) (.inl ⟨rfl, rfl⟩) rfl rfl rfl (fun x K hK => ?_) ?_
      rotate_left
      ·go_big_quiet_op
       exact hK
      refine hoist [] [] (a1 := ?_) 35 rfl (by kernel_rfl) (.inl ⟨rfl, rfl⟩) rfl rfl rfl (fun x K hK => ?_) ?_
      rotate_left
      ·go_big_quiet_op
       exact hK
      refine hoist_skip [] [] 36 rfl (by kernel_rfl) (.inl ⟨rfl, rfl⟩) rfl (a1 := ?_) ?_ ?_
      rotate_left
      ·simp only [Act.put, List.setIfInBounds_toArray, List.set_cons_succ, List.set_cons_zero]; rfl
      refine hoist_skip [] [] 37 rfl (by kernel_rfl) (.inl ⟨rfl, rfl⟩) rfl (a1 := ?_) ?_ ?_
      rotate_left
      ·simp only [Act.put, List.setIfInBounds_toArray, List.set_cons_succ, List.set_cons_zero]; rfl
      refine hoist_skip [] [] 38 rfl (by kernel_rfl) (.inl ⟨rfl, rfl⟩) rfl (a1 := ?_) ?_ ?_
      rotate_left
      ·simp only [Act.put, List.setIfInBounds_toArray, List.set_cons_succ, List.set_cons_zero]; rfl
      refine hoist_skip [] [] 39 rfl (by kernel_rfl) (.inl ⟨rfl, rfl⟩) rfl (a1 := ?_) ?_ ?_
      rotate_left
      ·simp only [Act.put, List.setIfInBounds_toArray, List.set_cons_succ, List.set_cons_zero]; rfl
      refine hoist [] [] (a1 := ?_) 40 rfl (by kernel_rfl) (.inl ⟨rfl, rfl⟩) rfl rfl rfl (fun x K hK => ?_) ?_
      rotate_left
      ·go_big_quiet_op
       exact hK
      refine done (by kernel_rfl) (fun xr => ?_)
      have hNo := hNot.out
      have hB := B.out.trans (BB.out.trans xr.bw)
      go_wp2_with fail
      go_ret
      exact ⟨MayWR.no hNo, hB⟩
    have d5 : decide ((mk : Int) < 1) = false := decide_eq_false (by omega)
    have BB := Lib.hid (BW.refl w1)
    have mt : ∀ y : LaterS [] w1, _ := fun y => y.bw.cell ((hp_cell X.out 0).trans (show _ = some (.int .i64 t) from rfl))
    have mc : ∀ y : LaterS [] w1, _ := fun y => y.bw.cell ((hp_cell X.out 1).trans (show _ = some (.int .i64 c) from rfl))
    have ms : ∀ y : LaterS [] w1, _ := fun y => y.bw.cell ((hp_cell X.out 2).trans (show _ = some (.slice sk mk ck) from rfl))
    have mp : ∀ y : LaterS [] w1, _ := fun y => y.bw.cell Cp.out
    refine wp_region_gg [] [] [] (by kernel_rfl) ?_
    refine hoist [] [] (a1 := ?_) 0 rfl (by kernel_rfl) (.inl ⟨rfl, rfl⟩) rfl rfl rfl (fun x K hK => ?_) ?_
    rotate_left
    ·go_big_quiet_op
     exact hK
    refine hoist [] [] (a1 := ?_) 1 rfl (by kernel_rfl) (.inl ⟨rfl, rfl⟩) rfl rfl rfl (fun x K hK => ?_) ?_
    rotate_left
    ·go_big_quiet_op
     exact hK
    refine effect 2 rfl (by kernel_rfl) (by kernel_rfl) rfl (fun x2 K hK => ?_)
    go_simp
    refine hK _ _ (Still.of_below ((Below.refl _ _).alloc (Nat.le_refl _) _)) ?_
    clear hK K
    clear mt mc ms mp
    have Q2 := Lib.hid (newI1 x2.now t)
    have hb := x2.bw.alloc (o := .cells #[.int .i64 t] 3)
    replace X := Lib.hid (X.out.bw hb)
    replace BB := Lib.hid (BB.out.trans hb)
    replace Cp := Lib.hid (hb.cell Cp.out)
    generalize x2.now.alloc (.cells #[.int .i64 t] 3) = w2 at *
    generalize x2.now.heap.size = g2 at *
    clear hb
    have mt : ∀ y : LaterS [] w2, _ := fun y => y.bw.cell ((hp_cell X.out 0).trans (show _ = some (.int .i64 t) from rfl))
    have mc : ∀ y : LaterS [] w2, _ := fun y => y.bw.cell ((hp_cell X.out 1).trans (show _ = some (.int .i64 c) from rfl))
    have ms : ∀ y : LaterS [] w2, _ := fun y => y.bw.cell ((hp_cell X.out 2).trans (show _ = some (.slice sk mk ck) from rfl))
    have mp : ∀ y : LaterS [] w2, _ := fun y => y.bw.cell Cp.out
    try simp only [Act.put, List.setIfInBounds_toArray, List.set_cons_succ, List.set_cons_zero]
    refine hoist_call [] [] (a1 := ?_) 3 rfl (by kernel_rfl) (.inl ⟨rfl, rfl⟩) rfl rfl rfl (fun x K hK => ?_) ?_
    rotate_left
    ·go_big_quiet_op
     apply Exists.intro
     refine ⟨fun y => ?_, ?_⟩
     ·exact Calls.laterS_of (cB1.out y.now _ (Q2.out.bw (x.bw.trans y.bw)))
     ·exact hK
    refine hoist [] [] (a1 := ?_) 4 rfl (by kernel_rfl) (.inl ⟨rfl, rfl⟩) rfl rfl rfl (fun x K hK => ?_) ?_
    rotate_left
    ·go_big_quiet_op
     exact hK
    refine hoist [] [] (a1 := ?_) 5 rfl (by kernel_rfl) (.inl ⟨rfl, rfl⟩) rfl rfl rfl (fun x K hK => ?_) ?_
    rotate_left
    ·go_big_quiet_op
     exact hK
    refine hoist [] [] (a1 := ?_) 8 rfl (by kernel_rfl) (.inl ⟨rfl, rfl⟩) rfl rfl rfl (fun x K hK => ?_) ?_
    rotate_left
    ·go_big_quiet_op
     exact hK
    refine hoist [] [] (a1 := ?_) 9 rfl (by kernel_rfl) (.inl ⟨rfl, rfl⟩) rfl rfl rfl (fun x K hK => ?_) ?_
    rotate_left
    ·go_big_quiet_op
     exact hK
    refine effect2 6 10 rfl rfl (by kernel_rfl) (by kernel_rfl) (by kernel_rfl) rfl rfl (fun x6 K hK => ?_) (fun x10 K hK => ?_)
    ·skip
     go_simp
     refine Calls.mono (codecs_any x6.now) ?_
     rintro e w6 ⟨g6, rfl, -, -, -, hb6⟩
     refine hK _ _ (hb6.still _) ?_
     clear hK K
     clear mt mc ms mp
     have hb := x6.bw.trans hb6
     replace X := Lib.hid (X.out.bw hb)
     replace BB := Lib.hid (BB.out.trans hb)
     replace Cp := Lib.hid (hb.cell Cp.out)
     try replace Q10 := Lib.hid (Q10.out.bw hb)
     clear hb hb6
     have mt : ∀ y : LaterS [] w6, _ := fun y => y.bw.cell ((hp_cell X.out 0).trans (show _ = some (.int .i64 t) from rfl))
     have mc : ∀ y : LaterS [] w6, _ := fun y => y.bw.cell ((hp_cell X.out 1).trans (show _ = some (.int .i64 c) from rfl))
     have ms : ∀ y : LaterS [] w6, _ := fun y => y.bw.cell ((hp_cell X.out 2).trans (show _ = some (.slice sk mk ck) from rfl))
     have mp : ∀ y : LaterS [] w6, _ := fun y => y.bw.cell Cp.out
     try simp only [Act.put, List.setIfInBounds_toArray, List.set_cons_succ, List.set_cons_zero]
     refine hoist [] [] (a1 := ?_) 7 rfl (by kernel_rfl) (.inl ⟨rfl, rfl⟩) rfl rfl rfl (fun x K hK => ?_) ?_
     rotate_left
     ·go_big_quiet_op
      exact hK
     refine effect 10 rfl (by kernel_rfl) (by kernel_rfl) rfl (fun x10 K hK => ?_)
     go_simp
     refine hK _ _ (Still.of_below ((Below.refl _ _).alloc (Nat.le_refl _) _)) ?_
     clear hK K
     clear mt mc ms mp
     have Q10 := Lib.hid (newI1 x10.now c)
     have hb := x10.bw.alloc (o := .cells #[.int .i64 c] 3)
     replace X := Lib.hid (X.out.bw hb)
     replace BB := Lib.hid (BB.out.trans hb)
     replace Cp := Lib.hid (hb.cell Cp.out)
     generalize x10.now.alloc (.cells #[.int .i64 c] 3) = w10 at *
     generalize x10.now.heap.size = g10 at *
     clear hb
     have mt : ∀ y : LaterS [] w10, _ := fun y => y.bw.cell ((hp_cell X.out 0).trans (show _ = some (.int .i64 t) from rfl))
     have mc : ∀ y : LaterS [] w10, _ := fun y => y.bw.cell ((hp_cell X.out 1).trans (show _ = some (.int .i64 c) from rfl))
     have ms : ∀ y : LaterS [] w10, _ := fun y => y.bw.cell ((hp_cell X.out 2).trans (show _ = some (.slice sk mk ck) from rfl))
     have mp : ∀ y : LaterS [] w10, _ := fun y => y.bw.cell Cp.out
     try simp only [Act.put, List.setIfInBounds_toArray, List.set_cons_succ, List.set_cons_zero]
     refine hoist_call [] [] (a1 := ?_) 11 rfl (by kernel_rfl) (.inl ⟨rfl, rfl⟩) rfl rfl rfl (fun x K hK => ?_) ?_
     rotate_left
     ·go_big_quiet_op
      apply Exists.intro
      refine ⟨fun y => ?_, ?_⟩
      ·exact Calls.laterS_of (cB2.out y.now _ (Q10.out.bw (x.bw.trans y.bw)))
      ·exact hK
     refine hoist [] [] (a1 := ?_) 12 rfl (by kernel_rfl) (.inl ⟨rfl, rfl⟩) rfl rfl rfl (fun x K hK => ?_) ?_
     rotate_left
     ·go_big_quiet_op
      exact hK
     refine hoist [] [] (a1 := ?_) 13 rfl (by kernel_rfl) (.inl ⟨rfl, rfl⟩) rfl rfl rfl (fun x K hK => ?_) ?_
     rotate_left
     ·go_big_quiet_op
      exact hK
     refine hoist [] [] (a1 := ?_) 14 rfl (by kernel_rfl) (.inl ⟨rfl, rfl⟩) rfl rfl rfl (fun x K hK => ?_) ?_
     rotate_left
     ·go_big_quiet_op
      exact hK
     refine hoist [] [] (a1 := ?_) 15 rfl (by kernel_rfl) (.inl ⟨rfl, rfl⟩) rfl rfl rfl (fun x K hK => ?_) ?_
     rotate_left
     ·go_big_quiet_op
      exact hK
     refine hoist [] [] (a1 := ?_) 16 rfl (by kernel_rfl) (.inl ⟨rfl, rfl⟩) rfl rfl rfl (fun x K hK => ?_) ?_
     rotate_left
     ·go_big_quiet_op
      exact hK
     refine hoist [] [] (a1 := ?_) 17 rfl (by kernel_rfl) (.inl ⟨rfl, rfl⟩) rfl rfl rfl (fun x K hK => ?_) ?_
     rotate_left
     ·go_big_quiet_op
      exact hK
     refine hoist [] [] (a1 := ?_) 18 rfl (by kernel_rfl) (.inl ⟨rfl, rfl⟩) rfl rfl rfl (fun x K hK => ?_) ?_
     rotate_left
     ·go_big_quiet_op
      exact hK
     refine hoist [] [] (a1 := ?_) 19 rfl (by kernel_rfl) (.inl ⟨rfl, rfl⟩) rfl rfl rfl (fun x K hK => ?_) ?_
     rotate_left
     ·go_big_quiet_op
      exact hK
     refine hoist [] [] (a1 := ?_) 20 rfl (by kernel_rfl) (.inl ⟨rfl, rfl⟩) rfl rfl rfl (fun x K hK => ?_) ?_
     rotate_left
     ·go_big_quiet_op
      exact hK
     refine hoist [] [] (a1 := ?_) 21 rfl (by kernel_rfl) (.inl ⟨rfl, rfl⟩) rfl rfl rfl (fun x K hK => ?_) ?_
     rotate_left
     ·go_big_quiet_op
      exact hK
     refine hoist [] [] (a1 := ?_) 22 rfl (by kernel_rfl) (.inl ⟨rfl, rfl⟩) rfl rfl rfl (fun x K hK => ?_) ?_
     rotate_left
     ·go_big_quiet_op
      exact hK
     refine hoist [] [] (a1 := ?_) 23 rfl (by kernel_rfl) (.inl ⟨rfl, rfl⟩) rfl rfl rfl (fun x K hK => ?_) ?_
     rotate_left
     ·go_big_quiet_op
      exact hK
     refine hoist [] [] (a1 := ?_) 24 rfl (by kernel_rfl) (.inl ⟨rfl, rfl⟩) rfl rfl rfl (fun x K hK => ?_) ?_
     rotate_left
     ·go_big_quiet_op
      exact hK
     refine hoist [] [] (a1 := ?_) 25 rfl (by kernel_rfl) (.inl ⟨rfl, rfl⟩) rfl rfl rfl (fun x K hK => ?_) ?_
     rotate_left
     ·go_big_quiet_op
      exact hK
     refine hoist [] [] (a1 := ?_) 26 rfl (by kernel_rfl) (.inl ⟨rfl, rfl⟩) rfl rfl rfl (fun x K hK => ?_) ?_
     rotate_left
     ·go_big_quiet_op
      exact hK
     refine hoist [] [] (a1 := ?_) 27 rfl (by kernel_rfl) (.inl ⟨rfl, rfl⟩) rfl rfl rfl (fun x K hK => ?_) ?_
     rotate_left
     ·go_big_quiet_op
      exact hK
     refine hoist [] [] (a1 := ?_) 28 rfl (by kernel_rfl) (.inl ⟨rfl, rfl⟩) rfl rfl rfl (fun x K hK => ?_) ?_
     rotate_left
     ·go_big_quiet_op
      exact hK
     refine hoist [] [] (a1 := ?_) 29 rfl (by kernel_rfl) (.inl ⟨rfl, rfl⟩) rfl rfl rfl (fun x K hK => ?_) ?_
     rotate_left
     ·go_big_quiet_op
      exact hK
     refine hoist [] [] (a1 := ?_) 30 rfl (by kernel_rfl) (.inl ⟨rfl, rfl⟩) rfl rfl rfl (fun x K hK => ?_) ?_
     rotate_left
     ·go_big_quiet_op
      exact hK
     refine hoist [] [] (a1 := ?_) 31 rfl (by kernel_rfl) (.inl ⟨rfl, rfl⟩) rfl rfl rfl (fun x K hK => ?_) ?_
     rotate_left
     ·go_big_quiet_op
      exact hK
     refine hoist [] [] (a1 := ?_) 32 rfl (by kernel_rfl) (.inl ⟨rfl, rfl⟩) rfl rfl rfl (fun x K hK => ?_) ?_
     rotate_left
     ·go_big_quiet_op
      exact hK
     refine hoist [] [] (a1 := ?_) 33 rfl (by kernel_rfl) (.inl ⟨rfl, rfl⟩) rfl rfl rfl (fun x K hK => ?_) ?_
     rotate_left
     ·go_big_quiet_op
      exact hK
     refine hoist [] [] (a1 := ?_) 34 rfl (by kernel_rfl) (.inl ⟨rfl, rfl⟩) rfl rfl rfl (fun x K hK => ?_) ?_
     rotate_left
     ·go_big_quiet_op
      exact hK
     refine hoist [] [] (a1 := ?_) 35 rfl (by kernel_rfl) (.inl ⟨rfl, rfl⟩) rfl rfl rfl (fun x K hK => ?_) ?_
     rotate_left
     ·go_big_quiet_op
      exact hK
     refine hoist [] [] (a1 := ?_) 36 rfl (by kernel_rfl) (.inl ⟨rfl, rfl⟩) rfl rfl rfl (fun x K hK => ?_) ?_
     rotate_left
     ·go_big_quiet_op
      exact hK
     refine hoist [] [] (a1 := ?_) 37 rfl (by kernel_rfl) (.inl ⟨rfl, rfl⟩) rfl rfl rfl (fun x K hK => ?_) ?_
     rotate_left
     ·go_big_quiet_op
      exact hK
     refine hoist [] [] (a1 := ?_) 38 rfl (by kernel_rfl) (.inl ⟨rfl, rfl⟩) rfl rfl rfl (fun x K hK => ?_) ?_
     rotate_left
     ·go_big_quiet_op
      exact hK
     refine hoist [] [] (a1 := ?_) 39 rfl (by kernel_rfl) (.inl ⟨rfl, rfl⟩) rfl rfl rfl (fun x K hK => ?_) ?_
     rotate_left
     ·go_big_quiet_op
      exact hK
     refine hoist [] [] (a1 := ?_) 40 rfl (by kernel_rfl) (.inl ⟨rfl, rfl⟩) rfl rfl rfl (fun x K hK => ?_) ?_
     rotate_left
     ·go_big_quiet_op
      exact hK
     refine done (by kernel_rfl) (fun xr => ?_)
     replace X := Lib.hid (X.out.bw xr.bw)
     have hb := BB.out.trans xr.bw
     replace Q := Lib.hid (Q.out.bw hb)
     replace hk := Lib.hid (hk.out.bw hb)
     replace B := Lib.hid (B.out.trans hb)
     clear hb BB cB1 cB2 hprev
     generalize xr.now = w5 at *
     clear xr
     by_cases h6 : 4 < mk
     ·have d6 : decide ((4 : Int) < (mk : Int)) = true := decide_eq_true (by omega)
      have hNo := Lib.hid (not_okW hiL.out (fun h => by have := (hOk2.out.1 h).2.2.2.2; omega))
      clear hOk2 hOk Q hk
      go_wp2_with fail
      go_ret
      exact ⟨MayWR.no hNo.out, B.out⟩
     ·have d6 : decide ((4 : Int) < (mk : Int)) = false := decide_eq_false (by omega)
      have hI := Lib.hid (hOk2.out.2 ⟨h1, h2, hT.out, by omega, by omega⟩)
      have hOk3 : Hid (∀ j, j < i + 1 → OkW L j) := Lib.hid (fun j hj => by
       by_cases e : j < i
       ·exact hOk.out j e
       ·obtain rfl : j = i := by omega
        exact hI.out)
      clear hOk2 hOk hI hT h1 h2
      obtain ⟨hkl, ysk, hkS, hkE⟩ := hk.out
      have hkS := Lib.hid hkS
      have hkE : Hid (EL EU4 w5 base (wi L i).s ysk) := Lib.hid (EL.mono (E := EU4) (w := w5) (w' := w5) (base := 0) (base' := base) (fun _ _ h => h) hkE)
      have hkl := Lib.hid hkl
      have q2 := (hp_cell X.out 2).trans (show _ = some (.slice sk mk ck) from rfl)
      have hbw : Hid (base ≤ w5.heap.size) := Lib.hid (by rw [← hb0.out]; exact B.out.size)
      clear hk
      go_upto_region 8 with (at_builtin; go_must (refine wpList_apEQ slU4 rfl _ _ rfl base (.slice s m cp) m _ rfl Q.out _ rfl mk (wi L i).s ysk hkS.out hkE.out hkl.out (by omega) hbw.out (fun _ _ => trivial) ?_; intro s7 c7 w7 hc7 hm7 E7 T7 B7 G7; unfold maxLen at hm7; replace E7 := Lib.hid E7; replace B := Lib.hid (B.out.step B7 (Nat.le_of_eq hb0.out)); clear B7 G7 T7 Q q2 hkS hkE hbw))
      try simp only [Act.put, List.setIfInBounds_toArray, List.set_cons_succ, List.set_cons_zero]
      have Q7 : Hid (EQ EU4 38 w7 base (.slice s7 (m + mk) c7) (m + mk) (allS (L.take (i + 1)))) := Lib.hid (by rw [allS_take L hiL.out]; exact E7.out)
      clear E7 X
      go_wp2_with fail
      go_roundg (n - (i + 1))
      case measure => omega
      case rel => exact ⟨i + 1, m + mk, c7, s7, rfl, by omega, by push_cast; rfl, rfl, by omega, by omega, Lib.hid (fun h => by omega), Q7, hOk3, B⟩
    ·skip
     go_simp
     refine hK _ _ (Still.of_below ((Below.refl _ _).alloc (Nat.le_refl _) _)) ?_
     clear hK K
     clear mt mc ms mp
     have Q10 := Lib.hid (newI1 x10.now c)
     have hb := x10.bw.alloc (o := .cells #[.int .i64 c] 3)
     replace X := Lib.hid (X.out.bw hb)
     replace BB := Lib.hid (BB.out.trans hb)
     replace Cp := Lib.hid (hb.cell Cp.out)
     generalize x10.now.alloc (.cells #[.int .i64 c] 3) = w10 at *
     generalize x10.now.heap.size = g10 at *
     clear hb
     have mt : ∀ y : LaterS [] w10, _ := fun y => y.bw.cell ((hp_cell X.out 0).trans (show _ = some (.int .i64 t) from rfl))
     have mc : ∀ y : LaterS [] w10, _ := fun y => y.bw.cell ((hp_cell X.out 1).trans (show _ = some (.int .i64 c) from rfl))
     have ms : ∀ y : LaterS [] w10, _ := fun y => y.bw.cell ((hp_cell X.out 2).trans (show _ = some (.slice sk mk ck) from rfl))
     have mp : ∀ y : LaterS [] w10, _ := fun y => y.bw.cell Cp.out
     try simp only [Act.put, List.setIfInBounds_toArray, List.set_cons_succ, List.set_cons_zero]
     refine effect 6 rfl (by kernel_rfl) (by kernel_rfl) rfl (fun x6 K hK => ?_)
     go_simp
     refine Calls.mono (codecs_any x6.now) ?_
     rintro e w6 ⟨g6, rfl, -, -, -, hb6⟩
     refine hK _ _ (hb6.still _) ?_
     clear hK K
     clear mt mc ms mp
     have hb := x6.bw.trans hb6
     replace X := Lib.hid (X.out.bw hb)
     replace BB := Lib.hid (BB.out.trans hb)
     replace Cp := Lib.hid (hb.cell Cp.out)
     try replace Q10 := Lib.hid (Q10.out.bw hb)
     clear hb hb6
     have mt : ∀ y : LaterS [] w6, _ := fun y => y.bw.cell ((hp_cell X.out 0).trans (show _ = some (.int .i64 t) from rfl))
     have mc : ∀ y : LaterS [] w6, _ := fun y => y.bw.cell ((hp_cell X.out 1).trans (show _ = some (.int .i64 c) from rfl))
     have ms : ∀ y : LaterS [] w6, _ := fun y => y.bw.cell ((hp_cell X.out 2).trans (show _ = some (.slice sk mk ck) from rfl))
     have mp : ∀ y : LaterS [] w6, _ := fun y => y.bw.cell Cp.out
     try simp only [Act.put, List.setIfInBounds_toArray, List.set_cons_succ, List.set_cons_zero]
     refine hoist [] [] (a1 := ?_) 7 rfl (by kernel_rfl) (.inl ⟨rfl, rfl⟩) rfl rfl rfl (fun x K hK => ?_) ?_
     rotate_left
     ·go_big_quiet_op
      exact hK
     refine hoist_call [] [] (a1 := ?_) 11 rfl (by kernel_rfl) (.inl ⟨rfl, rfl⟩) rfl rfl rfl (fun x K hK => ?_) ?_
     rotate_left
     ·go_big_quiet_op
      apply Exists.intro
      refine ⟨fun y => ?_, ?_⟩
      ·exact Calls.laterS_of (cB2.out y.now _ (Q10.out.bw (x.bw.trans y.bw)))
      ·exact hK
     refine hoist [] [] (a1 := ?_) 12 rfl (by kernel_rfl) (.inl ⟨rfl, rfl⟩) rfl rfl rfl (fun x K hK => ?_) ?_
     rotate_left
     ·go_big_quiet_op
      exact hK
     refine hoist [] [] (a1 := ?_) 13 rfl (by kernel_rfl) (.inl ⟨rfl, rfl⟩) rfl rfl rfl (fun x K hK => ?_) ?_
     rotate_left
     ·go_big_quiet_op
      exact hK
     refine hoist [] [] (a1 := ?_) 14 rfl (by kernel_rfl) (.inl ⟨rfl, rfl⟩) rfl rfl rfl (fun x K hK => ?_) ?_
     rotate_left
     ·go_big_quiet_op
      exact hK
     refine hoist [] [] (a1 := ?_) 15 rfl (by kernel_rfl) (.inl ⟨rfl, rfl⟩) rfl rfl rfl (fun x K hK => ?_) ?_
     rotate_left
     ·go_big_quiet_op
      exact hK
     refine hoist [] [] (a1 := ?_) 16 rfl (by kernel_rfl) (.inl ⟨rfl, rfl⟩) rfl rfl rfl (fun x K hK => ?_) ?_
     rotate_left
     ·go_big_quiet_op
      exact hK
     refine hoist [] [] (a1 := ?_) 17 rfl (by kernel_rfl) (.inl ⟨rfl, rfl⟩) rfl rfl rfl (fun x K hK => ?_) ?_
     rotate_left
     ·go_big_quiet_op
      exact hK
     refine hoist [] [] (a1 := ?_) 18 rfl (by kernel_rfl) (.inl ⟨rfl, rfl⟩) rfl rfl rfl (fun x K hK => ?_) ?_
     rotate_left
     ·go_big_quiet_op
      exact hK
     refine hoist [] [] (a1 := ?_) 19 rfl (by kernel_rfl) (.inl ⟨rfl, rfl⟩) rfl rfl rfl (fun x K hK => ?_) ?_
     rotate_left
     ·go_big_quiet_op
      exact hK
     refine hoist [] [] (a1 := ?_) 20 rfl (by kernel_rfl) (.inl ⟨rfl, rfl⟩) rfl rfl rfl (fun x K hK => ?_) ?_
     rotate_left
     ·go_big_quiet_op
      exact hK
     refine hoist [] [] (a1 := ?_) 21 rfl (by kernel_rfl) (.inl ⟨rfl, rfl⟩) rfl rfl rfl (fun x K hK => ?_) ?_
     rotate_left
     ·go_big_quiet_op
      exact hK
     refine hoist [] [] (a1 := ?_) 22 rfl (by kernel_rfl) (.inl ⟨rfl, rfl⟩) rfl rfl rfl (fun x K hK => ?_) ?_
     rotate_left
     ·go_big_quiet_op
      exact hK
     refine hoist [] [] (a1 := ?_) 23 rfl (by kernel_rfl) (.inl ⟨rfl, rfl⟩) rfl rfl rfl (fun x K hK => ?_) ?_
     rotate_left
     ·go_big_quiet_op
      exact hK
     refine hoist [] [] (a1 := ?_) 24 rfl (by kernel_rfl) (.inl ⟨rfl, rfl⟩) rfl rfl rfl (fun x K hK => ?_) ?_
     rotate_left
     ·go_big_quiet_op
      exact hK
     refine hoist [] [] (a1 := ?_) 25 rfl (by kernel_rfl) (.inl ⟨rfl, rfl⟩) rfl rfl rfl (fun x K hK => ?_) ?_
     rotate_left
     ·go_big_quiet_op
      exact hK
     refine hoist [] [] (a1 := ?_) 26 rfl (by kernel_rfl) (.inl ⟨rfl, rfl⟩) rfl rfl rfl (fun x K hK => ?_) ?_
     rotate_left
     ·go_big_quiet_op
      exact hK
     refine hoist [] [] (a1 := ?_) 27 rfl (by kernel_rfl) (.inl ⟨rfl, rfl⟩) rfl rfl rfl (fun x K hK => ?_) ?_
     rotate_left
     ·go_big_quiet_op
      exact hK
     refine hoist [] [] (a1 := ?_) 28 rfl (by kernel_rfl) (.inl ⟨rfl, rfl⟩) rfl rfl rfl (fun x K hK => ?_) ?_
     rotate_left
     ·go_big_quiet_op
      exact hK
     refine hoist [] [] (a1 := ?_) 29 rfl (by kernel_rfl) (.inl ⟨rfl, rfl⟩) rfl rfl rfl (fun x K hK => ?_) ?_
     rotate_left
     ·go_big_quiet_op
      exact hK
     refine hoist [] [] (a1 := ?_) 30 rfl (by kernel_rfl) (.inl ⟨rfl, rfl⟩) rfl rfl rfl (fun x K hK => ?_) ?_
     rotate_left
     ·go_big_quiet_op
      exact hK
     refine hoist [] [] (a1 := ?_) 31 rfl (by kernel_rfl) (.inl ⟨rfl, rfl⟩) rfl rfl rfl (fun x K hK => ?_) ?_
     rotate_left
     ·go_big_quiet_op
      exact hK
     refine hoist [] [] (a1 := ?_) 32 rfl (by kernel_rfl) (.inl ⟨rfl, rfl⟩) rfl rfl rfl (fun x K hK => ?_) ?_
     rotate_left
     ·go_big_quiet_op
      exact hK
     refine hoist [] [] (a1 := ?_) 33 rfl (by kernel_rfl) (.inl ⟨rfl, rfl⟩) rfl rfl rfl (fun x K hK => ?_) ?_
     rotate_left
     ·go_big_quiet_op
      exact hK
     refine hoist [] [] (a1 := ?_) 34 rfl (by kernel_rfl) (.inl ⟨rfl, rfl⟩) rfl rfl rfl (fun x K hK => ?_) ?_
     rotate_left
     ·go_big_quiet_op
      exact hK
     refine hoist [] [] (a1 := ?_) 35 rfl (by kernel_rfl) (.inl ⟨rfl, rfl⟩) rfl rfl rfl (fun x K hK => ?_) ?_
     rotate_left
     ·go_big_quiet_op
      exact hK
     refine hoist [] [] (a1 := ?_) 36 rfl (by kernel_rfl) (.inl ⟨rfl, rfl⟩) rfl rfl rfl (fun x K hK => ?_) ?_
     rotate_left
     ·go_big_quiet_op
      exact hK
     refine hoist [] [] (a1 := ?_) 37 rfl (by kernel_rfl) (.inl ⟨rfl, rfl⟩) rfl rfl rfl (fun x K hK => ?_) ?_
     rotate_left
     ·go_big_quiet_op
      exact hK
     refine hoist [] [] (a1 := ?_) 38 rfl (by kernel_rfl) (.inl ⟨rfl, rfl⟩) rfl rfl rfl (fun x K hK => ?_) ?_
     rotate_left
     ·go_big_quiet_op
      exact hK
     refine hoist [] [] (a1 := ?_) 39 rfl (by kernel_rfl) (.inl ⟨rfl, rfl⟩) rfl rfl rfl (fun x K hK => ?_) ?_
     rotate_left
     ·go_big_quiet_op
      exact hK
     refine hoist [] [] (a1 := ?_) 40 rfl (by kernel_rfl) (.inl ⟨rfl, rfl⟩) rfl rfl rfl (fun x K hK => ?_) ?_
     rotate_left
     ·go_big_quiet_op
      exact hK
     refine done (by kernel_rfl) (fun xr => ?_)
     replace X := Lib.hid (X.out.bw xr.bw)
     have hb := BB.out.trans xr.bw
     replace Q := Lib.hid (Q.out.bw hb)
     replace hk := Lib.hid (hk.out.bw hb)
     replace B := Lib.hid (B.out.trans hb)
     clear hb BB cB1 cB2 hprev
     generalize xr.now = w5 at *
     clear xr
     by_cases h6 : 4 < mk
     ·have d6 : decide ((4 : Int) < (mk : Int)) = true := decide_eq_true (by omega)
      have hNo := Lib.hid (not_okW hiL.out (fun h => by have := (hOk2.out.1 h).2.2.2.2; omega))
      clear hOk2 hOk Q hk
      go_wp2_with fail
      go_ret
      exact ⟨MayWR.no hNo.out, B.out⟩
     ·have d6 : decide ((4 : Int) < (mk : Int)) = false := decide_eq_false (by omega)
      have hI := Lib.hid (hOk2.out.2 ⟨h1, h2, hT.out, by omega, by omega⟩)
      have hOk3 : Hid (∀ j, j < i + 1 → OkW L j) := Lib.hid (fun j hj => by
       by_cases e : j < i
       ·exact hOk.out j e
       ·obtain rfl : j = i := by omega
        exact hI.out)
      clear hOk2 hOk hI hT h1 h2
      obtain ⟨hkl, ysk, hkS, hkE⟩ := hk.out
      have hkS := Lib.hid hkS
      have hkE : Hid (EL EU4 w5 base (wi L i).s ysk) := Lib.hid (EL.mono (E := EU4) (w := w5) (w' := w5) (base := 0) (base' := base) (fun _ _ h => h) hkE)
      have hkl := Lib.hid hkl
      have q2 := (hp_cell X.out 2).trans (show _ = some (.slice sk mk ck) from rfl)
      have hbw : Hid (base ≤ w5.heap.size) := Lib.hid (by rw [← hb0.out]; exact B.out.size)
      clear hk
      go_upto_region 8 with (at_builtin; go_must (refine wpList_apEQ slU4 rfl _ _ rfl base (.slice s m cp) m _ rfl Q.out _ rfl mk (wi L i).s ysk hkS.out hkE.out hkl.out (by omega) hbw.out (fun _ _ => trivial) ?_; intro s7 c7 w7 hc7 hm7 E7 T7 B7 G7; unfold maxLen at hm7; replace E7 := Lib.hid E7; replace B := Lib.hid (B.out.step B7 (Nat.le_of_eq hb0.out)); clear B7 G7 T7 Q q2 hkS hkE hbw))
      try simp only [Act.put, List.setIfInBounds_toArray, List.set_cons_succ, List.set_cons_zero]
      have Q7 : Hid (EQ EU4 38 w7 base (.slice s7 (m + mk) c7) (m + mk) (allS (L.take (i + 1)))) := Lib.hid (by rw [allS_take L hiL.out]; exact E7.out)
      clear E7 X
      go_wp2_with fail
      go_roundg (n - (i + 1))
      case measure => omega
      case rel => exact ⟨i + 1, m + mk, c7, s7, rfl, by omega, by push_cast; rfl, rfl, by omega, by omega, Lib.hid (fun h => by omega), Q7, hOk3, B⟩
   have di : decide ((0 : Int) < (i : Int)) = false := decide_eq_false (by omega)
   have hT : Hid (0 < i → (wi L (i - 1)).t < t) := Lib.hid (fun h => absurd h h3)
   by_cases h5 : mk < 1
   case pos =>
    have d5 : decide ((mk : Int) < 1) = true := decide_eq_true (by omega)
    have hNot : Hid (¬ MayW L) := Lib.hid (not_okW hiL.out (fun h => by have := (hOk2.out.1 h).2.2.2.1; omega))
    clear h1 h2 hprev hOk2 hOk Q hk hT
    have BB := Lib.hid (BW.refl w1)
    have mt : ∀ y : LaterS [] w1, _ := fun y => y.bw.cell ((hp_cell X.out 0).trans (show _ = some (.int .i64 t) from rfl))
    have mc : ∀ y : LaterS [] w1, _ := fun y => y.bw.cell ((hp_cell X.out 1).trans (show _ = some (.int .i64 c) from rfl))
    have ms : ∀ y : LaterS [] w1, _ := fun y => y.bw.cell ((hp_cell X.out 2).trans (show _ = some (.slice sk mk ck) from rfl))
    refine wp_region_gg [] [] [] (by kernel_rfl) ?_
    refine hoist [] [] (a1 := ?_) 0 rfl (by kernel_rfl) (.inl ⟨rfl, rfl⟩) rfl rfl rfl (fun x K hK => ?_) ?_
    rotate_left
    ·go_big_quiet_op
     exact hK
    refine hoist [] [] (a1 := ?_) 1 rfl (by kernel_rfl) (.inl ⟨rfl, rfl⟩) rfl rfl rfl (fun x K hK => ?_) ?_
    rotate_left
    ·go_big_quiet_op
     exact hK
    refine effect 2 rfl (by kernel_rfl) (by kernel_rfl) rfl (fun x2 K hK => ?_)
    go_simp
    refine hK _ _ (Still.of_below ((Below.refl _ _).alloc (Nat.le_refl _) _)) ?_
    clear hK K
    clear mt mc ms
    have Q2 := Lib.hid (newI1 x2.now t)
    have hb := x2.bw.alloc (o := .cells #[.int .i64 t] 3)
    replace X := Lib.hid (X.out.bw hb)
    replace BB := Lib.hid (BB.out.trans hb)
    generalize x2.now.alloc (.cells #[.int .i64 t] 3) = w2 at *
    generalize x2.now.heap.size = g2 at *
    clear hb
    have mt : ∀ y : LaterS [] w2, _ := fun y => y.bw.cell ((hp_cell X.out 0).trans (show _ = some (.int .i64 t) from rfl))
    have mc : ∀ y : LaterS [] w2, _ := fun y => y.bw.cell ((hp_cell X.out 1).trans (show _ = some (.int .i64 c) from rfl))
    have ms : ∀ y : LaterS [] w2, _ := fun y => y.bw.cell ((hp_cell X.out 2).trans (show _ = some (.slice sk mk ck) from rfl))
    try simp only [Act.put, List.setIfInBounds_toArray, List.set_cons_succ, List.set_cons_zero]
    refine hoist_call [] [] (a1 := ?_) 3 rfl (by kernel_rfl) (.inl ⟨rfl, rfl⟩) rfl rfl rfl (fun x K hK => ?_) ?_
    rotate_left
    ·go_big_quiet_op
     apply Exists.intro
     refine ⟨fun y => ?_, ?_⟩
     ·exact Calls.laterS_of (cB1.out y.now _ (Q2.out.bw (x.bw.trans y.bw)))
     ·exact hK
    refine hoist [] [] (a1 := ?_) 4 rfl (by kernel_rfl) (.inl ⟨rfl, rfl⟩) rfl rfl rfl (fun x K hK => ?_) ?_
    rotate_left
    ·go_big_quiet_op
     exact hK
    refine hoist [] [] (a1 := ?_) 5 rfl (by kernel_rfl) (.inl ⟨rfl, rfl⟩) rfl rfl rfl (fun x K hK => ?_) ?_
    rotate_left
    ·go_big_quiet_op
     exact hK
    refine hoist [] [] (a1 := ?_) 8 rfl (by kernel_rfl) (.inl ⟨rfl, rfl⟩) rfl rfl rfl (fun x K hK => ?_) ?_
    rotate_left
    ·go_big_quiet_op
     exact hK
    refine hoist [] [] (a1 := ?_) 9 rfl (by kernel_rfl) (.inl ⟨rfl, rfl⟩) rfl rfl rfl (fun x K hK => ?_) ?_
    rotate_left
    ·go_big_quiet_op
     exact hK
    refine effect2 6 10 rfl rfl (by kernel_rfl) (by kernel_rfl) (by kernel_rfl) rfl rfl (fun x6 K hK => ?_) (fun x10 K hK => ?_)
    ·skip
     go_simp
     refine Calls.mono (codecs_any x6.now) ?_
     rintro e w6 ⟨g6, rfl, -, -, -, hb6⟩
     refine hK _ _ (hb6.still _) ?_
     clear hK K
     clear mt mc ms
     have hb := x6.bw.trans hb6
     replace X := Lib.hid (X.out.bw hb)
     replace BB := Lib.hid (BB.out.trans hb)
     try replace Q10 := Lib.hid (Q10.out.bw hb)
     clear hb hb6
     have mt : ∀ y : LaterS [] w6, _ := fun y => y.bw.cell ((hp_cell X.out 0).trans (show _ = some (.int .i64 t) from rfl))
     have mc : ∀ y : LaterS [] w6, _ := fun y => y.bw.cell ((hp_cell X.out 1).trans (show _ = some (.int .i64 c) from rfl))
     have ms : ∀ y : LaterS [] w6, _ := fun y => y.bw.cell ((hp_cell X.out 2).trans (show _ = some (.slice sk mk ck) from rfl))
     try simp only [Act.put, List.setIfInBounds_toArray, List.set_cons_succ, List.set_cons_zero]
     refine hoist [] [] (a1 := ?_) 7 rfl (by kernel_rfl) (.inl ⟨rfl, rfl⟩) rfl rfl rfl (fun x K hK => ?_) ?_
     rotate_left
     ·go_big_quiet_op
      exact hK
     refine effect 10 rfl (by kernel_rfl) (by kernel_rfl) rfl (fun x10 K hK => ?_)
     go_simp
     refine hK _ _ (Still.of_below ((Below.refl _ _).alloc (Nat.le_refl _) _)) ?_
     clear hK K
     clear mt mc ms
     have Q10 := Lib.hid (newI1 x10.now c)
     have hb := x10.bw.alloc (o := .cells #[.int .i64 c] 3)
     replace X := Lib.hid (X.out.bw hb)
     replace BB := Lib.hid (BB.out.trans hb)
     generalize x10.now.alloc (.cells #[.int .i64 c] 3) = w10 at *
     generalize x10.now.heap.size = g10 at *
     clear hb
     have mt : ∀ y : LaterS [] w10, _ := fun y => y.bw.cell ((hp_cell X.out 0).trans (show _ = some (.int .i64 t) from rfl))
     have mc : ∀ y : LaterS [] w10, _ := fun y => y.bw.cell ((hp_cell X.out 1).trans (show _ = some (.int .i64 c) from rfl))
     have ms : ∀ y : LaterS [] w10, _ := fun y => y.bw.cell ((hp_cell X.out 2).trans (show _ = some (.slice sk mk ck) from rfl))
     try simp only [Act.put, List.setIfInBounds_toArray, List.set_cons_succ, List.set_cons_zero]
     refine hoist_call [] [] (a1 := ?_) 11 rfl (by kernel_rfl) (.inl ⟨rfl, rfl⟩) rfl rfl rfl (fun x K hK => ?_) ?_
     rotate_left
     ·go_big_quiet_op
      apply Exists.intro
      refine ⟨fun y => ?_, ?_⟩
      ·exact Calls.laterS_of (cB2.out y.now _ (Q10.out.bw (x.bw.trans y.bw)))
      ·exact hK
     refine hoist [] [] (a1 := ?_) 12 rfl (by kernel_rfl) (.inl ⟨rfl, rfl⟩) rfl rfl rfl (fun x K hK => ?_) ?_
     rotate_left
     ·go_big_quiet_op
      exact hK
     refine hoist [] [] (a1 := ?_) 13 rfl (by kernel_rfl) (.inl ⟨rfl, rfl⟩) rfl rfl rfl (fun x K hK => ?_) ?_
     rotate_left
     ·go_big_quiet_op
      exact hK
     refine hoist [] [] (a1 := ?_) 14 rfl (by kernel_rfl) (.inl ⟨rfl, rfl⟩) rfl rfl rfl (fun x K hK => ?_) ?_
     rotate_left
     ·go_big_quiet_op
      exact hK
     refine hoist [] [] (a1 := ?_) 15 rfl (by kernel_rfl) (.inl ⟨rfl, rfl⟩) rfl rfl rfl (fun x K hK => ?_) ?_
     rotate_left
     ·go_big_quiet_op
      exact hK
     refine hoist [] [] (a1 := ?_) 16 rfl (by kernel_rfl) (.inl ⟨rfl, rfl⟩) rfl rfl rfl (fun x K hK => ?_) ?_
     rotate_left
     ·go_big_quiet_op
      exact hK
     refine hoist [] [] (a1 := ?_) 17 rfl (by kernel_rfl) (.inl ⟨rfl, rfl⟩) rfl rfl rfl (fun x K hK => ?_) ?_
     rotate_left
     ·go_big_quiet_op
      exact hK
     refine hoist_skip [] [] 18 rfl (by kernel_rfl) (.inl ⟨rfl, rfl⟩) rfl (a1 := ?_) ?_ ?_
     rotate_left
     ·simp only [Act.put, List.setIfInBounds_toArray, List.set_cons_succ, List.set_cons_zero]; rfl
     refine hoist_skip [] [] 19 rfl (by kernel_rfl) (.inl ⟨rfl, rfl⟩) rfl (a1 := ?_) ?_ ?_
     rotate_left
     ·simp only [Act.put, List.setIfInBounds_toArray, List.set_cons_succ, List.set_cons_zero]; rfl
     refine hoist_skip [] [] 20 rfl (by kernel_rfl) (.inl ⟨rfl, rfl⟩) rfl (a1 := ?_) ?_ ?_
     rotate_left
     ·simp only [Act.put, List.setIfInBounds_toArray, List.set_cons_succ, List.set_cons_zero]; rfl
     refine hoist_skip [] [] 21 rfl (by kernel_rfl) (.inl ⟨rfl, rfl⟩) rfl (a1 := ?_) ?_ ?_
     rotate_left
     ·simp only [Act.put, List.setIfInBounds_toArray, List.set_cons_succ, List.set_cons_zero]; rfl
     refine hoist_skip [] [] 22 rfl (by kernel_rfl) (.inl ⟨rfl, rfl⟩) rfl (a1 := ?_) ?_ ?_
     rotate_left
     ·simp only [Act.put, List.setIfInBounds_toArray, List.set_cons_succ, List.set_cons_zero]; rfl
     refine hoist_skip [] [] 23 rfl (by kernel_rfl) (.inl ⟨rfl, rfl⟩) rfl (a1 := ?_) ?_ ?_
     rotate_left
     ·simp only [Act.put, List.setIfInBounds_toArray, List.set_cons_succ, List.set_cons_zero]; rfl
     refine hoist_skip [] [] 24 rfl (by kernel_rfl) (.inl ⟨rfl, rfl⟩) rfl (a1 := ?_) ?_ ?_
     rotate_left
     ·simp only [Act.put, List.setIfInBounds_toArray, List.set_cons_succ, List.set_cons_zero]; rfl
     refine hoist_skip [] [] 25 rfl (by kernel_rfl) (.inl ⟨rfl, rfl⟩) rfl (a1 := ?_) ?_ ?_
     rotate_left
     ·simp only [Act.put, List.setIfInBounds_toArray, List.set_cons_succ, List.set_cons_zero]; rfl
     refine hoist_skip [] [] 26 rfl (by kernel_rfl) (.inl ⟨rfl, rfl⟩) rfl (a1 := ?_) ?_ ?_
     rotate_left
     ·simp only [Act.put, List.setIfInBounds_toArray, List.set_cons_succ, List.set_cons_zero]; rfl
     refine hoist [] [] (a1 := ?_) 27 rfl (by kernel_rfl) (.inl ⟨rfl, rfl⟩) rfl rfl rfl (fun x K hK => ?_) ?_
     rotate_left
     ·go_big_quiet_op
      exact hK
     refine hoist [] [] (a1 := ?_) 28 rfl (by kernel_rfl) (.inl ⟨rfl, rfl⟩) rfl rfl rfl (fun x K hK => ?_) ?_
     rotate_left
     ·go_big_quiet_op
      exact hK
     refine hoist [] [] (a1 := ?_) 29 rfl (by kernel_rfl) (.inl ⟨rfl, rfl⟩) rfl rfl rfl (fun x K hK => ?_) ?_
     rotate_left
     ·go_big_quiet_op
      exact hK
     refine hoist [] [] (a1 := ?_) 30 rfl (by kernel_rfl) (.inl ⟨rfl, rfl⟩) rfl rfl rfl (fun x K hK => ?_) ?_
     rotate_left
     ·go_big_quiet_op
      exact hK
     refine hoist [] [] (a1 := ?_) 31 rfl (by kernel_rfl) (.inl ⟨rfl, rfl⟩) rfl rfl rfl (fun x K hK => ?_) ?_
     rotate_left
     ·go_big_quiet_op
      exact hK
     refine hoist [] [] (a1 := ?_) 32 rfl (by kernel_rfl) (.inl ⟨rfl, rfl⟩) rfl rfl rfl (fun x K hK => ?_) ?_
     rotate_left
     ·go_big_quiet_op
      exact hK
     refine hoist [] [] (a1 := ?_) 33 rfl (by kernel_rfl) (.inl ⟨rfl, rfl⟩) rfl rfl rfl (fun x K hK => ?_) ?_
     rotate_left
     ·go_big_quiet_op
      exact hK
     refine hoist [] [] (a1 := ?_) 34 rfl (by kernel_rfl) (.inl ⟨rfl, rfl⟩) rfl rfl rfl (fun x K hK => ?_) ?_
     rotate_left
     ·go_big_quiet_op
      exact hK
     refine hoist [] [] (a1 := ?_) 35 rfl (by kernel_rfl) (.inl ⟨rfl, rfl⟩) rfl rfl rfl (fun x K hK => ?_) ?_
     rotate_left
     ·go_big_quiet_op
      exact hK
     refine hoist_skip [] [] 36 rfl (by kernel_rfl) (.inl ⟨rfl, rfl⟩) rfl (a1 := ?_) ?_ ?_
     rotate_left
     ·simp only [Act.put, List.setIfInBounds_toArray, List.set_cons_succ, List.set_cons_zero]; rfl
     refine hoist_skip [] [] 37 rfl (by kernel_rfl) (.inl ⟨rfl, rfl⟩) rfl (a1 := ?_) ?_ ?_
     rotate_left
     ·simp only [Act.put, List.setIfInBounds_toArray, List.set_cons_succ, List.set_cons_zero]; rfl
     refine hoist_skip [] [] 38 rfl (by kernel_rfl) (.inl ⟨rfl, rfl⟩) rfl (a1 := ?_) ?_ ?_
     rotate_left
     ·simp only [Act.put, List.setIfInBounds_toArray, List.set_cons_succ, List.set_cons_zero]; rfl
     refine hoist_skip [] [] 39 rfl (by kernel_rfl) (.inl ⟨rfl, rfl⟩) rfl (a1 := ?_) ?_ ?_
     rotate_left
     ·simp only [Act.put, List.setIfInBounds_toArray, List.set_cons_succ, List.set_cons_zero]; rfl
     refine hoist [] [] (a1 := ?_) 40 rfl (by kernel_rfl) (.inl ⟨rfl, rfl⟩) rfl rfl rfl (fun x K hK => ?_) ?_
     rotate_left
     ·go_big_quiet_op
      exact hK
     refine done (by kernel_rfl) (fun xr => ?_)
     have hNo := hNot.out
     have hB := B.out.trans (BB.out.trans xr.bw)
     go_wp2_with fail
     go_ret
     exact ⟨MayWR.no hNo, hB⟩
    ·skip
     go_simp
     refine hK _ _ (Still.of_below ((Below.refl _ _).alloc (Nat.le_refl _) _)) ?_
     clear hK K
     clear mt mc ms
     have Q10 := Lib.hid (newI1 x10.now c)
     have hb := x10.bw.alloc (o := .cells #[.int .i64 c] 3)
     replace X := Lib.hid (X.out.bw hb)
     replace BB := Lib.hid (BB.out.trans hb)
     generalize x10.now.alloc (.cells #[.int .i64 c] 3) = w10 at *
     generalize x10.now.heap.size = g10 at *
     clear hb
     have mt : ∀ y : LaterS [] w10, _ := fun y => y.bw.cell ((hp_cell X.out 0).trans (show _ = some (.int .i64 t) from rfl))
     have mc : ∀ y : LaterS [] w10, _ := fun y => y.bw.cell ((hp_cell X.out 1).trans (show _ = some (.int .i64 c) from rfl))
     have ms : ∀ y : LaterS [] w10, _ := fun y => y.bw.cell ((hp_cell X.out 2).trans (show _ = some (.slice sk mk ck) from rfl))
     try simp only [Act.put, List.setIfInBounds_toArray, List.set_cons_succ, List.set_cons_zero]
     refine effect 6 rfl (by kernel_rfl) (by kernel_rfl) rfl (fun x6 K hK => ?_)
     go_simp
     refine Calls.mono (codecs_any x6.now) ?_
     rintro e w6 ⟨g6, rfl, -, -, -, hb6⟩
     refine hK _ _ (hb6.still _) ?_
     clear hK K
     clear mt mc ms
     have hb := x6.bw.trans hb6
     replace X := Lib.hid (X.out.bw hb)
     replace BB := Lib.hid (BB.out.trans hb)
     try replace Q10 := Lib.hid (Q10.out.bw hb)
     clear hb hb6
     have mt : ∀ y : LaterS [] w6, _ := fun y => y.bw.cell ((hp_cell X.out 0).trans (show _ = some (.int .i64 t) from rfl))
     have mc : ∀ y : LaterS [] w6, _ := fun y => y.bw.cell ((hp_cell X.out 1).trans (show _ = some (.int .i64 c) from rfl))
     have ms : ∀ y : LaterS [] w6, _ := fun y => y.bw.cell ((hp_cell X.out 2).trans (show _ = some (.slice sk mk ck) from rfl))
     try simp only [Act.put, List.setIfInBounds_toArray, List.set_cons_succ, List.set_cons_zero]
     refine hoist [] [] (a1 := ?_) 7 rfl (by kernel_rfl) (.inl ⟨rfl, rfl⟩) rfl rfl rfl (fun x K hK => ?_) ?_
     rotate_left
     ·go_big_quiet_op
      exact hK
     refine hoist_call [] [] (a1 := ?_) 11 rfl (by kernel_rfl) (.inl ⟨rfl, rfl⟩) rfl rfl rfl (fun x K hK => ?_) ?_
     rotate_left
     ·go_big_quiet_op
      apply Exists.intro
      refine ⟨fun y => ?_, ?_⟩
      ·exact Calls.laterS_of (cB2.out y.now _ (Q10.out.bw (x.bw.trans y.bw)))
      ·exact hK
     refine hoist [] [] (a1 := ?_) 12 rfl (by kernel_rfl) (.inl ⟨rfl, rfl⟩) rfl rfl rfl (fun x K hK => ?_) ?_
     rotate_left
     ·go_big_quiet_op
      exact hK
     refine hoist [] [] (a1 := ?_) 13 rfl (by kernel_rfl) (.inl ⟨rfl, rfl⟩) rfl rfl rfl (fun x K hK => ?_) ?_
     rotate_left
     ·go_big_quiet_op
      exact hK
     refine hoist [] [] (a1 := ?_) 14 rfl (by kernel_rfl) (.inl ⟨rfl, rfl⟩) rfl rfl rfl (fun x K hK => ?_) ?_
     rotate_left
     ·go_big_quiet_op
      exact hK
     refine hoist [] [] (a1 := ?_) 15 rfl (by kernel_rfl) (.inl ⟨rfl, rfl⟩) rfl rfl rfl (fun x K hK => ?_) ?_
     rotate_left
     ·go_big_quiet_op
      exact hK
     refine hoist [] [] (a1 := ?_) 16 rfl (by kernel_rfl) (.inl ⟨rfl, rfl⟩) rfl rfl rfl (fun x K hK => ?_) ?_
     rotate_left
     ·go_big_quiet_op
      exact hK
     refine hoist [] [] (a1 := ?_) 17 rfl (by kernel_rfl) (.inl ⟨rfl, rfl⟩) rfl rfl rfl (fun x K hK => ?_) ?_
     rotate_left
     ·go_big_quiet_op
      exact hK
     refine hoist_skip [] [] 18 rfl (by kernel_rfl) (.inl ⟨rfl, rfl⟩) rfl (a1 := ?_) ?_ ?_
     rotate_left
     ·simp only [Act.put, List.setIfInBounds_toArray, List.set_cons_succ, List.set_cons_zero]; rfl
     refine hoist_skip [] [] 19 rfl (by kernel_rfl) (.inl ⟨rfl, rfl⟩) rfl (a1 := ?_) ?_ ?_
     rotate_left
     ·simp only [Act.put, List.setIfInBounds_toArray, List.set_cons_succ, List.set_cons_zero]; rfl
     refine hoist_skip [] [] 20 rfl (by kernel_rfl) (.inl ⟨rfl, rfl⟩) rfl (a1 := ?_) ?_ ?_
     rotate_left
     ·simp only [Act.put, List.setIfInBounds_toArray, List.set_cons_succ, List.set_cons_zero]; rfl
     refine hoist_skip [] [] 21 rfl (by kernel_rfl) (.inl ⟨rfl, rfl⟩) rfl (a1 := ?_) ?_ ?_
     rotate_left
     ·simp only [Act.put, List.setIfInBounds_toArray, List.set_cons_succ, List.set_cons_zero]; rfl
     refine hoist_skip [] [] 22 rfl (by kernel_rfl) (.inl ⟨rfl, rfl⟩) rfl (a1 := ?_) ?_ ?_
     rotate_left
     ·simp only [Act.put, List.setIfInBounds_toArray, List.set_cons_succ, List.set_cons_zero]; rfl
     refine hoist_skip [] [] 23 rfl (by kernel_rfl) (.inl ⟨rfl, rfl⟩) rfl (a1 := ?_) ?_ ?_
     rotate_left
     ·simp only [Act.put, List.setIfInBounds_toArray, List.set_cons_succ, List.set_cons_zero]; rfl
     refine hoist_skip [] [] 24 rfl (by kernel_rfl) (.inl ⟨rfl, rfl⟩) rfl (a1 := ?_) ?_ ?_
     rotate_left
     ·simp only [Act.put, List.setIfInBounds_toArray, List.set_cons_succ, List.set_cons_zero]; rfl
     refine hoist_skip [] [] 25 rfl (by kernel_rfl) (.inl ⟨rfl, rfl⟩) rfl (a1 := ?_) ?_ ?_
     rotate_left
     ·simp only [Act.put, List.setIfInBounds_toArray, List.set_cons_succ, List.set_cons_zero]; rfl
     refine hoist_skip [] [] 26 rfl (by kernel_rfl) (.inl ⟨rfl, rfl⟩) rfl (a1 := ?_) ?_ ?_
     rotate_left
     ·simp only [Act.put, List.setIfInBounds_toArray, List.set_cons_succ, List.set_cons_zero]; rfl
     refine hoist [] [] (a1 := ?_) 27 rfl (by kernel_rfl) (.inl ⟨rfl, rfl⟩) rfl rfl rfl (fun x K hK => ?_) ?_
     rotate_left
     ·go_big_quiet_op
      exact hK
     refine hoist [] [] (a1 := ?_) 28 rfl (by kernel_rfl) (.inl ⟨rfl, rfl⟩) rfl rfl rfl (fun x K hK => ?_) ?_
     rotate_left
     ·go_big_quiet_op
      exact hK
     refine hoist [] [] (a1 := ?_) 29 rfl (by kernel_rfl) (.inl ⟨rfl, rfl⟩) rfl rfl rfl (fun x K hK => ?_) ?_
     rotate_left
     ·go_big_quiet_op
      exact hK
     refine hoist [] [] (a1 := ?_) 30 rfl (by kernel_rfl) (.inl ⟨rfl, rfl⟩) rfl rfl rfl (fun x K hK => ?_) ?_
     rotate_left
     ·go_big_quiet_op
      exact hK
     refine hoist [] [] (a1 := ?_) 31 rfl (by kernel_rfl) (.inl ⟨rfl, rfl⟩) rfl rfl rfl (fun x K hK => ?_) ?_
     rotate_left
     ·go_big_quiet_op
      exact hK
     refine hoist [] [] (a1 := ?_) 32 rfl (by kernel_rfl) (.inl ⟨rfl, rfl⟩) rfl rfl rfl (fun x K hK => ?_) ?_
     rotate_left
     ·go_big_quiet_op
      exact hK
     refine hoist [] [] (a1 := ?_) 33 rfl (by kernel_rfl) (.inl ⟨rfl, rfl⟩) rfl rfl rfl (fun x K hK => ?_) ?_
     rotate_left
     ·go_big_quiet_op
      exact hK
     refine hoist [] [] (a1 := ?_) 34 rfl (by kernel_rfl) (.inl ⟨rfl, rfl⟩) rfl rfl rfl (fun x K hK => ?_) ?_
     rotate_left
     ·go_big_quiet_op
      exact hK
     refine hoist [] [] (a1 := ?_) 35 rfl (by kernel_rfl) (.inl ⟨rfl, rfl⟩) rfl rfl rfl (fun x K hK => ?_) ?_
     rotate_left
     ·go_big_quiet_op
      exact hK
     refine hoist_skip [] [] 36 rfl (by kernel_rfl) (.inl ⟨rfl, rfl⟩) rfl (a1 := ?_) ?_ ?_
     rotate_left
     ·simp only [Act.put, List.setIfInBounds_toArray, List.set_cons_succ, List.set_cons_zero]; rfl
     refine hoist_skip [] [] 37 rfl (by kernel_rfl) (.inl ⟨rfl, rfl⟩) rfl (a1 := ?_) ?_ ?_
     rotate_left
     ·simp only [Act.put, List.setIfInBounds_toArray, List.set_cons_succ, List.set_cons_zero]; rfl
     refine hoist_skip [] [] 38 rfl (by kernel_rfl) (.inl ⟨rfl, rfl⟩) rfl (a1 := ?_) ?_ ?_
     rotate_left
     ·simp only [Act.put, List.setIfInBounds_toArray, List.set_cons_succ, List.set_cons_zero]; rfl
     refine hoist_skip [] [] 39 rfl (by kernel_rfl) (.inl ⟨rfl, rfl⟩) rfl (a1 := ?_) ?_ ?_
     rotate_left
     ·simp only [Act.put, List.setIfInBounds_toArray, List.set_cons_succ, List.set_cons_zero]; rfl
     refine hoist [] [] (a1 := ?_) 40 rfl (by kernel_rfl) (.inl ⟨rfl, rfl⟩) rfl rfl rfl (fun x K hK => ?_) ?_
     rotate_left
     ·go_big_quiet_op
      exact hK
     refine done (by kernel_rfl) (fun xr => ?_)
     have hNo := hNot.out
     have hB := B.out.trans (BB.out.trans xr.bw)
     go_wp2_with fail
     go_ret
     exact ⟨MayWR.no hNo, hB⟩
   have d5 : decide ((mk : Int) < 1) = false := decide_eq_false (by omega)
   have BB := Lib.hid (BW.refl w1)
   have mt : ∀ y : LaterS [] w1, _ := fun y => y.bw.cell ((hp_cell X.out 0).trans (show _ = some (.int .i64 t) from rfl))
   have mc : ∀ y : LaterS [] w1, _ := fun y => y.bw.cell ((hp_cell X.out 1).trans (show _ = some (.int .i64 c) from rfl))
   have ms : ∀ y : LaterS [] w1, _ := fun y => y.bw.cell ((hp_cell X.out 2).trans (show _ = some (.slice sk mk ck) from rfl))
   refine wp_region_gg [] [] [] (by kernel_rfl) ?_
   refine hoist [] [] (a1 := ?_) 0 rfl (by kernel_rfl) (.inl ⟨rfl, rfl⟩) rfl rfl rfl (fun x K hK => ?_) ?_
   rotate_left
   ·go_big_quiet_op
    exact hK
   refine hoist [] [] (a1 := ?_) 1 rfl (by kernel_rfl) (.inl ⟨rfl, rfl⟩) rfl rfl rfl (fun x K hK => ?_) ?_
   rotate_left
   ·go_big_quiet_op
    exact hK
   refine effect 2 rfl (by kernel_rfl) (by kernel_rfl) rfl (fun x2 K hK => ?_)
   go_simp
   refine hK _ _ (Still.of_below ((Below.refl _ _).alloc (Nat.le_refl _) _)) ?_
   clear hK K
   clear mt mc ms
   have Q2 := Lib.hid (newI1 x2.now t)
   have hb := x2.bw.alloc (o := .cells #[.int .i64 t] 3)
   replace X := Lib.hid (X.out.bw hb)
   replace BB := Lib.hid (BB.out.trans hb)
   generalize x2.now.alloc (.cells #[.int .i64 t] 3) = w2 at *
   generalize x2.now.heap.size = g2 at *
   clear hb
   have mt : ∀ y : LaterS [] w2, _ := fun y => y.bw.cell ((hp_cell X.out 0).trans (show _ = some (.int .i64 t) from rfl))
   have mc : ∀ y : LaterS [] w2, _ := fun y => y.bw.cell ((hp_cell X.out 1).trans (show _ = some (.int .i64 c) from rfl))
   have ms : ∀ y : LaterS [] w2, _ := fun y => y.bw.cell ((hp_cell X.out 2).trans (show _ = some (.slice sk mk ck) from rfl))
   try simp only [Act.put, List.setIfInBounds_toArray, List.set_cons_succ, List.set_cons_zero]
   refine hoist_call [] [] (a1 := ?_) 3 rfl (by kernel_rfl) (.inl ⟨rfl, rfl⟩) rfl rfl rfl (fun x K hK => ?_) ?_
   rotate_left
   ·go_big_quiet_op
    apply Exists.intro
    refine ⟨fun y => ?_, ?_⟩
    ·exact Calls.laterS_of (cB1.out y.now _ (Q2.out.bw (x.bw.trans y.bw)))
    ·exact hK
   refine hoist [] [] (a1 := ?_) 4 rfl (by kernel_rfl) (.inl ⟨rfl, rfl⟩) rfl rfl rfl (fun x K hK => ?_) ?_
   rotate_left
   ·go_big_quiet_op
    exact hK
   refine hoist [] [] (a1 := ?_) 5 rfl (by kernel_rfl) (.inl ⟨rfl, rfl⟩) rfl rfl rfl (fun x K hK => ?_) ?_
   rotate_left
   ·go_big_quiet_op
    exact hK
   refine hoist [] [] (a1 := ?_) 8 rfl (by kernel_rfl) (.inl ⟨rfl, rfl⟩) rfl rfl rfl (fun x K hK => ?_) ?_
   rotate_left
   ·go_big_quiet_op
    exact hK
   refine hoist [] [] (a1 := ?_) 9 rfl (by kernel_rfl) (.inl ⟨rfl, rfl⟩) rfl rfl rfl (fun x K hK => ?_) ?_
   rotate_left
   ·go_big_quiet_op
    exact hK
   refine effect2 6 10 rfl rfl (by kernel_rfl) (by kernel_rfl) (by kernel_rfl) rfl rfl (fun x6 K hK => ?_) (fun x10 K hK => ?_)
   ·skip
    go_simp
    refine Calls.mono (codecs_any x6.now) ?_
    rintro e w6 ⟨g6, rfl, -, -, -, hb6⟩
    refine hK _ _ (hb6.still _) ?_
    clear hK K
    clear mt mc ms
    have hb := x6.bw.trans hb6
    replace X := Lib.hid (X.out.bw hb)
    replace BB := Lib.hid (BB.out.trans hb)
    try replace Q10 := Lib.hid (Q10.out.bw hb)
    clear hb hb6
    have mt : ∀ y : LaterS [] w6, _ := fun y => y.bw.cell ((hp_cell X.out 0).trans (show _ = some (.int .i64 t) from rfl))
    have mc : ∀ y : LaterS [] w6, _ := fun y => y.bw.cell ((hp_cell X.out 1).trans (show _ = some (.int .i64 c) from rfl))
    have ms : ∀ y : LaterS [] w6, _ := fun y => y.bw.cell ((hp_cell X.out 2).trans (show _ = some (.slice sk mk ck) from rfl))
    try simp only [Act.put, List.setIfInBounds_toArray, List.set_cons_succ, List.set_cons_zero]
    refine hoist [] [] (a1 := ?_) 7 rfl (by kernel_rfl) (.inl ⟨rfl, rfl⟩) rfl rfl rfl (fun x K hK => ?_) ?_
    rotate_left
    ·go_big_quiet_op
     exact hK
    refine effect 10 rfl (by kernel_rfl) (by kernel_rfl) rfl (fun x10 K hK => ?_)
    go_simp
    refine hK _ _ (Still.of_below ((Below.refl _ _).alloc (Nat.le_refl _) _)) ?_
    clear hK K
    clear mt mc ms
    have Q10 := Lib.hid (newI1 x10.now c)
    have hb := x10.bw.alloc (o := .cells #[.int .i64 c] 3)
    replace X := Lib.hid (X.out.bw hb)
    replace BB := Lib.hid (BB.out.trans hb)
    generalize x10.now.alloc (.cells #[.int .i64 c] 3) = w10 at *
    generalize x10.now.heap.size = g10 at *
    clear hb
    have mt : ∀ y : LaterS [] w10, _ := fun y => y.bw.cell ((hp_cell X.out 0).trans (show _ = some (.int .i64 t) from rfl))
    have mc : ∀ y : LaterS [] w10, _ := fun y => y.bw.cell ((hp_cell X.out 1).trans (show _ = some (.int .i64 c) from rfl))
    have ms : ∀ y : LaterS [] w10, _ := fun y => y.bw.cell ((hp_cell X.out 2).trans (show _ = some (.slice sk mk ck) from rfl))
    try simp only [Act.put, List.setIfInBounds_toArray, List.set_cons_succ, List.set_cons_zero]
    refine hoist_call [] [] (a1 := ?_) 11 rfl (by kernel_rfl) (.inl ⟨rfl, rfl⟩) rfl rfl rfl (fun x K hK => ?_) ?_
    rotate_left
    ·go_big_quiet_op
     apply Exists.intro
     refine ⟨fun y => ?_, ?_⟩
     ·exact Calls.laterS_of (cB2.out y.now _ (Q10.out.bw (x.bw.trans y.bw)))
     ·exact hK
    refine hoist [] [] (a1 := ?_) 12 rfl (by kernel_rfl) (.inl ⟨rfl, rfl⟩) rfl rfl rfl (fun x K hK => ?_) ?_
    rotate_left
    ·go_big_quiet_op
     exact hK
    refine hoist [] [] (a1 := ?_) 13 rfl (by kernel_rfl) (.inl ⟨rfl, rfl⟩) rfl rfl rfl (fun x K hK => ?_) ?_
    rotate_left
    ·go_big_quiet_op
     exact hK
    refine hoist [] [] (a1 := ?_) 14 rfl (by kernel_rfl) (.inl ⟨rfl, rfl⟩) rfl rfl rfl (fun x K hK => ?_) ?_
    rotate_left
    ·go_big_quiet_op
     exact hK
    refine hoist [] [] (a1 := ?_) 15 rfl (by kernel_rfl) (.inl ⟨rfl, rfl⟩) rfl rfl rfl (fun x K hK => ?_) ?_
    rotate_left
    ·go_big_quiet_op
     exact hK
    refine hoist [] [] (a1 := ?_) 16 rfl (by kernel_rfl) (.inl ⟨rfl, rfl⟩) rfl rfl rfl (fun x K hK => ?_) ?_
    rotate_left
    ·go_big_quiet_op
     exact hK
    refine hoist [] [] (a1 := ?_) 17 rfl (by kernel_rfl) (.inl ⟨rfl, rfl⟩) rfl rfl rfl (fun x K hK => ?_) ?_
    rotate_left
    ·go_big_quiet_op
     exact hK
    refine hoist_skip [] [] 18 rfl (by kernel_rfl) (.inl ⟨rfl, rfl⟩) rfl (a1 := ?_) ?_ ?_
    rotate_left
    ·simp only [Act.put, List.setIfInBounds_toArray, List.set_cons_succ, List.set_cons_zero]; rfl
    refine hoist_skip [] [] 19 rfl (by kernel_rfl) (.inl ⟨rfl, rfl⟩) rfl (a1 := ?_) ?_ ?_
    rotate_left
    ·simp only [Act.put, List.setIfInBounds_toArray, List.set_cons_succ, List.set_cons_zero]; rfl
    refine hoist_skip [] [] 20 rfl (by kernel_rfl) (.inl ⟨rfl, rfl⟩) rfl (a1 := ?_) ?_ ?_
    rotate_left
    ·simp only [Act.put, List.setIfInBounds_toArray, List.set_cons_succ, List.set_cons_zero]; rfl
    refine hoist_skip [] [] 21 rfl (by kernel_rfl) (.inl ⟨rfl, rfl⟩) rfl (a1 := ?_) ?_ ?_
    rotate_left
    ·simp only [Act.put, List.setIfInBounds_toArray, List.set_cons_succ, List.set_cons_zero]; rfl
    refine hoist_skip [] [] 22 rfl (by kernel_rfl) (.inl ⟨rfl, rfl⟩) rfl (a1 := ?_) ?_ ?_
    rotate_left
    ·simp only [Act.put, List.setIfInBounds_toArray, List.set_cons_succ, List.set_cons_zero]; rfl
    refine hoist_skip [] [] 23 rfl (by kernel_rfl) (.inl ⟨rfl, rfl⟩) rfl (a1 := ?_) ?_ ?_
    rotate_left
    ·simp only [Act.put, List.setIfInBounds_toArray, List.set_cons_succ, List.set_cons_zero]; rfl
    refine hoist_skip [] [] 24 rfl (by kernel_rfl) (.inl ⟨rfl, rfl⟩) rfl (a1 := ?_) ?_ ?_
    rotate_left
    ·simp only [Act.put, List.setIfInBounds_toArray, List.set_cons_succ, List.set_cons_zero]; rfl
    refine hoist_skip [] [] 25 rfl (by kernel_rfl) (.inl ⟨rfl, rfl⟩) rfl (a1 := ?_) ?_ ?_
    rotate_left
    ·simp only [Act.put, List.setIfInBounds_toArray, List.set_cons_succ, List.set_cons_zero]; rfl
    refine hoist_skip [] [] 26 rfl (by kernel_rfl) (.inl ⟨rfl, rfl⟩) rfl (a1 := ?_) ?_ ?_
    rotate_left
    ·simp only [Act.put, List.setIfInBounds_toArray, List.set_cons_succ, List.set_cons_zero]; rfl
    refine hoist [] [] (a1 := ?_) 27 rfl (by kernel_rfl) (.inl ⟨rfl, rfl⟩) rfl rfl rfl (fun x K hK => ?_) ?_
    rotate_left
    ·go_big_quiet_op
     exact hK
    refine hoist [] [] (a1 := ?_) 28 rfl (by kernel_rfl) (.inl ⟨rfl, rfl⟩) rfl rfl rfl (fun x K hK => ?_) ?_
    rotate_left
    ·go_big_quiet_op
     exact hK
    refine hoist [] [] (a1 := ?_) 29 rfl (by kernel_rfl) (.inl ⟨rfl, rfl⟩) rfl rfl rfl (fun x K hK => ?_) ?_
    rotate_left
    ·go_big_quiet_op
     exact hK
    refine hoist [] [] (a1 := ?_) 30 rfl (by kernel_rfl) (.inl ⟨rfl, rfl⟩) rfl rfl rfl (fun x K hK => ?_) ?_
    rotate_left
    ·go_big_quiet_op
     exact hK
    refine hoist [] [] (a1 := ?_) 31 rfl (by kernel_rfl) (.inl ⟨rfl, rfl⟩) rfl rfl rfl (fun x K hK => ?_) ?_
    rotate_left
    ·go_big_quiet_op
     exact hK
    refine hoist [] [] (a1 := ?_) 32 rfl (by kernel_rfl) (.inl ⟨rfl, rfl⟩) rfl rfl rfl (fun x K hK => ?_) ?_
    rotate_left
    ·go_big_quiet_op
     exact hK
    refine hoist [] [] (a1 := ?_) 33 rfl (by kernel_rfl) (.inl ⟨rfl, rfl⟩) rfl rfl rfl (fun x K hK => ?_) ?_
    rotate_left
    ·go_big_quiet_op
     exact hK
    refine hoist [] [] (a1 := ?_) 34 rfl (by kernel_rfl) (.inl ⟨rfl, rfl⟩) rfl rfl rfl (fun x K hK => ?_) ?_
    rotate_left
    ·go_big_quiet_op
     exact hK
    refine hoist [] [] (a1 := ?_) 35 rfl (by kernel_rfl) (.inl ⟨rfl, rfl⟩) rfl rfl rfl (fun x K hK => ?_) ?_
    rotate_left
    ·go_big_quiet_op
     exact hK
    refine hoist [] [] (a1 := ?_) 36 rfl (by kernel_rfl) (.inl ⟨rfl, rfl⟩) rfl rfl rfl (fun x K hK => ?_) ?_
    rotate_left
    ·go_big_quiet_op
     exact hK
    refine hoist [] [] (a1 := ?_) 37 rfl (by kernel_rfl) (.inl ⟨rfl, rfl⟩) rfl rfl rfl (fun x K hK => ?_) ?_
    rotate_left
    ·go_big_quiet_op
     exact hK
    refine hoist [] [] (a1 := ?_) 38 rfl (by kernel_rfl) (.inl ⟨rfl, rfl⟩) rfl rfl rfl (fun x K hK => ?_) ?_
    rotate_left
    ·go_big_quiet_op
     exact hK
    refine hoist [] [] (a1 := ?_) 39 rfl (by kernel_rfl) (.inl ⟨rfl, rfl⟩) rfl rfl rfl (fun x K hK => ?_) ?_
    rotate_left
    ·go_big_quiet_op
     exact hK
    refine hoist [] [] (a1 := ?_) 40 rfl (by kernel_rfl) (.inl ⟨rfl, rfl⟩) rfl rfl rfl (fun x K hK => ?_) ?_
    rotate_left
    ·go_big_quiet_op
     exact hK
    refine done (by kernel_rfl) (fun xr => ?_)
    replace X := Lib.hid (X.out.bw xr.bw)
    have hb := BB.out.trans xr.bw
    replace Q := Lib.hid (Q.out.bw hb)
    replace hk := Lib.hid (hk.out.bw hb)
    replace B := Lib.hid (B.out.trans hb)
    clear hb BB cB1 cB2 hprev
    generalize xr.now = w5 at *
    clear xr
    by_cases h6 : 4 < mk
    ·have d6 : decide ((4 : Int) < (mk : Int)) = true := decide_eq_true (by omega)
     have hNo := Lib.hid (not_okW hiL.out (fun h => by have := (hOk2.out.1 h).2.2.2.2; omega))
     clear hOk2 hOk Q hk
     go_wp2_with fail
     go_ret
     exact ⟨MayWR.no hNo.out, B.out⟩
    ·have d6 : decide ((4 : Int) < (mk : Int)) = false := decide_eq_false (by omega)
     have hI := Lib.hid (hOk2.out.2 ⟨h1, h2, hT.out, by omega, by omega⟩)
     have hOk3 : Hid (∀ j, j < i + 1 → OkW L j) := Lib.hid (fun j hj => by
      by_cases e : j < i
      ·exact hOk.out j e
      ·obtain rfl : j = i := by omega
       exact hI.out)
     clear hOk2 hOk hI hT h1 h2
     obtain ⟨hkl, ysk, hkS, hkE⟩ := hk.out
     have hkS := Lib.hid hkS
     have hkE : Hid (EL EU4 w5 base (wi L i).s ysk) := Lib.hid (EL.mono (E := EU4) (w := w5) (w' := w5) (base := 0) (base' := base) (fun _ _ h => h) hkE)
     have hkl := Lib.hid hkl
     have q2 := (hp_cell X.out 2).trans (show _ = some (.slice sk mk ck) from rfl)
     have hbw : Hid (base ≤ w5.heap.size) := Lib.hid (by rw [← hb0.out]; exact B.out.size)
     clear hk
     go_upto_region 8 with (at_builtin; go_must (refine wpList_apEQ slU4 rfl _ _ rfl base (.slice s m cp) m _ rfl Q.out _ rfl mk (wi L i).s ysk hkS.out hkE.out hkl.out (by omega) hbw.out (fun _ _ => trivial) ?_; intro s7 c7 w7 hc7 hm7 E7 T7 B7 G7; unfold maxLen at hm7; replace E7 := Lib.hid E7; replace B := Lib.hid (B.out.step B7 (Nat.le_of_eq hb0.out)); clear B7 G7 T7 Q q2 hkS hkE hbw))
     try simp only [Act.put, List.setIfInBounds_toArray, List.set_cons_succ, List.set_cons_zero]
     have Q7 : Hid (EQ EU4 38 w7 base (.slice s7 (m + mk) c7) (m + mk) (allS (L.take (i + 1)))) := Lib.hid (by rw [allS_take L hiL.out]; exact E7.out)
     clear E7 X
     go_wp2_with fail
     go_roundg (n - (i + 1))
     case measure => omega
     case rel => exact ⟨i + 1, m + mk, c7, s7, rfl, by omega, by push_cast; rfl, rfl, by omega, by omega, Lib.hid (fun h => by omega), Q7, hOk3, B⟩
   ·skip
    go_simp
    refine hK _ _ (Still.of_below ((Below.refl _ _).alloc (Nat.le_refl _) _)) ?_
    clear hK K
    clear mt mc ms
    have Q10 := Lib.hid (newI1 x10.now c)
    have hb := x10.bw.alloc (o := .cells #[.int .i64 c] 3)
    replace X := Lib.hid (X.out.bw hb)
    replace BB := Lib.hid (BB.out.trans hb)
    generalize x10.now.alloc (.cells #[.int .i64 c] 3) = w10 at *
    generalize x10.now.heap.size = g10 at *
    clear hb
    have mt : ∀ y : LaterS [] w10, _ := fun y => y.bw.cell ((hp_cell X.out 0).trans (show _ = some (.int .i64 t) from rfl))
    have mc : ∀ y : LaterS [] w10, _ := fun y => y.bw.cell ((hp_cell X.out 1).trans (show _ = some (.int .i64 c) from rfl))
    have ms : ∀ y : LaterS [] w10, _ := fun y => y.bw.cell ((hp_cell X.out 2).trans (show _ = some (.slice sk mk ck) from rfl))
    try simp only [Act.put, List.setIfInBounds_toArray, List.set_cons_succ, List.set_cons_zero]
    refine effect 6 rfl (by kernel_rfl) (by kernel_rfl) rfl (fun x6 K hK => ?_)
    go_simp
    refine Calls.mono (codecs_any x6.now) ?_
    rintro e w6 ⟨g6, rfl, -, -, -, hb6⟩
    refine hK _ _ (hb6.still _) ?_
    clear hK K
    clear mt mc ms
    have hb := x6.bw.trans hb6
    replace X := Lib.hid (X.out.bw hb)
    replace BB := Lib.hid (BB.out.trans hb)
    try replace Q10 := Lib.hid (Q10.out.bw hb)
    clear hb hb6
    have mt : ∀ y : LaterS [] w6, _ := fun y => y.bw.cell ((hp_cell X.out 0).trans (show _ = some (.int .i64 t) from rfl))
    have mc : ∀ y : LaterS [] w6, _ := fun y => y.bw.cell ((hp_cell X.out 1).trans (show _ = some (.int .i64 c) from rfl))
    have ms : ∀ y : LaterS [] w6, _ := fun y => y.bw.cell ((hp_cell X.out 2).trans (show _ = some (.slice sk mk ck) from rfl))
    try simp only [Act.put, List.setIfInBounds_toArray, List.set_cons_succ, List.set_cons_zero]
    refine hoist [] [] (a1 := ?_) 7 rfl (by kernel_rfl) (.inl ⟨rfl, rfl⟩) rfl rfl rfl (fun x K hK => ?_) ?_
    rotate_left
    ·go_big_quiet_op
     exact hK
    refine hoist_call [] [] (a1 := ?_) 11 rfl (by kernel_rfl) (.inl ⟨rfl, rfl⟩) rfl rfl rfl (fun x K hK => ?_) ?_
    rotate_left
    ·go_big_quiet_op
     apply Exists.intro
     refine ⟨fun y => ?_, ?_⟩
     ·exact Calls.laterS_of (cB2.out y.now _ (Q10.out.bw (x.bw.trans y.bw)))
     ·exact hK
    refine hoist [] [] (a1 := ?_) 12 rfl (by kernel_rfl) (.inl ⟨rfl, rfl⟩) rfl rfl rfl (fun x K hK => ?_) ?_
    rotate_left
    ·go_big_quiet_op
     exact hK
    refine hoist [] [] (a1 := ?_) 13 rfl (by kernel_rfl) (.inl ⟨rfl, rfl⟩) rfl rfl rfl (fun x K hK => ?_) ?_
    rotate_left
    ·go_big_quiet_op
     exact hK
    refine hoist [] [] (a1 := ?_) 14 rfl (by kernel_rfl) (.inl ⟨rfl, rfl⟩) rfl rfl rfl (fun x K hK => ?_) ?_
    rotate_left
    ·go_big_quiet_op
     exact hK
    refine hoist [] [] (a1 := ?_) 15 rfl (by kernel_rfl) (.inl ⟨rfl, rfl⟩) rfl rfl rfl (fun x K hK => ?_) ?_
    rotate_left
    ·go_big_quiet_op
     exact hK
    refine hoist [] [] (a1 := ?_) 16 rfl (by kernel_rfl) (.inl ⟨rfl, rfl⟩) rfl rfl rfl (fun x K hK => ?_) ?_
    rotate_left
    ·go_big_quiet_op
     exact hK
    refine hoist [] [] (a1 := ?_) 17 rfl (by kernel_rfl) (.inl ⟨rfl, rfl⟩) rfl rfl rfl (fun x K hK => ?_) ?_
    rotate_left
    ·go_big_quiet_op
     exact hK
    refine hoist_skip [] [] 18 rfl (by kernel_rfl) (.inl ⟨rfl, rfl⟩) rfl (a1 := ?_) ?_ ?_
    rotate_left
    ·simp only [Act.put, List.setIfInBounds_toArray, List.set_cons_succ, List.set_cons_zero]; rfl
    refine hoist_skip [] [] 19 rfl (by kernel_rfl) (.inl ⟨rfl, rfl⟩) rfl (a1 := ?_) ?_ ?_
    rotate_left
    ·simp only [Act.put, List.setIfInBounds_toArray, List.set_cons_succ, List.set_cons_zero]; rfl
    refine hoist_skip [] [] 20 rfl (by kernel_rfl) (.inl ⟨rfl, rfl⟩) rfl (a1 := ?_) ?_ ?_
    rotate_left
    ·simp only [Act.put, List.setIfInBounds_toArray, List.set_cons_succ, List.set_cons_zero]; rfl
    refine hoist_skip [] [] 21 rfl (by kernel_rfl) (.inl ⟨rfl, rfl⟩) rfl (a1 := ?_) ?_ ?_
    rotate_left
    ·simp only [Act.put, List.setIfInBounds_toArray, List.set_cons_succ, List.set_cons_zero]; rfl
    refine hoist_skip [] [] 22 rfl (by kernel_rfl) (.inl ⟨rfl, rfl⟩) rfl (a1 := ?_) ?_ ?_
    rotate_left
    ·simp only [Act.put, List.setIfInBounds_toArray, List.set_cons_succ, List.set_cons_zero]; rfl
    refine hoist_skip [] [] 23 rfl (by kernel_rfl) (.inl ⟨rfl, rfl⟩) rfl (a1 := ?_) ?_ ?_
    rotate_left
    ·simp only [Act.put, List.setIfInBounds_toArray, List.set_cons_succ, List.set_cons_zero]; rfl
    refine hoist_skip [] [] 24 rfl (by kernel_rfl) (.inl ⟨rfl, rfl⟩) rfl (a1 := ?_) ?_ ?_
    rotate_left
    ·simp only [Act.put, List.setIfInBounds_toArray, List.set_cons_succ, List.set_cons_zero]; rfl
    refine hoist_skip [] [] 25 rfl (by kernel_rfl) (.inl ⟨rfl, rfl⟩) rfl (a1 := ?_) ?_ ?_
    rotate_left
    ·simp only [Act.put, List.setIfInBounds_toArray, List.set_cons_succ, List.set_cons_zero]; rfl
    refine hoist_skip [] [] 26 rfl (by kernel_rfl) (.inl ⟨rfl, rfl⟩) rfl (a1 := ?_) ?_ ?_
    rotate_left
    ·simp only [Act.put, List.setIfInBounds_toArray, List.set_cons_succ, List.set_cons_zero]; rfl
    refine hoist [] [] (a1 := ?_) 27 rfl (by kernel_rfl) (.inl ⟨rfl, rfl⟩) rfl rfl rfl (fun x K hK => ?_) ?_
    rotate_left
    ·go_big_quiet_op
     exact hK
    refine hoist [] [] (a1 := ?_) 28 rfl (by kernel_rfl) (.inl ⟨rfl, rfl⟩) rfl rfl rfl (fun x K hK => ?_) ?_
    rotate_left
    ·go_big_quiet_op
     exact hK
    refine hoist [] [] (a1 := ?_) 29 rfl (by kernel_rfl) (.inl ⟨rfl, rfl⟩) rfl rfl rfl (fun x K hK => ?_) ?_
    rotate_left
    ·go_big_quiet_op
     exact hK
    refine hoist [] [] (a1 := ?_) 30 rfl (by kernel_rfl) (.inl ⟨rfl, rfl⟩) rfl rfl rfl (fun x K hK => ?_) ?_
    rotate_left
    ·go_big_quiet_op
     exact hK
    refine hoist [] [] (a1 := ?_) 31 rfl (by kernel_rfl) (.inl ⟨rfl, rfl⟩) rfl rfl rfl (fun x K hK => ?_) ?_
    rotate_left
    ·go_big_quiet_op
     exact hK
    refine hoist [] [] (a1 := ?_) 32 rfl (by kernel_rfl) (.inl ⟨rfl, rfl⟩) rfl rfl rfl (fun x K hK => ?_) ?_
    rotate_left
    ·go_big_quiet_op
     exact hK
    refine hoist [] [] (a1 := ?_) 33 rfl (by kernel_rfl) (.inl ⟨rfl, rfl⟩) rfl rfl rfl (fun x K hK => ?_) ?_
    rotate_left
    ·go_big_quiet_op
     exact hK
    refine hoist [] [] (a1 := ?_) 34 rfl (by kernel_rfl) (.inl ⟨rfl, rfl⟩) rfl rfl rfl (fun x K hK => ?_) ?_
    rotate_left
    ·go_big_quiet_op
     exact hK
    refine hoist [] [] (a1 := ?_) 35 rfl (by kernel_rfl) (.inl ⟨rfl, rfl⟩) rfl rfl rfl (fun x K hK => ?_) ?_
    rotate_left
    ·go_big_quiet_op
     exact hK
    refine hoist [] [] (a1 := ?_) 36 rfl (by kernel_rfl) (.inl ⟨rfl, rfl⟩) rfl rfl rfl (fun x K hK => ?_) ?_
    rotate_left
    ·go_big_quiet_op
     exact hK
    refine hoist [] [] (a1 := ?_) 37 rfl (by kernel_rfl) (.inl ⟨rfl, rfl⟩) rfl rfl rfl (fun x K hK => ?_) ?_
    rotate_left
    ·go_big_quiet_op
     exact hK
    refine hoist [] [] (a1 := ?_) 38 rfl (by kernel_rfl) (.inl ⟨rfl, rfl⟩) rfl rfl rfl (fun x K hK => ?_) ?_
    rotate_left
    ·go_big_quiet_op
     exact hK
    refine hoist [] [] (a1 := ?_) 39 rfl (by kernel_rfl) (.inl ⟨rfl, rfl⟩) rfl rfl rfl (fun x K hK => ?_) ?_
    rotate_left
    ·go_big_quiet_op
     exact hK
    refine hoist [] [] (a1 := ?_) 40 rfl (by kernel_rfl) (.inl ⟨rfl, rfl⟩) rfl rfl rfl (fun x K hK => ?_) ?_
    rotate_left
    ·go_big_quiet_op
     exact hK
    refine done (by kernel_rfl) (fun xr => ?_)
    replace X := Lib.hid (X.out.bw xr.bw)
    have hb := BB.out.trans xr.bw
    replace Q := Lib.hid (Q.out.bw hb)
    replace hk := Lib.hid (hk.out.bw hb)
    replace B := Lib.hid (B.out.trans hb)
    clear hb BB cB1 cB2 hprev
    generalize xr.now = w5 at *
    clear xr
    by_cases h6 : 4 < mk
    ·have d6 : decide ((4 : Int) < (mk : Int)) = true := decide_eq_true (by omega)
     have hNo := Lib.hid (not_okW hiL.out (fun h => by have := (hOk2.out.1 h).2.2.2.2; omega))
     clear hOk2 hOk Q hk
     go_wp2_with fail
     go_ret
     exact ⟨MayWR.no hNo.out, B.out⟩
    ·have d6 : decide ((4 : Int) < (mk : Int)) = false := decide_eq_false (by omega)
     have hI := Lib.hid (hOk2.out.2 ⟨h1, h2, hT.out, by omega, by omega⟩)
     have hOk3 : Hid (∀ j, j < i + 1 → OkW L j) := Lib.hid (fun j hj => by
      by_cases e : j < i
      ·exact hOk.out j e
      ·obtain rfl : j = i := by omega
       exact hI.out)
     clear hOk2 hOk hI hT h1 h2
     obtain ⟨hkl, ysk, hkS, hkE⟩ := hk.out
     have hkS := Lib.hid hkS
     have hkE : Hid (EL EU4 w5 base (wi L i).s ysk) := Lib.hid (EL.mono (E := EU4) (w := w5) (w' := w5) (base := 0) (base' := base) (fun _ _ h => h) hkE)
     have hkl := Lib.hid hkl
     have q2 := (hp_cell X.out 2).trans (show _ = some (.slice sk mk ck) from rfl)
     have hbw : Hid (base ≤ w5.heap.size) := Lib.hid (by rw [← hb0.out]; exact B.out.size)
     clear hk
     go_upto_region 8 with (at_builtin; go_must (refine wpList_apEQ slU4 rfl _ _ rfl base (.slice s m cp) m _ rfl Q.out _ rfl mk (wi L i).s ysk hkS.out hkE.out hkl.out (by omega) hbw.out (fun _ _ => trivial) ?_; intro s7 c7 w7 hc7 hm7 E7 T7 B7 G7; unfold maxLen at hm7; replace E7 := Lib.hid E7; replace B := Lib.hid (B.out.step B7 (Nat.le_of_eq hb0.out)); clear B7 G7 T7 Q q2 hkS hkE hbw))
     try simp only [Act.put, List.setIfInBounds_toArray, List.set_cons_succ, List.set_cons_zero]
     have Q7 : Hid (EQ EU4 38 w7 base (.slice s7 (m + mk) c7) (m + mk) (allS (L.take (i + 1)))) := Lib.hid (by rw [allS_take L hiL.out]; exact E7.out)
     clear E7 X
     go_wp2_with fail
     go_roundg (n - (i + 1))
     case measure => omega
     case rel => exact ⟨i + 1, m + mk, c7, s7, rfl, by omega, by push_cast; rfl, rfl, by omega, by omega, Lib.hid (fun h => by omega), Q7, hOk3, B⟩
  ·obtain rfl : i = n := by omega
   have dk : decide ((i : Int) < (i : Int)) = false := by simp
   have hall : allS (L.take i) = allS L := by rw [← hln.out, List.take_length]
   rw [hall] at Q
   clear hall
   by_cases h0 : i = 0
   case pos =>
    subst h0
    have hL0 : L = [] := List.eq_nil_of_length_eq_zero hln.out
    subst hL0
    obtain rfl : m = 0 := by omega
    obtain ⟨rfl, rfl⟩ := hz.out rfl
    have hyes : Hid (MayW []) := Lib.hid ⟨fun j hj => absurd hj (Nat.not_lt_zero _), by decide, List.nodup_nil, fun x hx => by cases hx⟩
    clear hz hm
    go_wp2_with fail
    refine Calls.mono (sort0 _) ?_
    rintro e w1 ⟨rfl, hb⟩
    replace B := Lib.hid (B.out.trans hb)
    replace Q := Lib.hid (Q.out.bw hb)
    clear hb
    dsimp only
    go_wp2_with fail
    refine Calls.mono (comp0 _) ?_
    rintro e w2 ⟨rfl, hb⟩
    replace B := Lib.hid (B.out.trans hb)
    replace Q := Lib.hid (Q.out.bw hb)
    clear hb
    dsimp only
    go_wp2_with fail
    refine Calls.mono (hasU base 0 (.slice none 0 0) (allS []) 49 [] (fun x => decide (1048576 ≤ (x : Int))) _ Q.out.sq (by omega) (fun x _ wx _ => src1_any x wx) src1_enter) ?_
    rintro e w3 ⟨rfl, hb⟩
    replace B := Lib.hid (B.out.trans hb)
    rw [show (allS []).any (fun x => decide (1048576 ≤ (x : Int))) = false from rfl]
    clear hb
    dsimp only
    go_wp2_with fail
    go_ret
    exact ⟨⟨_, rfl, by simp [hyes.out]⟩, B.out⟩
   clear hz
   by_cases h2 : i ≤ 2
   case neg =>
    obtain ⟨g, o, cp', hsl, hg, hgl, hcc, hcm2, -⟩ := Q.out.form (by omega)
    cases hsl
    have hno : Hid (¬ MayW L) := Lib.hid (fun h => by have := h.2.1; rw [hln.out] at this; omega)
    have d2 : decide ((i : Int) ≤ 2) = false := decide_eq_false (by omega)
    go_wp2_with fail
    refine Calls.mono (sort_any base g o m cp (by omega) _ ⟨_, Q.out⟩) ?_
    rintro e w1 ⟨rfl, -, ht⟩
    have B1 := Lib.hid (B.out.stP ht (fun k hk => by obtain rfl : k = g := (by simpa using hk); rw [hb0.out]; exact hg))
    clear ht Q
    dsimp only
    go_wp2_with fail
    go_ret
    exact ⟨MayWR.no hno.out, B1.out⟩
   case pos =>
    obtain ⟨g, o, cp', hsl, hg, hgl, hcc, hcm2, -⟩ := Q.out.form (by omega)
    cases hsl
    have d2 : decide ((i : Int) ≤ 2) = true := decide_eq_true (by omega)
    go_wp2_with fail
    refine Calls.mono (sort12_any base g o m cp _ (by omega) _ Q.out) ?_
    rintro e w1 ⟨rfl, ⟨l, hq, hp, hsr⟩, ht⟩
    have B1 := Lib.hid (B.out.stP ht (fun k hk => by obtain rfl : k = g := (by simpa using hk); rw [hb0.out]; exact hg))
    have hll := hq.1
    have Q1 := Lib.hid hq
    have hnd : Hid ((Lib.compactUpTo l.toArray m).length = m ↔ (allS L).Nodup) := Lib.hid (by
     have := comp_nodup l (by rw [hll]; exact hsr)
     rw [hll] at this
     rw [this]; exact hp.nodup_iff)
    have hmem : Hid (∀ x, x ∈ l ↔ x ∈ allS L) := Lib.hid (fun x => hp.mem_iff)
    clear ht Q hq hsr hp B
    dsimp only
    go_wp2_with fail
    refine Calls.mono (compact_any base g o m cp l (by omega) _ Q1.out (by omega)) ?_
    rintro e w2 ⟨mm, rfl, hmm, hme, ht, hbw⟩
    have B2 := Lib.hid (B1.out.stP ht (fun k hk => by obtain rfl : k = g := (by simpa using hk); rw [hb0.out]; exact hg))
    rw [← hme] at hnd
    have hbw := Lib.hid hbw
    clear ht hme
    dsimp only
    by_cases he : mm = m
    case neg =>
     have de : ((mm : Int) == (m : Int)) = false := beq_eq_false_iff_ne.2 (by omega)
     have hno : Hid (¬ MayW L) := Lib.hid (fun h => he (hnd.out.2 h.2.2.1))
     replace he := Lib.hid he
     go_wp2_with fail
     go_ret
     exact ⟨MayWR.no hno.out, B2.out⟩
    case pos =>
     subst he
     have de : ((mm : Int) == (mm : Int)) = true := by simp
     have Q2 := Lib.hid (Q1.out.bw (hbw.out rfl))
     have hn2 := Lib.hid (hnd.out.1 rfl)
     clear hbw hnd Q1
     go_wp2_with fail
     refine Calls.mono (hasU base mm (.slice (some ⟨g, o, none⟩) mm cp) l 49 [] (fun x => decide (1048576 ≤ (x : Int))) _ Q2.out.sq (by omega) (fun x _ wx _ => src1_any x wx) src1_enter) ?_
     rintro e w3 ⟨rfl, hb⟩
     have B3 := Lib.hid (B2.out.trans hb)
     have hfin : Hid ((!(l.any fun x => decide (1048576 ≤ (x : Int)))) = true ↔ MayW L) := Lib.hid (by
      rw [Bool.not_eq_true', List.any_eq_false]
      constructor
      ·intro h
       exact ⟨fun j hj => hOk.out j (by rw [hln.out] at hj; exact hj), by rw [hln.out]; exact h2, hn2.out, fun x hx => by
        have := h x ((hmem.out x).2 hx)
        simp at this
        omega⟩
      ·intro h x hx
       have := h.2.2.2 x ((hmem.out x).1 hx)
       simp
       omega)
     clear hb
     generalize (l.any fun x => decide (1048576 ≤ (x : Int))) = r at *
     dsimp only
     go_wp2_with fail
     go_ret
     exact ⟨⟨_, rfl, hfin.out⟩, B3.out⟩
end Go.Proofs.YtafhnlnhflehhaaGreatDoor
