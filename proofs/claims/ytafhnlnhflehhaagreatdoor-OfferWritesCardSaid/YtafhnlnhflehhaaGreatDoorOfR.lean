/- Which offers may be (printed by wip/gen/genOfR.py). No condition but the sizes'. -/
import Derived.Test.YtafhnlnhflehhaaGreatDoorOfQ
namespace Go.Proofs.YtafhnlnhflehhaaGreatDoor
open Go.RowKit
def MayOR (d : OffD) (e : Ending) : Prop := ∃ b : Bool, e = .returned (.bool b) ∧ (b = true ↔ MayO d)
theorem MayOR.no {d : OffD} (h : ¬ MayO d) : MayOR d (.returned (.bool false)) := ⟨false, rfl, by simp [h]⟩
theorem not_okH {d : OffD} {i : Nat} (h : i < d.H.length) (hn : ¬ OkH d.seat d.H i) : ¬ MayO d := fun hm => hn (hm.2.2.1 i h)
theorem SQ.takeN {α : Type} {E : Elt α} {w : World} {base : Nat} {sa : Option Addr} {n cap : Nat} {l : List α} (h : SQ E w base (.slice sa n cap) n l) (k : Nat) (hk : k ≤ n) : SQ E w base (.slice sa k cap) k (l.take k) := by
 obtain ⟨hl, xs, h1, h2⟩ := h
 obtain ⟨_, _, he, hn, _⟩ := h1.len
 cases he
 have := h1.cut 0 k cap (Nat.zero_le _) hk (by omega) (Nat.le_refl _)
 rw [cutA_zero] at this
 simp only [Nat.sub_zero, Nat.zero_mul, List.drop_zero] at this
 exact ⟨by rw [List.length_take]; omega, _, this, h2.take k⟩
theorem sm_below_o (o t m : Int) : (!([o, t, m].any (notSm 255))) = decide (Sm o ∧ Sm t ∧ Sm m) := by
 unfold notSm Sm
 simp only [List.any_cons, List.any_nil, Bool.or_false, ← Bool.decide_or, ← decide_not]
 exact decide_eq_decide.2 (by omega)
theorem he_form {w : World} {sv : Option Addr} {n cap : Nat} {L : List HearD} (h : SQ EHe w 0 (.slice sv n cap) n L) (h0 : 0 < n) :
  ∃ g o, sv = some ⟨g, o, none⟩ ∧ ∀ i (_ : i < L.length), w.cell? ⟨g, o + i * 3, none⟩ = some (.int .i64 (he L i).o) ∧ w.cell? ⟨g, o + i * 3 + 1, none⟩ = some (.int .i64 (he L i).t) ∧ w.cell? ⟨g, o + i * 3 + 2, none⟩ = some (.int .i64 (he L i).l) := by
 obtain ⟨g, o, cap', hsl, _, _, _, hce⟩ := h.form h0
 simp only [Value.slice.injEq] at hsl
 refine ⟨g, o, hsl.1, fun i hi => ?_⟩
 obtain ⟨c, hc, hcc⟩ := hce i hi
 have hc' : c = heV L[i] := hc
 have z0 := hcc 0 (by decide)
 have z1 := hcc 1 (by decide)
 have z2 := hcc 2 (by decide)
 have e2 : EHe.size = 3 := rfl
 rw [hc', e2] at z0 z1 z2
 rw [he_get hi]
 exact ⟨z0, z1, z2⟩
theorem he_any {L : List HearD} {k : Nat} (hk : k ≤ L.length) {x : HearD} (h : (L.take k).any (twinB x) = true) : ∃ j, j < k ∧ (he L j).o = x.o ∧ (he L j).t = x.t := by
 rw [List.any_eq_true] at h
 obtain ⟨y, hy, hb⟩ := h
 obtain ⟨j, hj, rfl⟩ := List.mem_iff_getElem.1 hy
 rw [List.length_take] at hj
 rw [List.getElem_take] at hb
 unfold twinB at hb
 simp only [Bool.and_eq_true, beq_iff_eq] at hb
 refine ⟨j, by omega, ?_⟩
 rw [he_get (by omega)]
 exact ⟨hb.1.symm, hb.2.symm⟩
theorem he_none {L : List HearD} {k : Nat} (hk : k ≤ L.length) {x : HearD} (h : (L.take k).any (twinB x) = false) : ∀ j, j < k → ¬ ((he L j).o = x.o ∧ (he L j).t = x.t) := by
 intro j hj hh
 rw [List.any_eq_false] at h
 have := h (L[j]'(by omega)) (List.mem_take_iff_getElem.2 ⟨j, by omega, rfl⟩)
 rw [he_get (by omega)] at hh
 unfold twinB at this
 simp [hh.1, hh.2] at this
set_option maxRecDepth 100000 in
set_option maxHeartbeats 8000000 in
theorem may_big (cs : Array Value) (d : OffD) (sW : Option Addr) (cW : Nat) (sH : Option Addr) (cH : Nat) (w : World) (h : OffV w cs d sW cW sH cH) (hW : d.W.length ≤ 100000) (hs : ∀ i, i < d.W.length → (wi d.W i).s.length ≤ 1000000) (hnH : d.H.length ≤ 1000000) :
  Calls Tryz.prog 13 #[.agg cs] w fun e w' => MayOR d e ∧ BW w w' := by
 obtain ⟨rfl, hw, hh⟩ := h
 obtain ⟨seat, W, H⟩ := d
 unfold offC
 dsimp only at hw hh hW hs hnH ⊢
 obtain ⟨_, _, he, hWc, hWm⟩ := hw.len
 cases he
 obtain ⟨_, _, he, hHc, hHm⟩ := hh.len
 cases he
 unfold maxLen at hWm hHm
 obtain ⟨nW, hnW⟩ : ∃ n, W.length = n := ⟨_, rfl⟩
 obtain ⟨nH, hnHe⟩ : ∃ n, H.length = n := ⟨_, rfl⟩
 rw [hnW] at hw hWc hW hs ⊢
 rw [hnHe] at hh hHc hnH ⊢
 have B := (BW.refl w).alloc (o := .cells #[.int .i64 seat, .slice sW nW cW, .slice sH nH cH] 25)
 have X := HpB.new w (.cells #[.int .i64 seat, .slice sW nW cW, .slice sH nH cH] 25)
 have cM := fun wx (hb : BW w wx) => mayw_any sW nW cW W wx (hw.bw hb) hW hs
 have hH := Lib.hid hh
 replace hnW := Lib.hid hnW
 replace hnHe := Lib.hid hnHe
 replace B := Lib.hid B
 replace X := Lib.hid X
 replace cM := Lib.hid cM
 replace hs := Lib.hid hs
 clear hh hw
 go_enter Tryz.func13, Tryz.ntmps13
 go_upto_region 2 with (fail)
 generalize w.alloc _ = w1 at *
 generalize w.heap.size = g at *
 go_loopg [8] nH (fun m' v8 wx => ∃ k : Nat, m' = nH - k ∧ k ≤ nH ∧ v8 = .int .i64 (k : Nat) ∧ Hid (∀ j, j < k → OkH seat H j) ∧ Hid (HpB wx g (.cells #[.int .i64 seat, .slice sW nW cW, .slice sH nH cH] 25)) ∧ Hid (BW w wx))
 case atStart => exact ⟨0, by omega, by omega, rfl, Lib.hid (fun j hj => absurd hj (Nat.not_lt_zero _)), X, B⟩
 case round =>
  clear X B
  obtain ⟨k, rfl, hk, rfl, hOk, X, B⟩ := hrel
  by_cases hkn : k < nH
  ·have dk : decide ((k : Int) < (nH : Int)) = true := by simp; omega
   have hkL : k < H.length := by rw [hnHe.out]; exact hkn
   obtain ⟨gh, oh, rfl, hc⟩ := he_form (hH.out.bw B.out) (by omega)
   obtain ⟨y0, y1, y2⟩ := hc k hkL
   clear hc
   obtain ⟨o, ho⟩ : ∃ x, (he H k).o = x := ⟨_, rfl⟩
   obtain ⟨t, ht⟩ : ∃ x, (he H k).t = x := ⟨_, rfl⟩
   obtain ⟨l, hl⟩ : ∃ x, (he H k).l = x := ⟨_, rfl⟩
   rw [ho] at y0
   rw [ht] at y1
   rw [hl] at y2
   have hOk2 : Hid (OkH seat H k ↔ Sm o ∧ Sm t ∧ (-1 ≤ l ∧ l < 255) ∧ o ≠ seat ∧ ∀ j, j < k → ¬ ((he H j).o = o ∧ (he H j).t = t)) := Lib.hid (by unfold OkH; rw [ho, ht, hl])
   have hNo : Hid (¬ OkH seat H k → ¬ MayO ⟨seat, W, H⟩) := Lib.hid (fun hn => not_okH (d := ⟨seat, W, H⟩) hkL hn)
   replace ho := Lib.hid ho
   replace ht := Lib.hid ht
   replace hl := Lib.hid hl
   replace hkL := Lib.hid hkL
   go_upto_region 3 with (fail)
   rename World => wo
   go_upto_region 4 with (refine wpList_store_new rfl 43 _ _ rfl _ #[.int .i64 o, .int .i64 t, .int .i64 l] _ rfl rfl (by kernel_rfl) rfl rfl ?_)
   have hb := (BW.refl wo).alloc (o := .cells #[.int .i64 o, .int .i64 t, .int .i64 l] 43)
   have Y := Lib.hid (HpB.new wo (.cells #[.int .i64 o, .int .i64 t, .int .i64 l] 43))
   replace X := Lib.hid (X.out.bw hb)
   replace B := Lib.hid (B.out.trans hb)
   clear hb y0 y1 y2
   generalize wo.alloc (.cells #[.int .i64 o, .int .i64 t, .int .i64 l] 43) = w2 at *
   generalize wo.heap.size = gx at *
   clear wo
   have cB1 : Hid (∀ (wx : World) (g : Nat), SQ I1 wx 0 (.slice (some ⟨g, 0, none⟩) 3 3) 3 [o, t, max l 0] → Calls Tryz.prog 27 #[.int .i64 255, .slice (some ⟨g, 0, none⟩) 3 3] wx fun e w' => e = .returned (.bool (decide (Sm o ∧ Sm t ∧ Sm (max l 0)))) ∧ BW wx w') := Lib.hid (fun wx g q => by
    rw [← sm_below_o]
    exact below_any 0 3 _ [o, t, max l 0] 255 wx q (by decide))
   by_cases h1 : Sm o ∧ Sm t ∧ Sm (max l 0)
   case neg =>
    rw [decide_eq_false h1] at cB1
    have hNot := Lib.hid (hNo.out (fun h => h1 (by have := hOk2.out.1 h; exact ⟨this.1, this.2.1, by unfold Sm; omega⟩)))
    clear h1 hOk2 hOk hNo
    have BB := Lib.hid (BW.refl w2)
    have mo : ∀ y : LaterS [] w2, _ := fun y => y.bw.cell ((hp_cell Y.out 0).trans (show _ = some (.int .i64 o) from rfl))
    have mt : ∀ y : LaterS [] w2, _ := fun y => y.bw.cell ((hp_cell Y.out 1).trans (show _ = some (.int .i64 t) from rfl))
    have ml : ∀ y : LaterS [] w2, _ := fun y => y.bw.cell ((hp_cell Y.out 2).trans (show _ = some (.int .i64 l) from rfl))
    have ns : ∀ y : LaterS [] w2, _ := fun y => y.bw.cell ((hp_cell X.out 0).trans (show _ = some (.int .i64 seat) from rfl))
    have nh : ∀ y : LaterS [] w2, _ := fun y => y.bw.cell ((hp_cell X.out 2).trans (show _ = some (.slice (some ⟨gh, oh, none⟩) nH cH) from rfl))
    refine wp_region_gg [] [] [] (by kernel_rfl) ?_
    refine hoist [] [] (a1 := ?_) 0 rfl (by kernel_rfl) (.inl ⟨rfl, rfl⟩) rfl rfl rfl (fun x K hK => ?_) ?_
    rotate_left
    ·go_big_quiet_op
     exact hK
    refine hoist [] [] (a1 := ?_) 1 rfl (by kernel_rfl) (.inl ⟨rfl, rfl⟩) rfl rfl rfl (fun x K hK => ?_) ?_
    rotate_left
    ·go_big_quiet_op
     exact hK
    refine hoist [] [] (a1 := ?_) 2 rfl (by kernel_rfl) (.inl ⟨rfl, rfl⟩) rfl rfl rfl (fun x K hK => ?_) ?_
    rotate_left
    ·go_big_quiet_op
     exact hK
    refine hoist [] [] (a1 := ?_) 3 rfl (by kernel_rfl) (.inl ⟨rfl, rfl⟩) rfl rfl rfl (fun x K hK => ?_) ?_
    rotate_left
    ·go_big_quiet_op
     exact hK
    refine hoist [] [] (a1 := ?_) 4 rfl (by kernel_rfl) (.inl ⟨rfl, rfl⟩) rfl rfl rfl (fun x K hK => ?_) ?_
    rotate_left
    ·go_big_quiet_op
     exact hK
    refine hoist [] [] (a1 := ?_) 5 rfl (by kernel_rfl) (.inl ⟨rfl, rfl⟩) rfl rfl rfl (fun x K hK => ?_) ?_
    rotate_left
    ·go_big_quiet_op
     exact hK
    refine hoist [] [] (a1 := ?_) 6 rfl (by kernel_rfl) (.inl ⟨rfl, rfl⟩) rfl rfl rfl (fun x K hK => ?_) ?_
    rotate_left
    ·go_big_quiet_op
     exact hK
    refine effect 7 rfl (by kernel_rfl) (by kernel_rfl) rfl (fun x7 K hK => ?_)
    go_simp
    refine hK _ _ (Still.of_below ((Below.refl _ _).alloc (Nat.le_refl _) _)) ?_
    clear hK K
    clear mo mt ml ns nh
    have Q7 := Lib.hid (newI3 x7.now o t (max l 0))
    have hb := x7.bw.alloc (o := .cells #[.int .i64 o, .int .i64 t, .int .i64 (max l 0)] 3)
    replace X := Lib.hid (X.out.bw hb)
    replace Y := Lib.hid (Y.out.bw hb)
    replace BB := Lib.hid (BB.out.trans hb)
    generalize x7.now.alloc (.cells #[.int .i64 o, .int .i64 t, .int .i64 (max l 0)] 3) = w7 at *
    generalize x7.now.heap.size = g7 at *
    clear hb
    have mo : ∀ y : LaterS [] w7, _ := fun y => y.bw.cell ((hp_cell Y.out 0).trans (show _ = some (.int .i64 o) from rfl))
    have mt : ∀ y : LaterS [] w7, _ := fun y => y.bw.cell ((hp_cell Y.out 1).trans (show _ = some (.int .i64 t) from rfl))
    have ml : ∀ y : LaterS [] w7, _ := fun y => y.bw.cell ((hp_cell Y.out 2).trans (show _ = some (.int .i64 l) from rfl))
    have ns : ∀ y : LaterS [] w7, _ := fun y => y.bw.cell ((hp_cell X.out 0).trans (show _ = some (.int .i64 seat) from rfl))
    have nh : ∀ y : LaterS [] w7, _ := fun y => y.bw.cell ((hp_cell X.out 2).trans (show _ = some (.slice (some ⟨gh, oh, none⟩) nH cH) from rfl))
    try simp only [Act.put, List.setIfInBounds_toArray, List.set_cons_succ, List.set_cons_zero]
    refine hoist_call [] [] (a1 := ?_) 8 rfl (by kernel_rfl) (.inl ⟨rfl, rfl⟩) rfl rfl rfl (fun x K hK => ?_) ?_
    rotate_left
    ·go_big_quiet_op
     apply Exists.intro
     refine ⟨fun y => ?_, ?_⟩
     ·exact Calls.laterS_of (cB1.out y.now _ (Q7.out.bw (x.bw.trans y.bw)))
     ·exact hK
    refine hoist [] [] (a1 := ?_) 9 rfl (by kernel_rfl) (.inl ⟨rfl, rfl⟩) rfl rfl rfl (fun x K hK => ?_) ?_
    rotate_left
    ·go_big_quiet_op
     exact hK
    refine hoist [] [] (a1 := ?_) 10 rfl (by kernel_rfl) (.inl ⟨rfl, rfl⟩) rfl rfl rfl (fun x K hK => ?_) ?_
    rotate_left
    ·go_big_quiet_op
     exact hK
    refine hoist_skip [] [] 11 rfl (by kernel_rfl) (.inl ⟨rfl, rfl⟩) rfl (a1 := ?_) ?_ ?_
    rotate_left
    ·simp only [Act.put, List.setIfInBounds_toArray, List.set_cons_succ, List.set_cons_zero]; rfl
    refine hoist_skip [] [] 12 rfl (by kernel_rfl) (.inl ⟨rfl, rfl⟩) rfl (a1 := ?_) ?_ ?_
    rotate_left
    ·simp only [Act.put, List.setIfInBounds_toArray, List.set_cons_succ, List.set_cons_zero]; rfl
    refine hoist_skip [] [] 13 rfl (by kernel_rfl) (.inl ⟨rfl, rfl⟩) rfl (a1 := ?_) ?_ ?_
    rotate_left
    ·simp only [Act.put, List.setIfInBounds_toArray, List.set_cons_succ, List.set_cons_zero]; rfl
    refine hoist [] [] (a1 := ?_) 14 rfl (by kernel_rfl) (.inl ⟨rfl, rfl⟩) rfl rfl rfl (fun x K hK => ?_) ?_
    rotate_left
    ·go_big_quiet_op
     exact hK
    refine hoist [] [] (a1 := ?_) 15 rfl (by kernel_rfl) (.inl ⟨rfl, rfl⟩) rfl rfl rfl (fun x K hK => ?_) ?_
    rotate_left
    ·go_big_quiet_op
     exact hK
    refine hoist_skip [] [] 16 rfl (by kernel_rfl) (.inl ⟨rfl, rfl⟩) rfl (a1 := ?_) ?_ ?_
    rotate_left
    ·simp only [Act.put, List.setIfInBounds_toArray, List.set_cons_succ, List.set_cons_zero]; rfl
    refine hoist_skip [] [] 17 rfl (by kernel_rfl) (.inl ⟨rfl, rfl⟩) rfl (a1 := ?_) ?_ ?_
    rotate_left
    ·simp only [Act.put, List.setIfInBounds_toArray, List.set_cons_succ, List.set_cons_zero]; rfl
    refine hoist_skip [] [] 18 rfl (by kernel_rfl) (.inl ⟨rfl, rfl⟩) rfl (a1 := ?_) ?_ ?_
    rotate_left
    ·simp only [Act.put, List.setIfInBounds_toArray, List.set_cons_succ, List.set_cons_zero]; rfl
    refine hoist_skip [] [] 19 rfl (by kernel_rfl) (.inl ⟨rfl, rfl⟩) rfl (a1 := ?_) ?_ ?_
    rotate_left
    ·simp only [Act.put, List.setIfInBounds_toArray, List.set_cons_succ, List.set_cons_zero]; rfl
    refine hoist_skip [] [] 20 rfl (by kernel_rfl) (.inl ⟨rfl, rfl⟩) rfl (a1 := ?_) ?_ ?_
    rotate_left
    ·simp only [Act.put, List.setIfInBounds_toArray, List.set_cons_succ, List.set_cons_zero]; rfl
    refine hoist [] [] (a1 := ?_) 21 rfl (by kernel_rfl) (.inl ⟨rfl, rfl⟩) rfl rfl rfl (fun x K hK => ?_) ?_
    rotate_left
    ·go_big_quiet_op
     exact hK
    refine hoist [] [] (a1 := ?_) 22 rfl (by kernel_rfl) (.inl ⟨rfl, rfl⟩) rfl rfl rfl (fun x K hK => ?_) ?_
    rotate_left
    ·go_big_quiet_op
     exact hK
    refine hoist_skip [] [] 23 rfl (by kernel_rfl) (.inl ⟨rfl, rfl⟩) rfl (a1 := ?_) ?_ ?_
    rotate_left
    ·simp only [Act.put, List.setIfInBounds_toArray, List.set_cons_succ, List.set_cons_zero]; rfl
    refine hoist_skip [] [] 24 rfl (by kernel_rfl) (.inl ⟨rfl, rfl⟩) rfl (a1 := ?_) ?_ ?_
    rotate_left
    ·simp only [Act.put, List.setIfInBounds_toArray, List.set_cons_succ, List.set_cons_zero]; rfl
    refine hoist_skip [] [] 25 rfl (by kernel_rfl) (.inl ⟨rfl, rfl⟩) rfl (a1 := ?_) ?_ ?_
    rotate_left
    ·simp only [Act.put, List.setIfInBounds_toArray, List.set_cons_succ, List.set_cons_zero]; rfl
    refine hoist_skip [] [] 26 rfl (by kernel_rfl) (.inl ⟨rfl, rfl⟩) rfl (a1 := ?_) ?_ ?_
    rotate_left
    ·simp only [Act.put, List.setIfInBounds_toArray, List.set_cons_succ, List.set_cons_zero]; rfl
    refine hoist_skip [] [] 27 rfl (by kernel_rfl) (.inl ⟨rfl, rfl⟩) rfl (a1 := ?_) ?_ ?_
    rotate_left
    ·simp only [Act.put, List.setIfInBounds_toArray, List.set_cons_succ, List.set_cons_zero]; rfl
    refine hoist_skip [] [] 28 rfl (by kernel_rfl) (.inl ⟨rfl, rfl⟩) rfl (a1 := ?_) ?_ ?_
    rotate_left
    ·simp only [Act.put, List.setIfInBounds_toArray, List.set_cons_succ, List.set_cons_zero]; rfl
    refine hoist_skip [] [] 29 rfl (by kernel_rfl) (.inl ⟨rfl, rfl⟩) rfl (a1 := ?_) ?_ ?_
    rotate_left
    ·simp only [Act.put, List.setIfInBounds_toArray, List.set_cons_succ, List.set_cons_zero]; rfl
    refine hoist [] [] (a1 := ?_) 30 rfl (by kernel_rfl) (.inl ⟨rfl, rfl⟩) rfl rfl rfl (fun x K hK => ?_) ?_
    rotate_left
    ·go_big_quiet_op
     exact hK
    refine done (by kernel_rfl) (fun xr => ?_)
    have hB := B.out.trans (BB.out.trans xr.bw)
    go_wp2_with fail
    go_ret
    exact ⟨MayOR.no hNot.out, hB⟩
   rw [decide_eq_true h1] at cB1
   by_cases h2 : l < -1
   case pos =>
    have d2 : decide (l < -1) = true := decide_eq_true h2
    have hNot := Lib.hid (hNo.out (fun h => by have := (hOk2.out.1 h).2.2.1; omega))
    clear h1 hOk2 hOk hNo h2
    have BB := Lib.hid (BW.refl w2)
    have mo : ∀ y : LaterS [] w2, _ := fun y => y.bw.cell ((hp_cell Y.out 0).trans (show _ = some (.int .i64 o) from rfl))
    have mt : ∀ y : LaterS [] w2, _ := fun y => y.bw.cell ((hp_cell Y.out 1).trans (show _ = some (.int .i64 t) from rfl))
    have ml : ∀ y : LaterS [] w2, _ := fun y => y.bw.cell ((hp_cell Y.out 2).trans (show _ = some (.int .i64 l) from rfl))
    have ns : ∀ y : LaterS [] w2, _ := fun y => y.bw.cell ((hp_cell X.out 0).trans (show _ = some (.int .i64 seat) from rfl))
    have nh : ∀ y : LaterS [] w2, _ := fun y => y.bw.cell ((hp_cell X.out 2).trans (show _ = some (.slice (some ⟨gh, oh, none⟩) nH cH) from rfl))
    refine wp_region_gg [] [] [] (by kernel_rfl) ?_
    refine hoist [] [] (a1 := ?_) 0 rfl (by kernel_rfl) (.inl ⟨rfl, rfl⟩) rfl rfl rfl (fun x K hK => ?_) ?_
    rotate_left
    ·go_big_quiet_op
     exact hK
    refine hoist [] [] (a1 := ?_) 1 rfl (by kernel_rfl) (.inl ⟨rfl, rfl⟩) rfl rfl rfl (fun x K hK => ?_) ?_
    rotate_left
    ·go_big_quiet_op
     exact hK
    refine hoist [] [] (a1 := ?_) 2 rfl (by kernel_rfl) (.inl ⟨rfl, rfl⟩) rfl rfl rfl (fun x K hK => ?_) ?_
    rotate_left
    ·go_big_quiet_op
     exact hK
    refine hoist [] [] (a1 := ?_) 3 rfl (by kernel_rfl) (.inl ⟨rfl, rfl⟩) rfl rfl rfl (fun x K hK => ?_) ?_
    rotate_left
    ·go_big_quiet_op
     exact hK
    refine hoist [] [] (a1 := ?_) 4 rfl (by kernel_rfl) (.inl ⟨rfl, rfl⟩) rfl rfl rfl (fun x K hK => ?_) ?_
    rotate_left
    ·go_big_quiet_op
     exact hK
    refine hoist [] [] (a1 := ?_) 5 rfl (by kernel_rfl) (.inl ⟨rfl, rfl⟩) rfl rfl rfl (fun x K hK => ?_) ?_
    rotate_left
    ·go_big_quiet_op
     exact hK
    refine hoist [] [] (a1 := ?_) 6 rfl (by kernel_rfl) (.inl ⟨rfl, rfl⟩) rfl rfl rfl (fun x K hK => ?_) ?_
    rotate_left
    ·go_big_quiet_op
     exact hK
    refine effect 7 rfl (by kernel_rfl) (by kernel_rfl) rfl (fun x7 K hK => ?_)
    go_simp
    refine hK _ _ (Still.of_below ((Below.refl _ _).alloc (Nat.le_refl _) _)) ?_
    clear hK K
    clear mo mt ml ns nh
    have Q7 := Lib.hid (newI3 x7.now o t (max l 0))
    have hb := x7.bw.alloc (o := .cells #[.int .i64 o, .int .i64 t, .int .i64 (max l 0)] 3)
    replace X := Lib.hid (X.out.bw hb)
    replace Y := Lib.hid (Y.out.bw hb)
    replace BB := Lib.hid (BB.out.trans hb)
    generalize x7.now.alloc (.cells #[.int .i64 o, .int .i64 t, .int .i64 (max l 0)] 3) = w7 at *
    generalize x7.now.heap.size = g7 at *
    clear hb
    have mo : ∀ y : LaterS [] w7, _ := fun y => y.bw.cell ((hp_cell Y.out 0).trans (show _ = some (.int .i64 o) from rfl))
    have mt : ∀ y : LaterS [] w7, _ := fun y => y.bw.cell ((hp_cell Y.out 1).trans (show _ = some (.int .i64 t) from rfl))
    have ml : ∀ y : LaterS [] w7, _ := fun y => y.bw.cell ((hp_cell Y.out 2).trans (show _ = some (.int .i64 l) from rfl))
    have ns : ∀ y : LaterS [] w7, _ := fun y => y.bw.cell ((hp_cell X.out 0).trans (show _ = some (.int .i64 seat) from rfl))
    have nh : ∀ y : LaterS [] w7, _ := fun y => y.bw.cell ((hp_cell X.out 2).trans (show _ = some (.slice (some ⟨gh, oh, none⟩) nH cH) from rfl))
    try simp only [Act.put, List.setIfInBounds_toArray, List.set_cons_succ, List.set_cons_zero]
    refine hoist_call [] [] (a1 := ?_) 8 rfl (by kernel_rfl) (.inl ⟨rfl, rfl⟩) rfl rfl rfl (fun x K hK => ?_) ?_
    rotate_left
    ·go_big_quiet_op
     apply Exists.intro
     refine ⟨fun y => ?_, ?_⟩
     ·exact Calls.laterS_of (cB1.out y.now _ (Q7.out.bw (x.bw.trans y.bw)))
     ·exact hK
    refine hoist [] [] (a1 := ?_) 9 rfl (by kernel_rfl) (.inl ⟨rfl, rfl⟩) rfl rfl rfl (fun x K hK => ?_) ?_
    rotate_left
    ·go_big_quiet_op
     exact hK
    refine hoist [] [] (a1 := ?_) 10 rfl (by kernel_rfl) (.inl ⟨rfl, rfl⟩) rfl rfl rfl (fun x K hK => ?_) ?_
    rotate_left
    ·go_big_quiet_op
     exact hK
    refine hoist [] [] (a1 := ?_) 11 rfl (by kernel_rfl) (.inl ⟨rfl, rfl⟩) rfl rfl rfl (fun x K hK => ?_) ?_
    rotate_left
    ·go_big_quiet_op
     exact hK
    refine hoist [] [] (a1 := ?_) 12 rfl (by kernel_rfl) (.inl ⟨rfl, rfl⟩) rfl rfl rfl (fun x K hK => ?_) ?_
    rotate_left
    ·go_big_quiet_op
     exact hK
    refine hoist [] [] (a1 := ?_) 13 rfl (by kernel_rfl) (.inl ⟨rfl, rfl⟩) rfl rfl rfl (fun x K hK => ?_) ?_
    rotate_left
    ·go_big_quiet_op
     exact hK
    refine hoist [] [] (a1 := ?_) 14 rfl (by kernel_rfl) (.inl ⟨rfl, rfl⟩) rfl rfl rfl (fun x K hK => ?_) ?_
    rotate_left
    ·go_big_quiet_op
     exact hK
    refine hoist [] [] (a1 := ?_) 15 rfl (by kernel_rfl) (.inl ⟨rfl, rfl⟩) rfl rfl rfl (fun x K hK => ?_) ?_
    rotate_left
    ·go_big_quiet_op
     exact hK
    refine hoist_skip [] [] 16 rfl (by kernel_rfl) (.inl ⟨rfl, rfl⟩) rfl (a1 := ?_) ?_ ?_
    rotate_left
    ·simp only [Act.put, List.setIfInBounds_toArray, List.set_cons_succ, List.set_cons_zero]; rfl
    refine hoist_skip [] [] 17 rfl (by kernel_rfl) (.inl ⟨rfl, rfl⟩) rfl (a1 := ?_) ?_ ?_
    rotate_left
    ·simp only [Act.put, List.setIfInBounds_toArray, List.set_cons_succ, List.set_cons_zero]; rfl
    refine hoist_skip [] [] 18 rfl (by kernel_rfl) (.inl ⟨rfl, rfl⟩) rfl (a1 := ?_) ?_ ?_
    rotate_left
    ·simp only [Act.put, List.setIfInBounds_toArray, List.set_cons_succ, List.set_cons_zero]; rfl
    refine hoist_skip [] [] 19 rfl (by kernel_rfl) (.inl ⟨rfl, rfl⟩) rfl (a1 := ?_) ?_ ?_
    rotate_left
    ·simp only [Act.put, List.setIfInBounds_toArray, List.set_cons_succ, List.set_cons_zero]; rfl
    refine hoist_skip [] [] 20 rfl (by kernel_rfl) (.inl ⟨rfl, rfl⟩) rfl (a1 := ?_) ?_ ?_
    rotate_left
    ·simp only [Act.put, List.setIfInBounds_toArray, List.set_cons_succ, List.set_cons_zero]; rfl
    refine hoist [] [] (a1 := ?_) 21 rfl (by kernel_rfl) (.inl ⟨rfl, rfl⟩) rfl rfl rfl (fun x K hK => ?_) ?_
    rotate_left
    ·go_big_quiet_op
     exact hK
    refine hoist [] [] (a1 := ?_) 22 rfl (by kernel_rfl) (.inl ⟨rfl, rfl⟩) rfl rfl rfl (fun x K hK => ?_) ?_
    rotate_left
    ·go_big_quiet_op
     exact hK
    refine hoist_skip [] [] 23 rfl (by kernel_rfl) (.inl ⟨rfl, rfl⟩) rfl (a1 := ?_) ?_ ?_
    rotate_left
    ·simp only [Act.put, List.setIfInBounds_toArray, List.set_cons_succ, List.set_cons_zero]; rfl
    refine hoist_skip [] [] 24 rfl (by kernel_rfl) (.inl ⟨rfl, rfl⟩) rfl (a1 := ?_) ?_ ?_
    rotate_left
    ·simp only [Act.put, List.setIfInBounds_toArray, List.set_cons_succ, List.set_cons_zero]; rfl
    refine hoist_skip [] [] 25 rfl (by kernel_rfl) (.inl ⟨rfl, rfl⟩) rfl (a1 := ?_) ?_ ?_
    rotate_left
    ·simp only [Act.put, List.setIfInBounds_toArray, List.set_cons_succ, List.set_cons_zero]; rfl
    refine hoist_skip [] [] 26 rfl (by kernel_rfl) (.inl ⟨rfl, rfl⟩) rfl (a1 := ?_) ?_ ?_
    rotate_left
    ·simp only [Act.put, List.setIfInBounds_toArray, List.set_cons_succ, List.set_cons_zero]; rfl
    refine hoist_skip [] [] 27 rfl (by kernel_rfl) (.inl ⟨rfl, rfl⟩) rfl (a1 := ?_) ?_ ?_
    rotate_left
    ·simp only [Act.put, List.setIfInBounds_toArray, List.set_cons_succ, List.set_cons_zero]; rfl
    refine hoist_skip [] [] 28 rfl (by kernel_rfl) (.inl ⟨rfl, rfl⟩) rfl (a1 := ?_) ?_ ?_
    rotate_left
    ·simp only [Act.put, List.setIfInBounds_toArray, List.set_cons_succ, List.set_cons_zero]; rfl
    refine hoist_skip [] [] 29 rfl (by kernel_rfl) (.inl ⟨rfl, rfl⟩) rfl (a1 := ?_) ?_ ?_
    rotate_left
    ·simp only [Act.put, List.setIfInBounds_toArray, List.set_cons_succ, List.set_cons_zero]; rfl
    refine hoist [] [] (a1 := ?_) 30 rfl (by kernel_rfl) (.inl ⟨rfl, rfl⟩) rfl rfl rfl (fun x K hK => ?_) ?_
    rotate_left
    ·go_big_quiet_op
     exact hK
    refine done (by kernel_rfl) (fun xr => ?_)
    have hB := B.out.trans (BB.out.trans xr.bw)
    go_wp2_with fail
    go_ret
    exact ⟨MayOR.no hNot.out, hB⟩
   have d2 : decide (l < -1) = false := decide_eq_false h2
   by_cases h3 : o = seat
   case pos =>
    have d3 : (o == seat) = true := beq_iff_eq.2 h3
    have hNot := Lib.hid (hNo.out (fun h => (hOk2.out.1 h).2.2.2.1 h3))
    clear h1 hOk2 hOk hNo h2 h3
    have BB := Lib.hid (BW.refl w2)
    have mo : ∀ y : LaterS [] w2, _ := fun y => y.bw.cell ((hp_cell Y.out 0).trans (show _ = some (.int .i64 o) from rfl))
    have mt : ∀ y : LaterS [] w2, _ := fun y => y.bw.cell ((hp_cell Y.out 1).trans (show _ = some (.int .i64 t) from rfl))
    have ml : ∀ y : LaterS [] w2, _ := fun y => y.bw.cell ((hp_cell Y.out 2).trans (show _ = some (.int .i64 l) from rfl))
    have ns : ∀ y : LaterS [] w2, _ := fun y => y.bw.cell ((hp_cell X.out 0).trans (show _ = some (.int .i64 seat) from rfl))
    have nh : ∀ y : LaterS [] w2, _ := fun y => y.bw.cell ((hp_cell X.out 2).trans (show _ = some (.slice (some ⟨gh, oh, none⟩) nH cH) from rfl))
    refine wp_region_gg [] [] [] (by kernel_rfl) ?_
    refine hoist [] [] (a1 := ?_) 0 rfl (by kernel_rfl) (.inl ⟨rfl, rfl⟩) rfl rfl rfl (fun x K hK => ?_) ?_
    rotate_left
    ·go_big_quiet_op
     exact hK
    refine hoist [] [] (a1 := ?_) 1 rfl (by kernel_rfl) (.inl ⟨rfl, rfl⟩) rfl rfl rfl (fun x K hK => ?_) ?_
    rotate_left
    ·go_big_quiet_op
     exact hK
    refine hoist [] [] (a1 := ?_) 2 rfl (by kernel_rfl) (.inl ⟨rfl, rfl⟩) rfl rfl rfl (fun x K hK => ?_) ?_
    rotate_left
    ·go_big_quiet_op
     exact hK
    refine hoist [] [] (a1 := ?_) 3 rfl (by kernel_rfl) (.inl ⟨rfl, rfl⟩) rfl rfl rfl (fun x K hK => ?_) ?_
    rotate_left
    ·go_big_quiet_op
     exact hK
    refine hoist [] [] (a1 := ?_) 4 rfl (by kernel_rfl) (.inl ⟨rfl, rfl⟩) rfl rfl rfl (fun x K hK => ?_) ?_
    rotate_left
    ·go_big_quiet_op
     exact hK
    refine hoist [] [] (a1 := ?_) 5 rfl (by kernel_rfl) (.inl ⟨rfl, rfl⟩) rfl rfl rfl (fun x K hK => ?_) ?_
    rotate_left
    ·go_big_quiet_op
     exact hK
    refine hoist [] [] (a1 := ?_) 6 rfl (by kernel_rfl) (.inl ⟨rfl, rfl⟩) rfl rfl rfl (fun x K hK => ?_) ?_
    rotate_left
    ·go_big_quiet_op
     exact hK
    refine effect 7 rfl (by kernel_rfl) (by kernel_rfl) rfl (fun x7 K hK => ?_)
    go_simp
    refine hK _ _ (Still.of_below ((Below.refl _ _).alloc (Nat.le_refl _) _)) ?_
    clear hK K
    clear mo mt ml ns nh
    have Q7 := Lib.hid (newI3 x7.now o t (max l 0))
    have hb := x7.bw.alloc (o := .cells #[.int .i64 o, .int .i64 t, .int .i64 (max l 0)] 3)
    replace X := Lib.hid (X.out.bw hb)
    replace Y := Lib.hid (Y.out.bw hb)
    replace BB := Lib.hid (BB.out.trans hb)
    generalize x7.now.alloc (.cells #[.int .i64 o, .int .i64 t, .int .i64 (max l 0)] 3) = w7 at *
    generalize x7.now.heap.size = g7 at *
    clear hb
    have mo : ∀ y : LaterS [] w7, _ := fun y => y.bw.cell ((hp_cell Y.out 0).trans (show _ = some (.int .i64 o) from rfl))
    have mt : ∀ y : LaterS [] w7, _ := fun y => y.bw.cell ((hp_cell Y.out 1).trans (show _ = some (.int .i64 t) from rfl))
    have ml : ∀ y : LaterS [] w7, _ := fun y => y.bw.cell ((hp_cell Y.out 2).trans (show _ = some (.int .i64 l) from rfl))
    have ns : ∀ y : LaterS [] w7, _ := fun y => y.bw.cell ((hp_cell X.out 0).trans (show _ = some (.int .i64 seat) from rfl))
    have nh : ∀ y : LaterS [] w7, _ := fun y => y.bw.cell ((hp_cell X.out 2).trans (show _ = some (.slice (some ⟨gh, oh, none⟩) nH cH) from rfl))
    try simp only [Act.put, List.setIfInBounds_toArray, List.set_cons_succ, List.set_cons_zero]
    refine hoist_call [] [] (a1 := ?_) 8 rfl (by kernel_rfl) (.inl ⟨rfl, rfl⟩) rfl rfl rfl (fun x K hK => ?_) ?_
    rotate_left
    ·go_big_quiet_op
     apply Exists.intro
     refine ⟨fun y => ?_, ?_⟩
     ·exact Calls.laterS_of (cB1.out y.now _ (Q7.out.bw (x.bw.trans y.bw)))
     ·exact hK
    refine hoist [] [] (a1 := ?_) 9 rfl (by kernel_rfl) (.inl ⟨rfl, rfl⟩) rfl rfl rfl (fun x K hK => ?_) ?_
    rotate_left
    ·go_big_quiet_op
     exact hK
    refine hoist [] [] (a1 := ?_) 10 rfl (by kernel_rfl) (.inl ⟨rfl, rfl⟩) rfl rfl rfl (fun x K hK => ?_) ?_
    rotate_left
    ·go_big_quiet_op
     exact hK
    refine hoist [] [] (a1 := ?_) 11 rfl (by kernel_rfl) (.inl ⟨rfl, rfl⟩) rfl rfl rfl (fun x K hK => ?_) ?_
    rotate_left
    ·go_big_quiet_op
     exact hK
    refine hoist [] [] (a1 := ?_) 12 rfl (by kernel_rfl) (.inl ⟨rfl, rfl⟩) rfl rfl rfl (fun x K hK => ?_) ?_
    rotate_left
    ·go_big_quiet_op
     exact hK
    refine hoist [] [] (a1 := ?_) 13 rfl (by kernel_rfl) (.inl ⟨rfl, rfl⟩) rfl rfl rfl (fun x K hK => ?_) ?_
    rotate_left
    ·go_big_quiet_op
     exact hK
    refine hoist [] [] (a1 := ?_) 14 rfl (by kernel_rfl) (.inl ⟨rfl, rfl⟩) rfl rfl rfl (fun x K hK => ?_) ?_
    rotate_left
    ·go_big_quiet_op
     exact hK
    refine hoist [] [] (a1 := ?_) 15 rfl (by kernel_rfl) (.inl ⟨rfl, rfl⟩) rfl rfl rfl (fun x K hK => ?_) ?_
    rotate_left
    ·go_big_quiet_op
     exact hK
    refine hoist [] [] (a1 := ?_) 16 rfl (by kernel_rfl) (.inl ⟨rfl, rfl⟩) rfl rfl rfl (fun x K hK => ?_) ?_
    rotate_left
    ·go_big_quiet_op
     exact hK
    refine hoist [] [] (a1 := ?_) 17 rfl (by kernel_rfl) (.inl ⟨rfl, rfl⟩) rfl rfl rfl (fun x K hK => ?_) ?_
    rotate_left
    ·go_big_quiet_op
     exact hK
    refine hoist [] [] (a1 := ?_) 18 rfl (by kernel_rfl) (.inl ⟨rfl, rfl⟩) rfl rfl rfl (fun x K hK => ?_) ?_
    rotate_left
    ·go_big_quiet_op
     exact hK
    refine hoist [] [] (a1 := ?_) 19 rfl (by kernel_rfl) (.inl ⟨rfl, rfl⟩) rfl rfl rfl (fun x K hK => ?_) ?_
    rotate_left
    ·go_big_quiet_op
     exact hK
    refine hoist [] [] (a1 := ?_) 20 rfl (by kernel_rfl) (.inl ⟨rfl, rfl⟩) rfl rfl rfl (fun x K hK => ?_) ?_
    rotate_left
    ·go_big_quiet_op
     exact hK
    refine hoist [] [] (a1 := ?_) 21 rfl (by kernel_rfl) (.inl ⟨rfl, rfl⟩) rfl rfl rfl (fun x K hK => ?_) ?_
    rotate_left
    ·go_big_quiet_op
     exact hK
    refine hoist [] [] (a1 := ?_) 22 rfl (by kernel_rfl) (.inl ⟨rfl, rfl⟩) rfl rfl rfl (fun x K hK => ?_) ?_
    rotate_left
    ·go_big_quiet_op
     exact hK
    refine hoist_skip [] [] 23 rfl (by kernel_rfl) (.inl ⟨rfl, rfl⟩) rfl (a1 := ?_) ?_ ?_
    rotate_left
    ·simp only [Act.put, List.setIfInBounds_toArray, List.set_cons_succ, List.set_cons_zero]; rfl
    refine hoist_skip [] [] 24 rfl (by kernel_rfl) (.inl ⟨rfl, rfl⟩) rfl (a1 := ?_) ?_ ?_
    rotate_left
    ·simp only [Act.put, List.setIfInBounds_toArray, List.set_cons_succ, List.set_cons_zero]; rfl
    refine hoist_skip [] [] 25 rfl (by kernel_rfl) (.inl ⟨rfl, rfl⟩) rfl (a1 := ?_) ?_ ?_
    rotate_left
    ·simp only [Act.put, List.setIfInBounds_toArray, List.set_cons_succ, List.set_cons_zero]; rfl
    refine hoist_skip [] [] 26 rfl (by kernel_rfl) (.inl ⟨rfl, rfl⟩) rfl (a1 := ?_) ?_ ?_
    rotate_left
    ·simp only [Act.put, List.setIfInBounds_toArray, List.set_cons_succ, List.set_cons_zero]; rfl
    refine hoist_skip [] [] 27 rfl (by kernel_rfl) (.inl ⟨rfl, rfl⟩) rfl (a1 := ?_) ?_ ?_
    rotate_left
    ·simp only [Act.put, List.setIfInBounds_toArray, List.set_cons_succ, List.set_cons_zero]; rfl
    refine hoist_skip [] [] 28 rfl (by kernel_rfl) (.inl ⟨rfl, rfl⟩) rfl (a1 := ?_) ?_ ?_
    rotate_left
    ·simp only [Act.put, List.setIfInBounds_toArray, List.set_cons_succ, List.set_cons_zero]; rfl
    refine hoist_skip [] [] 29 rfl (by kernel_rfl) (.inl ⟨rfl, rfl⟩) rfl (a1 := ?_) ?_ ?_
    rotate_left
    ·simp only [Act.put, List.setIfInBounds_toArray, List.set_cons_succ, List.set_cons_zero]; rfl
    refine hoist [] [] (a1 := ?_) 30 rfl (by kernel_rfl) (.inl ⟨rfl, rfl⟩) rfl rfl rfl (fun x K hK => ?_) ?_
    rotate_left
    ·go_big_quiet_op
     exact hK
    refine done (by kernel_rfl) (fun xr => ?_)
    have hB := B.out.trans (BB.out.trans xr.bw)
    go_wp2_with fail
    go_ret
    exact ⟨MayOR.no hNot.out, hB⟩
   have d3 : (o == seat) = false := beq_eq_false_iff_ne.2 h3
   obtain ⟨rr, hrr⟩ : ∃ r, (H.take k).any (twinB ⟨o, t, l⟩) = r := ⟨_, rfl⟩
   replace hrr := Lib.hid hrr
   replace h1 := Lib.hid h1
   replace h2 := Lib.hid h2
   replace h3 := Lib.hid h3
   have BB := Lib.hid (BW.refl w2)
   have mo : ∀ y : LaterS [] w2, _ := fun y => y.bw.cell ((hp_cell Y.out 0).trans (show _ = some (.int .i64 o) from rfl))
   have mt : ∀ y : LaterS [] w2, _ := fun y => y.bw.cell ((hp_cell Y.out 1).trans (show _ = some (.int .i64 t) from rfl))
   have ml : ∀ y : LaterS [] w2, _ := fun y => y.bw.cell ((hp_cell Y.out 2).trans (show _ = some (.int .i64 l) from rfl))
   have ns : ∀ y : LaterS [] w2, _ := fun y => y.bw.cell ((hp_cell X.out 0).trans (show _ = some (.int .i64 seat) from rfl))
   have nh : ∀ y : LaterS [] w2, _ := fun y => y.bw.cell ((hp_cell X.out 2).trans (show _ = some (.slice (some ⟨gh, oh, none⟩) nH cH) from rfl))
   refine wp_region_gg [] [] [] (by kernel_rfl) ?_
   refine hoist [] [] (a1 := ?_) 0 rfl (by kernel_rfl) (.inl ⟨rfl, rfl⟩) rfl rfl rfl (fun x K hK => ?_) ?_
   rotate_left
   ·go_big_quiet_op
    exact hK
   refine hoist [] [] (a1 := ?_) 1 rfl (by kernel_rfl) (.inl ⟨rfl, rfl⟩) rfl rfl rfl (fun x K hK => ?_) ?_
   rotate_left
   ·go_big_quiet_op
    exact hK
   refine hoist [] [] (a1 := ?_) 2 rfl (by kernel_rfl) (.inl ⟨rfl, rfl⟩) rfl rfl rfl (fun x K hK => ?_) ?_
   rotate_left
   ·go_big_quiet_op
    exact hK
   refine hoist [] [] (a1 := ?_) 3 rfl (by kernel_rfl) (.inl ⟨rfl, rfl⟩) rfl rfl rfl (fun x K hK => ?_) ?_
   rotate_left
   ·go_big_quiet_op
    exact hK
   refine hoist [] [] (a1 := ?_) 4 rfl (by kernel_rfl) (.inl ⟨rfl, rfl⟩) rfl rfl rfl (fun x K hK => ?_) ?_
   rotate_left
   ·go_big_quiet_op
    exact hK
   refine hoist [] [] (a1 := ?_) 5 rfl (by kernel_rfl) (.inl ⟨rfl, rfl⟩) rfl rfl rfl (fun x K hK => ?_) ?_
   rotate_left
   ·go_big_quiet_op
    exact hK
   refine hoist [] [] (a1 := ?_) 6 rfl (by kernel_rfl) (.inl ⟨rfl, rfl⟩) rfl rfl rfl (fun x K hK => ?_) ?_
   rotate_left
   ·go_big_quiet_op
    exact hK
   refine effect 7 rfl (by kernel_rfl) (by kernel_rfl) rfl (fun x7 K hK => ?_)
   go_simp
   refine hK _ _ (Still.of_below ((Below.refl _ _).alloc (Nat.le_refl _) _)) ?_
   clear hK K
   clear mo mt ml ns nh
   have Q7 := Lib.hid (newI3 x7.now o t (max l 0))
   have hb := x7.bw.alloc (o := .cells #[.int .i64 o, .int .i64 t, .int .i64 (max l 0)] 3)
   replace X := Lib.hid (X.out.bw hb)
   replace Y := Lib.hid (Y.out.bw hb)
   replace BB := Lib.hid (BB.out.trans hb)
   generalize x7.now.alloc (.cells #[.int .i64 o, .int .i64 t, .int .i64 (max l 0)] 3) = w7 at *
   generalize x7.now.heap.size = g7 at *
   clear hb
   have mo : ∀ y : LaterS [] w7, _ := fun y => y.bw.cell ((hp_cell Y.out 0).trans (show _ = some (.int .i64 o) from rfl))
   have mt : ∀ y : LaterS [] w7, _ := fun y => y.bw.cell ((hp_cell Y.out 1).trans (show _ = some (.int .i64 t) from rfl))
   have ml : ∀ y : LaterS [] w7, _ := fun y => y.bw.cell ((hp_cell Y.out 2).trans (show _ = some (.int .i64 l) from rfl))
   have ns : ∀ y : LaterS [] w7, _ := fun y => y.bw.cell ((hp_cell X.out 0).trans (show _ = some (.int .i64 seat) from rfl))
   have nh : ∀ y : LaterS [] w7, _ := fun y => y.bw.cell ((hp_cell X.out 2).trans (show _ = some (.slice (some ⟨gh, oh, none⟩) nH cH) from rfl))
   try simp only [Act.put, List.setIfInBounds_toArray, List.set_cons_succ, List.set_cons_zero]
   refine hoist_call [] [] (a1 := ?_) 8 rfl (by kernel_rfl) (.inl ⟨rfl, rfl⟩) rfl rfl rfl (fun x K hK => ?_) ?_
   rotate_left
   ·go_big_quiet_op
    apply Exists.intro
    refine ⟨fun y => ?_, ?_⟩
    ·exact Calls.laterS_of (cB1.out y.now _ (Q7.out.bw (x.bw.trans y.bw)))
    ·exact hK
   refine hoist [] [] (a1 := ?_) 9 rfl (by kernel_rfl) (.inl ⟨rfl, rfl⟩) rfl rfl rfl (fun x K hK => ?_) ?_
   rotate_left
   ·go_big_quiet_op
    exact hK
   refine hoist [] [] (a1 := ?_) 10 rfl (by kernel_rfl) (.inl ⟨rfl, rfl⟩) rfl rfl rfl (fun x K hK => ?_) ?_
   rotate_left
   ·go_big_quiet_op
    exact hK
   refine hoist [] [] (a1 := ?_) 11 rfl (by kernel_rfl) (.inl ⟨rfl, rfl⟩) rfl rfl rfl (fun x K hK => ?_) ?_
   rotate_left
   ·go_big_quiet_op
    exact hK
   refine hoist [] [] (a1 := ?_) 12 rfl (by kernel_rfl) (.inl ⟨rfl, rfl⟩) rfl rfl rfl (fun x K hK => ?_) ?_
   rotate_left
   ·go_big_quiet_op
    exact hK
   refine hoist [] [] (a1 := ?_) 13 rfl (by kernel_rfl) (.inl ⟨rfl, rfl⟩) rfl rfl rfl (fun x K hK => ?_) ?_
   rotate_left
   ·go_big_quiet_op
    exact hK
   refine hoist [] [] (a1 := ?_) 14 rfl (by kernel_rfl) (.inl ⟨rfl, rfl⟩) rfl rfl rfl (fun x K hK => ?_) ?_
   rotate_left
   ·go_big_quiet_op
    exact hK
   refine hoist [] [] (a1 := ?_) 15 rfl (by kernel_rfl) (.inl ⟨rfl, rfl⟩) rfl rfl rfl (fun x K hK => ?_) ?_
   rotate_left
   ·go_big_quiet_op
    exact hK
   refine hoist [] [] (a1 := ?_) 16 rfl (by kernel_rfl) (.inl ⟨rfl, rfl⟩) rfl rfl rfl (fun x K hK => ?_) ?_
   rotate_left
   ·go_big_quiet_op
    exact hK
   refine hoist [] [] (a1 := ?_) 17 rfl (by kernel_rfl) (.inl ⟨rfl, rfl⟩) rfl rfl rfl (fun x K hK => ?_) ?_
   rotate_left
   ·go_big_quiet_op
    exact hK
   refine hoist [] [] (a1 := ?_) 18 rfl (by kernel_rfl) (.inl ⟨rfl, rfl⟩) rfl rfl rfl (fun x K hK => ?_) ?_
   rotate_left
   ·go_big_quiet_op
    exact hK
   refine hoist [] [] (a1 := ?_) 19 rfl (by kernel_rfl) (.inl ⟨rfl, rfl⟩) rfl rfl rfl (fun x K hK => ?_) ?_
   rotate_left
   ·go_big_quiet_op
    exact hK
   refine hoist [] [] (a1 := ?_) 20 rfl (by kernel_rfl) (.inl ⟨rfl, rfl⟩) rfl rfl rfl (fun x K hK => ?_) ?_
   rotate_left
   ·go_big_quiet_op
    exact hK
   refine hoist [] [] (a1 := ?_) 21 rfl (by kernel_rfl) (.inl ⟨rfl, rfl⟩) rfl rfl rfl (fun x K hK => ?_) ?_
   rotate_left
   ·go_big_quiet_op
    exact hK
   refine hoist [] [] (a1 := ?_) 22 rfl (by kernel_rfl) (.inl ⟨rfl, rfl⟩) rfl rfl rfl (fun x K hK => ?_) ?_
   rotate_left
   ·go_big_quiet_op
    exact hK
   refine hoist [] [] (a1 := ?_) 23 rfl (by kernel_rfl) (.inl ⟨rfl, rfl⟩) rfl rfl rfl (fun x K hK => ?_) ?_
   rotate_left
   ·go_big_quiet_op
    exact hK
   refine hoist [] [] (a1 := ?_) 24 rfl (by kernel_rfl) (.inl ⟨rfl, rfl⟩) rfl rfl rfl (fun x K hK => ?_) ?_
   rotate_left
   ·go_big_quiet_op
    exact hK
   refine hoist [] [] (a1 := ?_) 25 rfl (by kernel_rfl) (.inl ⟨rfl, rfl⟩) rfl rfl rfl (fun x K hK => ?_) ?_
   rotate_left
   ·go_big_quiet_op
    exact hK
   refine hoist [] [] (a1 := ?_) 26 rfl (by kernel_rfl) (.inl ⟨rfl, rfl⟩) rfl rfl rfl (fun x K hK => ?_) ?_
   rotate_left
   ·go_big_quiet_op
    exact hK
   refine hoist [] [] (a1 := ?_) 27 rfl (by kernel_rfl) (.inl ⟨rfl, rfl⟩) rfl rfl rfl (fun x K hK => ?_) ?_
   rotate_left
   ·go_big_quiet_op
    exact hK
   refine effect 28 rfl (by kernel_rfl) (by kernel_rfl) rfl (fun x28 K hK => ?_)
   go_simp
   refine Calls.mono (twin_any ⟨o, t, l⟩ x28.now) ?_
   rintro e w8 ⟨gt, rfl, Z, hbt⟩
   refine hK _ _ (hbt.still _) ?_
   clear hK K
   clear mo mt ml ns nh
   have hb := x28.bw.trans hbt
   replace X := Lib.hid (X.out.bw hb)
   replace Y := Lib.hid (Y.out.bw hb)
   replace BB := Lib.hid (BB.out.trans hb)
   have cT : Hid (∀ y : World, BW w8 y → Calls Tryz.prog 28 #[.slice (some ⟨gh, oh, none⟩) k cH, .func (.func 45) #[] #[.pointer (some ⟨gt, 0, none⟩)]] y fun e w' => e = .returned (.bool rr) ∧ BW y w') := Lib.hid (fun y hy => by
    rw [← hrr.out]
    exact hasH 0 k _ (H.take k) 45 [.pointer (some ⟨gt, 0, none⟩)] (twinB ⟨o, t, l⟩) y ((hH.out.bw (B.out.trans (BB.out.trans hy))).takeN k (by omega)) (by omega) (fun x _ wx hb2 => twin1_any gt ⟨o, t, l⟩ x wx ((Z.bw hy).bw hb2)) twin1_enter)
   clear hb hbt
   have mo : ∀ y : LaterS [] w8, _ := fun y => y.bw.cell ((hp_cell Y.out 0).trans (show _ = some (.int .i64 o) from rfl))
   have mt : ∀ y : LaterS [] w8, _ := fun y => y.bw.cell ((hp_cell Y.out 1).trans (show _ = some (.int .i64 t) from rfl))
   have ml : ∀ y : LaterS [] w8, _ := fun y => y.bw.cell ((hp_cell Y.out 2).trans (show _ = some (.int .i64 l) from rfl))
   have ns : ∀ y : LaterS [] w8, _ := fun y => y.bw.cell ((hp_cell X.out 0).trans (show _ = some (.int .i64 seat) from rfl))
   have nh : ∀ y : LaterS [] w8, _ := fun y => y.bw.cell ((hp_cell X.out 2).trans (show _ = some (.slice (some ⟨gh, oh, none⟩) nH cH) from rfl))
   try simp only [Act.put, List.setIfInBounds_toArray, List.set_cons_succ, List.set_cons_zero]
   refine hoist_call [] [] (a1 := ?_) 29 rfl (by kernel_rfl) (.inl ⟨rfl, rfl⟩) rfl rfl rfl (fun x K hK => ?_) ?_
   rotate_left
   ·go_big_quiet_op
    apply Exists.intro
    refine ⟨fun y => ?_, ?_⟩
    ·exact Calls.laterS_of (cT.out y.now (x.bw.trans y.bw))
    ·exact hK
   refine hoist [] [] (a1 := ?_) 30 rfl (by kernel_rfl) (.inl ⟨rfl, rfl⟩) rfl rfl rfl (fun x K hK => ?_) ?_
   rotate_left
   ·go_big_quiet_op
    exact hK
   refine done (by kernel_rfl) (fun xr => ?_)
   cases rr with
   | true =>
    have hNot := Lib.hid (hNo.out (fun h => by
     obtain ⟨j, hj, hj2⟩ := he_any (by have := hkL.out; omega) hrr.out
     exact (hOk2.out.1 h).2.2.2.2 j hj hj2))
    clear hOk2 hOk hNo
    have hB := B.out.trans (BB.out.trans xr.bw)
    go_wp2_with fail
    go_ret
    exact ⟨MayOR.no hNot.out, hB⟩
   | false =>
    have hOk3 : Hid (∀ j, j < k + 1 → OkH seat H j) := Lib.hid (fun j hj => by
     by_cases e : j < k
     ·exact hOk.out j e
     ·obtain rfl : j = k := by omega
      exact hOk2.out.2 ⟨h1.out.1, h1.out.2.1, by have := h1.out.2.2; have := h2.out; unfold Sm at *; omega, h3.out, he_none (by have := hkL.out; omega) hrr.out⟩)
    clear hOk2 hOk hNo
    have hB := Lib.hid (B.out.trans (BB.out.trans xr.bw))
    have hX := Lib.hid (X.out.bw xr.bw)
    clear B BB X cT cB1 Y h1 h2 h3 d2 d3
    generalize xr.now = w9 at *
    clear xr
    go_wp2_with fail
    go_roundg (nH - (k + 1))
    case measure => omega
    case rel => exact ⟨k + 1, rfl, by omega, by push_cast; rfl, hOk3, hX, hB⟩
  ·obtain rfl : k = nH := by omega
   have dk : decide ((k : Int) < (k : Int)) = false := by simp
   have q0 := (hp_cell X.out 0).trans (show _ = some (.int .i64 seat) from rfl)
   go_upto_region 7 with (fail)
   rename World => wo
   have cB : Hid (Calls Tryz.prog 27 #[.int .i64 255, .slice (some ⟨wo.heap.size, 0, none⟩) 1 1] (wo.alloc (.cells #[.int .i64 seat] 3)) fun e w' => e = .returned (.bool (decide (Sm seat))) ∧ BW (wo.alloc (.cells #[.int .i64 seat] 3)) w') := Lib.hid (by
    rw [← sm_below]
    exact below_any 0 1 _ [seat] 255 _ (newI1 wo seat) (by decide))
   have hb := (BW.refl wo).alloc (o := .cells #[.int .i64 seat] 3)
   replace X := Lib.hid (X.out.bw hb)
   replace B := Lib.hid (B.out.trans hb)
   clear hb
   go_wp2_with fail
   refine Calls.mono cB.out ?_
   rintro e w3 ⟨rfl, hb⟩
   clear cB
   replace X := Lib.hid (X.out.bw hb)
   replace B := Lib.hid (B.out.trans hb)
   clear hb q0
   dsimp only
   by_cases h1 : Sm seat
   case neg =>
    rw [decide_eq_false h1]
    have hNot : Hid (¬ MayO ⟨seat, W, H⟩) := Lib.hid (fun h => h1 h.1)
    clear h1
    go_wp2_with fail
    go_ret
    exact ⟨MayOR.no hNot.out, B.out⟩
   case pos =>
    rw [decide_eq_true h1]
    have q1 := (hp_cell X.out 1).trans (show _ = some (.slice sW nW cW) from rfl)
    go_wp2_with fail
    refine Calls.mono (cM.out _ B.out) ?_
    rintro e w4 ⟨⟨b, rfl, hbW⟩, hb⟩
    replace X := Lib.hid (X.out.bw hb)
    replace B := Lib.hid (B.out.trans hb)
    clear hb q1
    have q2 := (hp_cell X.out 2).trans (show _ = some (.slice sH k cH) from rfl)
    dsimp only
    cases b with
    | false =>
     have hNot : Hid (¬ MayO ⟨seat, W, H⟩) := Lib.hid (fun h => by have := hbW.2 h.2.1; cases this)
     clear hbW h1
     go_wp2_with fail
     go_ret
     exact ⟨MayOR.no hNot.out, B.out⟩
    | true =>
     obtain ⟨r4, hr4⟩ : ∃ r, decide ((k : Int) ≤ 4) = r := ⟨_, rfl⟩
     have hfin : Hid (r4 = true ↔ MayO ⟨seat, W, H⟩) := Lib.hid (by
      rw [← hr4, decide_eq_true_iff]
      constructor
      ·intro h4
       exact ⟨h1, hbW.1 rfl, fun i hi => hOk.out i (by rw [← hnHe.out]; exact hi), by show H.length ≤ 4; rw [hnHe.out]; omega⟩
      ·intro h
       have : H.length ≤ 4 := h.2.2.2
       rw [hnHe.out] at this
       omega)
     clear hbW h1
     go_wp2_with fail
     go_ret
     exact ⟨⟨_, rfl, hfin.out⟩, B.out⟩
theorem may_any (cs : Array Value) (d : OffD) (sW : Option Addr) (cW : Nat) (sH : Option Addr) (cH : Nat) (w : World) (h : OffV w cs d sW cW sH cH) (hW : d.W.length ≤ 40) (hs : ∀ i, i < d.W.length → (wi d.W i).s.length ≤ 40) (hnH : d.H.length ≤ 40) :
  Calls Tryz.prog 13 #[.agg cs] w fun e w' => MayOR d e ∧ BW w w' :=
 may_big cs d sW cW sH cH w h (by omega) (fun i hi => Nat.le_trans (hs i hi) (by decide)) (by omega)
end Go.Proofs.YtafhnlnhflehhaaGreatDoor
