/- A reading of the program's: what it has so far; the seat. No condition but the sizes'. A reading's hear. No condition but the sizes'. A reading, line by line: what it shows. Nothing of the program; no condition. -/
import Derived.Test.YtafhnlnhflehhaaGreatDoorGHe
import Derived.Test.YtafhnlnhflehhaaGreatDoorOhF
import Derived.Test.YtafhnlnhflehhaaGreatDoorOhH
namespace Go.Proofs.YtafhnlnhflehhaaGreatDoor
open Go.RowKit
structure RpS (w : World) (base g : Nat) (d : OffD) (bad : Bool) (sW : Option Addr) (nW cW : Nat) (sH : Option Addr) (nH cH : Nat) : Prop where
 hp : HpB w g (.cells (rdC d.seat sW nW cW sH nH cH bad) 55)
 lt : g < base
 qw : EQ EWo 41 w base (.slice sW nW cW) nW d.W
 qh : EQ EHe 43 w base (.slice sH nH cH) nH d.H
theorem RpS.bw {w w' : World} {base g : Nat} {d : OffD} {bad : Bool} {sW : Option Addr} {nW cW : Nat} {sH : Option Addr} {nH cH : Nat} (h : RpS w base g d bad sW nW cW sH nH cH) (hb : BW w w') : RpS w' base g d bad sW nW cW sH nH cH := ⟨h.hp.bw hb, h.lt, h.qw.bw hb, h.qh.bw hb⟩
theorem RpS.num {w w' : World} {base g : Nat} {d : OffD} {bad bad' : Bool} {sW : Option Addr} {nW cW : Nat} {sH : Option Addr} {nH cH : Nat} (h : RpS w base g d bad sW nW cW sH nH cH) (T : Still [g] w w') (hp : HpB w' g (.cells (rdC d.seat sW nW cW sH nH cH bad') 55)) : RpS w' base g d bad' sW nW cW sH nH cH :=
 ⟨hp, h.lt, h.qw.old T (by simp [h.lt]), h.qh.old T (by simp [h.lt])⟩
theorem RpS.bad' {w : World} {base g : Nat} {d : OffD} {bad : Bool} {sW : Option Addr} {nW cW : Nat} {sH : Option Addr} {nH cH : Nat} (h : RpS w base g d bad sW nW cW sH nH cH) (v : Bool) : RpS (w.setCell ⟨g, 3, none⟩ (.bool v)) base g d v sW nW cW sH nH cH :=
 h.num (still_setR w g 3 _) (hp_set h.hp 3 _)
theorem RpS.seat {w : World} {base g : Nat} {d : OffD} {bad : Bool} {sW : Option Addr} {nW cW : Nat} {sH : Option Addr} {nH cH : Nat} (h : RpS w base g d bad sW nW cW sH nH cH) (v : Int) : RpS (w.setCell ⟨g, 0, none⟩ (.int .i64 v)) base g { d with seat := v } bad sW nW cW sH nH cH :=
 ⟨hp_set h.hp 0 _, h.lt, h.qw.old (still_setR w g 0 _) (by simp [h.lt]), h.qh.old (still_setR w g 0 _) (by simp [h.lt])⟩
theorem RpS.wish {w w1 : World} {base g : Nat} {d : OffD} {bad : Bool} {sW sW' : Option Addr} {nW cW nW' cW' : Nat} {sH : Option Addr} {nH cH : Nat} (h : RpS w base g d bad sW nW cW sH nH cH) (T : Still (Value.slice sW nW cW).ownBlock.toList w w1) {W' : List WishD} (q : EQ EWo 41 w1 base (.slice sW' nW' cW') nW' W') : RpS (w1.setCell ⟨g, 1, none⟩ (.slice sW' nW' cW')) base g { d with W := W' } bad sW' nW' cW' sH nH cH := by
 have h1 := h.hp.st T (fun hm => h.qw.ne h.hp (by decide) _ (by simpa using hm) rfl)
 have h2 : EQ EHe 43 w1 base (.slice sH nH cH) nH d.H := h.qh.still T (fun _ _ => trivial) (fun k hk hm => by
  obtain ⟨cs, hcs⟩ := h.qw.row k (by simpa using hm)
  exact h.qh.ne hcs (by decide) _ hk rfl)
 exact ⟨hp_set h1 1 _, h.lt, q.old (still_setR w1 g 1 _) (by simp [h.lt]), h2.old (still_setR w1 g 1 _) (by simp [h.lt])⟩
theorem RpS.hear {w w1 : World} {base g : Nat} {d : OffD} {bad : Bool} {sW : Option Addr} {nW cW : Nat} {sH sH' : Option Addr} {nH cH nH' cH' : Nat} (h : RpS w base g d bad sW nW cW sH nH cH) (T : Still (Value.slice sH nH cH).ownBlock.toList w w1) {H' : List HearD} (q : EQ EHe 43 w1 base (.slice sH' nH' cH') nH' H') : RpS (w1.setCell ⟨g, 2, none⟩ (.slice sH' nH' cH')) base g { d with H := H' } bad sW nW cW sH' nH' cH' := by
 have h1 := h.hp.st T (fun hm => h.qh.ne h.hp (by decide) _ (by simpa using hm) rfl)
 have h2 : EQ EWo 41 w1 base (.slice sW nW cW) nW d.W := h.qw.still T (h.qh.noU (by decide)) (fun k hk hm => by
  obtain ⟨cs, hcs⟩ := h.qh.row k (by simpa using hm)
  exact h.qw.ne hcs (by decide) _ hk rfl)
 exact ⟨hp_set h1 2 _, h.lt, h2.old (still_setR w1 g 2 _) (by simp [h.lt]), q.old (still_setR w1 g 2 _) (by simp [h.lt])⟩
theorem RpS.off {w : World} {base g : Nat} {d : OffD} {bad : Bool} {sW : Option Addr} {nW cW : Nat} {sH : Option Addr} {nH cH : Nat} (h : RpS w base g d bad sW nW cW sH nH cH) : OffV w #[.int .i64 d.seat, .slice sW nW cW, .slice sH nH cH] d sW cW sH cH := by
 have e1 := h.qw.1
 have e2 := h.qh.1
 subst e1 e2
 exact ⟨rfl, ewo_ewi h.qw, ehe_zero h.qh⟩
def WdS (w : World) (q o : Nat) (ws : List BL) : Prop := ∀ j x, ws[j]? = some x → w.cell? ⟨q, o + j, none⟩ = some (.string (bS x))
theorem WdS.still {w w' : World} {q o : Nat} {ws : List BL} (h : WdS w q o ws) {S : List Nat} (T : Still S w w') (hq : q ∉ S) : WdS w' q o ws := fun j x hj => by
 have z := h j x hj
 have hl : q < w.heap.size := by
  unfold World.cell? at z
  split at z
  ·rename_i hb; exact (Array.getElem?_eq_some_iff.1 hb).1
  ·cases z
 rw [← z]
 unfold World.cell?
 rw [T.block q hl hq]
set_option maxRecDepth 100000 in
set_option maxHeartbeats 8000000 in
theorem pseat_any (w0 : World) (base g q o n cp : Nat) (d : OffD) (b0 : Bool) (sW : Option Addr) (nW cW : Nat) (sH : Option Addr) (nH cH : Nat) (x : BL) (w : World) (hx : x.length ≤ 1000000) (hw : BW w0 w) (hN : NumC w0 1048576) (hE : ErrC w0) (hR : RpS w base g d b0 sW nW cW sH nH cH) (hq : WdS w q o [x]) (hn : 1 ≤ n) :
  Calls Tryz.prog 38 #[.pointer (some ⟨g, 0, none⟩), .slice (some ⟨q, o, none⟩) n cp] w fun e w' => ∃ v b1, (∃ r, e = .returned r) ∧ NmR x b0 v b1 ∧ RpS w' base g { d with seat := v } b1 sW nW cW sH nH cH ∧ Still [g] w w' := by
 have cN := Lib.hid (rnumber_any w0 g d.seat sW nW cW sH nH cH b0 x w hx hw hN hE hR.hp)
 have R := Lib.hid hR
 have z0 : w.cell? ⟨q, o, none⟩ = some (.string (bS x)) := hq 0 x rfl
 clear hR hN hE hw hq
 go_enter Tryz.func38, Tryz.ntmps38
 go_wp2_with fail
 refine Calls.mono cN.out ?_
 rintro _ w1 ⟨v, b1, rfl, hv, hp, T⟩
 have R1 := Lib.hid (R.out.num T hp)
 have hv2 := Lib.hid hv
 have y0 := (hp_cell R1.out.hp 0).trans (show _ = some (.int .i64 d.seat) from rfl)
 have f0 := hp_frz R1.out.hp 0
 have fin : Hid (RpS (w1.setCell ⟨g, 0, none⟩ (.int .i64 v)) base g { d with seat := v } b1 sW nW cW sH nH cH ∧ Still [g] w (w1.setCell ⟨g, 0, none⟩ (.int .i64 v))) := Lib.hid ⟨R1.out.seat v, T.trans (still_setR w1 g 0 _)⟩
 clear R cN hv hp T R1
 go_wp2_with fail
 go_end0
 exact ⟨v, b1, ⟨_, rfl⟩, hv2.out, fin.out⟩
end Go.Proofs.YtafhnlnhflehhaaGreatDoor

namespace Go.Proofs.YtafhnlnhflehhaaGreatDoor
open Go.RowKit
structure HrR (p1 p2 p3 : BL) (b0 : Bool) (va vb lv : Int) (b3 : Bool) : Prop where
 ex : ∃ b1 b2, NmR p1 b0 va b1 ∧ NmR p2 b1 vb b2 ∧ ((p3 = [45] ∧ lv = -1 ∧ b3 = b2) ∨ (p3 ≠ [45] ∧ NmR p3 b2 lv b3))
set_option maxRecDepth 100000 in
set_option maxHeartbeats 8000000 in
theorem phear_any (w0 : World) (base g q o n cp : Nat) (d : OffD) (b0 : Bool) (sW : Option Addr) (nW cW : Nat) (sH : Option Addr) (nH cH : Nat) (p1 p2 p3 : BL) (w : World) (h1 : p1.length ≤ 1000000) (h2 : p2.length ≤ 1000000) (h3 : p3.length ≤ 1000000) (hw : BW w0 w) (hN : NumC w0 1048576) (hE : ErrC w0) (hR : RpS w base g d b0 sW nW cW sH nH cH) (hq : WdS w q o [p1, p2, p3]) (hn : n = 3) (hqg : q ≠ g) (hb : base ≤ w.heap.size) (hwg : w0.heap.size ≤ g) (hnH : nH ≤ 1000001) :
  Calls Tryz.prog 40 #[.pointer (some ⟨g, 0, none⟩), .slice (some ⟨q, o, none⟩) n cp] w fun e w' => ∃ va vb lv b3 sH' cH', (∃ r, e = .returned r) ∧ HrR p1 p2 p3 b0 va vb lv b3 ∧ RpS w' base g { d with H := d.H ++ [⟨va, vb, lv⟩] } b3 sW nW cW sH' (nH + 1) cH' ∧ Still (g :: (Value.slice sH nH cH).ownBlock.toList) w w' := by
 have cN := Lib.hid (fun (x : BL) (hx : x.length ≤ 1000000) (y : World) (hy : BW w0 y) (b : Bool) (hp : HpB y g (.cells (rdC d.seat sW nW cW sH nH cH b) 55)) => rnumber_any w0 g d.seat sW nW cW sH nH cH b x y hx hy hN hE hp)
 have B := Lib.hid hw
 have R := Lib.hid hR
 have z0 : w.cell? ⟨q, o, none⟩ = some (.string (bS p1)) := hq 0 p1 rfl
 have z1 : w.cell? ⟨q, o + 1, none⟩ = some (.string (bS p2)) := hq 1 p2 rfl
 have z2 : Hid (w.cell? ⟨q, o + 2, none⟩ = some (.string (bS p3))) := Lib.hid (hq 2 p3 rfl)
 have hgb := Lib.hid hb
 have hg0 := Lib.hid hwg
 have hSg : ∀ k ∈ [g], k < w.heap.size := fun k hk => by obtain rfl : k = g := (by simpa using hk); have := hR.lt; omega
 subst hn
 have h1' := Lib.hid h1
 have h2' := Lib.hid h2
 have h3' := Lib.hid h3
 have hqg' := Lib.hid hqg
 clear hR hN hE hw hq hb h1 h2 h3 hqg hwg
 go_enter Tryz.func40, Tryz.ntmps40
 have m0 : ∀ y : LaterS [] w, _ := fun y => y.bw.cell z0
 have m1 : ∀ y : LaterS [g] w, y.now.cell? ⟨q, o + 1, none⟩ = some (.string (bS p2)) := fun y => y.ok.cellN z1 (by simpa using hqg'.out)
 clear z0 z1
 go_upto_region 0 with (fail)
 refine wp_region_gg ([g]) [4, 9] [12] (by kernel_rfl) ?_
 refine float 11 (fun g => .pointer (some ⟨g, 0, none⟩)) (.cells #[.int .i64 0, .int .i64 0, .int .i64 0] 43) rfl (by kernel_rfl) (by first | assumption | (intro k hk; cases hk) | omega) rfl (fun x => (by go_simp)) ?_
 refine hoist [] [4, 9] (a1 := ?_) 0 rfl (by kernel_rfl) (.inl ⟨rfl, rfl⟩) rfl rfl rfl (fun x K hK => ?_) ?_
 rotate_left
 ·go_big_quiet_op
  exact hK
 refine hoist [] [4, 9] (a1 := ?_) 1 rfl (by kernel_rfl) (.inl ⟨rfl, rfl⟩) rfl rfl rfl (fun x K hK => ?_) ?_
 rotate_left
 ·go_big_quiet_op
  exact hK
 refine hoist [] [4, 9] (a1 := ?_) 2 rfl (by kernel_rfl) (.inl ⟨rfl, rfl⟩) rfl rfl rfl (fun x K hK => ?_) ?_
 rotate_left
 ·go_big_quiet_op
  exact hK
 refine hoist [] [4, 9] (a1 := ?_) 3 rfl (by kernel_rfl) (.inl ⟨rfl, rfl⟩) rfl rfl rfl (fun x K hK => ?_) ?_
 rotate_left
 ·go_big_quiet_op
  exact hK
 refine hoist ([g]) [] (a1 := ?_) 5 rfl (by kernel_rfl) (.inr rfl) rfl rfl rfl (fun x K hK => ?_) ?_
 rotate_left
 ·go_big_quiet_op
  exact hK
 refine hoist ([g]) [] (a1 := ?_) 6 rfl (by kernel_rfl) (.inr rfl) rfl rfl rfl (fun x K hK => ?_) ?_
 rotate_left
 ·go_big_quiet_op
  exact hK
 refine hoist ([g]) [] (a1 := ?_) 7 rfl (by kernel_rfl) (.inr rfl) rfl rfl rfl (fun x K hK => ?_) ?_
 rotate_left
 ·go_big_quiet_op
  exact hK
 refine hoist ([g]) [] (a1 := ?_) 8 rfl (by kernel_rfl) (.inr rfl) rfl rfl rfl (fun x K hK => ?_) ?_
 rotate_left
 ·go_big_quiet_op
  exact hK
 refine effect 4 rfl (by kernel_rfl) (by kernel_rfl) rfl (fun x4 K hK => ?_)
 have R4 := Lib.hid (R.out.bw x4.bw)
 go_simp
 refine Calls.mono (cN.out p1 h1'.out x4.now (B.out.trans x4.bw) b0 R4.out.hp) ?_
 rintro e w4 ⟨va, b1, rfl, hv1, hp, T⟩
 refine hK _ _ T ?_
 replace T := Lib.hid ((x4.bw.still [g]).trans T)
 replace hv1 := Lib.hid hv1
 replace hp := Lib.hid hp
 clear hK K m0 m1 R4
 try simp only [Act.put, List.setIfInBounds_toArray, List.set_cons_succ, List.set_cons_zero]
 refine effect 9 rfl (by kernel_rfl) (by kernel_rfl) rfl (fun x9 K hK => ?_)
 have hp9 := Lib.hid (hp.out.bw x9.bw)
 have T9 := Lib.hid (T.out.trans (x9.bw.still [g]))
 go_simp
 refine Calls.mono (cN.out p2 h2'.out x9.now (B.out.stP T9.out (fun k hk => by obtain rfl : k = g := (by simpa using hk); exact hg0.out)) b1 hp9.out) ?_
 rintro e w9 ⟨vb, b2, rfl, hv2, hpB, TB⟩
 refine hK _ _ TB ?_
 replace T := Lib.hid (T9.out.trans TB)
 replace hv2 := Lib.hid hv2
 replace hp := Lib.hid hpB
 clear hK K T9 hp9 hpB TB
 try simp only [Act.put, List.setIfInBounds_toArray, List.set_cons_succ, List.set_cons_zero]
 refine hoist [] [4, 9] (a1 := ?_) 10 rfl (by kernel_rfl) (.inl ⟨rfl, rfl⟩) rfl rfl rfl (fun x K hK => ?_) ?_
 rotate_left
 ·go_big_quiet_op
  exact hK
 refine tailF 12 rfl (by kernel_rfl) rfl (fun xr => ?_)
 intro g11 hg11 hG11
 refine fin_nil ?_
 dsimp only at hg11 hG11
 try simp only [Act.put, List.setIfInBounds_toArray, List.set_cons_succ, List.set_cons_zero]
 simp only [List.drop_succ_cons, List.drop_zero]
 have X : HpB xr.now g11 (.cells #[.int .i64 0, .int .i64 0, .int .i64 0] 43) := hG11
 have hpr := hp.out.bw xr.bw
 have Tr := T.out.trans (xr.bw.still [g])
 clear hG11 T hp
 generalize xr.now = w1 at *
 clear xr
 go_upto_region 1 with (refine swSt swHe rfl rfl rfl rfl X rfl rfl (by kernel_rfl) ?_)
 have hne : g ≠ g11 := fun e => by have := hSg g (by simp); omega
 have hqn : q < w.heap.size := World.block_lt_of_cell? _ _ z2.out
 have T1 := Lib.hid (Tr.own3 (still_rowS w1 g11 #[.int .i64 va, .int .i64 vb, .int .i64 (-1)]) (fun k hk => by obtain rfl : k = g11 := (by simpa using hk); exact .inr hg11))
 have hp1 := Lib.hid (hpr.st (still_rowS w1 g11 #[.int .i64 va, .int .i64 vb, .int .i64 (-1)]) (by simpa using hne))
 replace X := Lib.hid (X.rowS #[.int .i64 va, .int .i64 vb, .int .i64 (-1)])
 clear hpr Tr
 replace hne := Lib.hid hne
 replace hg11 := Lib.hid hg11
 generalize w1.setRow g11 _ = w2 at *
 have z2' := T1.out.cellN z2.out (by simpa using hqg'.out)
 replace hqn := Lib.hid hqn
 by_cases hz : p3 = [45]
 ·have dz : ((bS p3).toList == [45]) = true := key_eq hz
  have hl : ∃ lv b3, -1 = lv ∧ b2 = b3 ∧ HrR p1 p2 p3 b0 va vb lv b3 := ⟨-1, b2, rfl, rfl, ⟨b1, b2, hv1.out, hv2.out, .inl ⟨hz, rfl, rfl⟩⟩⟩
  replace hz := Lib.hid hz
  go_upto_region 3 with (fail)
  clear z2' dz hz hv1 hv2
  obtain ⟨lv, b3, e1, e2, hl⟩ := hl
  rw [e1] at X
  rw [e2] at hp1
  clear e1 e2
  replace hl := Lib.hid hl
  have q2 := (hp_cell hp1.out 2).trans (show _ = some (.slice sH nH cH) from rfl)
  have mq : ∀ y : LaterS [] w2, _ := fun y => y.bw.cell q2
  obtain ⟨_, _, he, hnHc, hcHm⟩ := R.out.qh.len
  cases he
  unfold maxLen at hcHm
  clear q2
  refine wp_region_gg ((Value.slice sH nH cH).ownBlock.toList) [8] [9] (by kernel_rfl) ?_
  refine hoist ((Value.slice sH nH cH).ownBlock.toList) [] (a1 := ?_) 0 rfl (by kernel_rfl) (.inr rfl) rfl rfl rfl (fun x K hK => ?_) ?_
  rotate_left
  ·go_big_quiet_op
   exact hK
  refine hoist [] [8] (a1 := ?_) 1 rfl (by kernel_rfl) (.inl ⟨rfl, rfl⟩) rfl rfl rfl (fun x K hK => ?_) ?_
  rotate_left
  ·go_big_quiet_op
   exact hK
  refine hoist [] [8] (a1 := ?_) 2 rfl (by kernel_rfl) (.inl ⟨rfl, rfl⟩) rfl rfl rfl (fun x K hK => ?_) ?_
  rotate_left
  ·go_big_quiet_op
   exact hK
  refine hoist [] [8] (a1 := ?_) 3 rfl (by kernel_rfl) (.inl ⟨rfl, rfl⟩) rfl rfl rfl (fun x K hK => ?_) ?_
  rotate_left
  ·go_big_quiet_op
   exact hK
  refine hoist [] [8] (a1 := ?_) 4 rfl (by kernel_rfl) (.inl ⟨rfl, rfl⟩) rfl rfl rfl (fun x K hK => ?_) ?_
  rotate_left
  ·go_big_quiet_op
   exact hK
  refine hoist [] [8] (a1 := ?_) 5 rfl (by kernel_rfl) (.inl ⟨rfl, rfl⟩) rfl rfl rfl (fun x K hK => ?_) ?_
  rotate_left
  ·go_big_quiet_op
   exact hK
  refine hoist [] [8] (a1 := ?_) 6 rfl (by kernel_rfl) (.inl ⟨rfl, rfl⟩) rfl rfl rfl (fun x K hK => ?_) ?_
  rotate_left
  ·refine swQlC swHe rfl (by rfl) (c := #[.int .i64 va, .int .i64 vb, .int .i64 lv]) rfl (fun w' hw => by subst hw; exact (X.out.bw x.bw).range 0 _ rfl) (by simp only [Act.put, List.setIfInBounds_toArray, List.set_cons_succ, List.set_cons_zero]; rfl) ?_
   exact hK
  refine effect 7 rfl (by kernel_rfl) (by kernel_rfl) rfl (fun x7 K hK => ?_)
  go_simp
  refine hK _ _ (Still.of_below ((Below.refl _ _).alloc (Nat.le_refl _) _)) ?_
  clear hK K mq
  have L := Lib.hid (Sls.new1 (E := EHe) x7.now 43 [.int .i64 va, .int .i64 vb, .int .i64 lv] rfl)
  have hbA := x7.bw.alloc (o := .cells [Value.int .i64 va, .int .i64 vb, .int .i64 lv].toArray 43)
  have R7 := Lib.hid ((R.out.num T1.out hp1.out).bw hbA)
  have T7 := Lib.hid (T1.out.trans (hbA.still [g]))
  clear hbA X
  generalize x7.now.alloc _ = w7 at *
  generalize x7.now.heap.size = g7 at *
  try simp only [Act.put, List.setIfInBounds_toArray, List.set_cons_succ, List.set_cons_zero]
  refine effect 8 rfl (by kernel_rfl) (by kernel_rfl) rfl (fun x8 K hK => ?_)
  have R8 := Lib.hid (R7.out.bw x8.bw)
  have T8 := Lib.hid (T7.out.trans (x8.bw.still [g]))
  refine wp_apEQ slHe _ _ rfl base (.slice sH nH cH) nH d.H rfl R8.out.qh _ rfl 1 [⟨va, vb, lv⟩] _ (L.out.bw x8.bw) (EL.single rfl) rfl (by omega) (Nat.le_trans hgb.out T8.out.size) (fun _ _ => trivial) ?_
  intro s8 c8 w8 hc8 hm8 E8 TT B8 G8
  unfold maxLen at hm8
  refine hK _ _ TT ?_
  clear hK K
  replace TT := Lib.hid TT
  replace E8 := Lib.hid E8
  clear B8 G8 L R7 T7
  try simp only [Act.put, List.setIfInBounds_toArray, List.set_cons_succ, List.set_cons_zero]
  refine tail 9 rfl (by kernel_rfl) rfl (fun xr => ?_)
  simp only [List.drop_succ_cons, List.drop_zero]
  have TX := TT.out.trans (xr.bw.still _)
  have hpx := R8.out.hp.st TX (fun hm => R8.out.qh.ne R8.out.hp (by decide) _ (by simpa using hm) rfl)
  have y8 := (hp_cell hpx 2).trans (show _ = some (.slice sH nH cH) from rfl)
  have f8 := hp_frz hpx 2
  have RN := Lib.hid (R8.out.hear TX (E8.out.bw xr.bw))
  have TN := Lib.hid (((T8.out.weaken (S' := g :: (Value.slice sH nH cH).ownBlock.toList) (by simp)).trans (TX.weaken (S' := g :: (Value.slice sH nH cH).ownBlock.toList) (fun k hk => by simp at hk ⊢; exact .inr hk))).trans ((still_setR xr.now g 2 (.slice s8 (nH + 1) c8)).weaken (S' := g :: (Value.slice sH nH cH).ownBlock.toList) (by simp)))
  clear TX hpx R8 T8 TT E8
  generalize xr.now = w9 at *
  clear xr
  go_wp2_with fail
  go_end0
  exact ⟨va, vb, lv, b3, s8, c8, ⟨_, rfl⟩, hl.out, RN.out, TN.out⟩
 ·have dz : ((bS p3).toList == [45]) = false := key_ne hz
  replace hz := Lib.hid hz
  go_wp2_with fail
  refine Calls.mono (cN.out p3 h3'.out w2 (B.out.stP T1.out (fun k hk => by obtain rfl : k = g := (by simpa using hk); exact hg0.out)) b2 hp1.out) ?_
  rintro e w3 ⟨lv, b3, rfl, hv3, hp3, T3⟩
  have hl : Hid (HrR p1 p2 p3 b0 va vb lv b3) := Lib.hid ⟨b1, b2, hv1.out, hv2.out, .inr ⟨hz.out, hv3⟩⟩
  have X3 := X.out.st T3 (by simpa using fun e => hne.out e.symm)
  have y2 := (hp_cell X3 2).trans (show _ = some (.int .i64 (-1)) from rfl)
  have f2 := hp_frz X3 2
  replace X : Hid (HpB (w3.setCell ⟨g11, 2, none⟩ (.int .i64 lv)) g11 (.cells #[.int .i64 va, .int .i64 vb, .int .i64 lv] 43)) := Lib.hid (hp_set X3 2 _)
  replace T1 := Lib.hid ((T1.out.trans T3).own3 (still_setR w3 g11 2 (.int .i64 lv)) (fun k hk => by obtain rfl : k = g11 := (by simpa using hk); exact .inr hg11.out))
  replace hp1 := Lib.hid (hp3.st (still_setR w3 g11 2 (.int .i64 lv)) (by simpa using hne.out))
  clear z2' dz hz hv1 hv2 hv3 hp3 T3 X3
  dsimp only
  go_upto_region 3 with (fail)
  clear y2 f2
  generalize w3.setCell _ _ = w2 at *
  have q2 := (hp_cell hp1.out 2).trans (show _ = some (.slice sH nH cH) from rfl)
  have mq : ∀ y : LaterS [] w2, _ := fun y => y.bw.cell q2
  obtain ⟨_, _, he, hnHc, hcHm⟩ := R.out.qh.len
  cases he
  unfold maxLen at hcHm
  clear q2
  refine wp_region_gg ((Value.slice sH nH cH).ownBlock.toList) [8] [9] (by kernel_rfl) ?_
  refine hoist ((Value.slice sH nH cH).ownBlock.toList) [] (a1 := ?_) 0 rfl (by kernel_rfl) (.inr rfl) rfl rfl rfl (fun x K hK => ?_) ?_
  rotate_left
  ·go_big_quiet_op
   exact hK
  refine hoist [] [8] (a1 := ?_) 1 rfl (by kernel_rfl) (.inl ⟨rfl, rfl⟩) rfl rfl rfl (fun x K hK => ?_) ?_
  rotate_left
  ·go_big_quiet_op
   exact hK
  refine hoist [] [8] (a1 := ?_) 2 rfl (by kernel_rfl) (.inl ⟨rfl, rfl⟩) rfl rfl rfl (fun x K hK => ?_) ?_
  rotate_left
  ·go_big_quiet_op
   exact hK
  refine hoist [] [8] (a1 := ?_) 3 rfl (by kernel_rfl) (.inl ⟨rfl, rfl⟩) rfl rfl rfl (fun x K hK => ?_) ?_
  rotate_left
  ·go_big_quiet_op
   exact hK
  refine hoist [] [8] (a1 := ?_) 4 rfl (by kernel_rfl) (.inl ⟨rfl, rfl⟩) rfl rfl rfl (fun x K hK => ?_) ?_
  rotate_left
  ·go_big_quiet_op
   exact hK
  refine hoist [] [8] (a1 := ?_) 5 rfl (by kernel_rfl) (.inl ⟨rfl, rfl⟩) rfl rfl rfl (fun x K hK => ?_) ?_
  rotate_left
  ·go_big_quiet_op
   exact hK
  refine hoist [] [8] (a1 := ?_) 6 rfl (by kernel_rfl) (.inl ⟨rfl, rfl⟩) rfl rfl rfl (fun x K hK => ?_) ?_
  rotate_left
  ·refine swQlC swHe rfl (by rfl) (c := #[.int .i64 va, .int .i64 vb, .int .i64 lv]) rfl (fun w' hw => by subst hw; exact (X.out.bw x.bw).range 0 _ rfl) (by simp only [Act.put, List.setIfInBounds_toArray, List.set_cons_succ, List.set_cons_zero]; rfl) ?_
   exact hK
  refine effect 7 rfl (by kernel_rfl) (by kernel_rfl) rfl (fun x7 K hK => ?_)
  go_simp
  refine hK _ _ (Still.of_below ((Below.refl _ _).alloc (Nat.le_refl _) _)) ?_
  clear hK K mq
  have L := Lib.hid (Sls.new1 (E := EHe) x7.now 43 [.int .i64 va, .int .i64 vb, .int .i64 lv] rfl)
  have hbA := x7.bw.alloc (o := .cells [Value.int .i64 va, .int .i64 vb, .int .i64 lv].toArray 43)
  have R7 := Lib.hid ((R.out.num T1.out hp1.out).bw hbA)
  have T7 := Lib.hid (T1.out.trans (hbA.still [g]))
  clear hbA X
  generalize x7.now.alloc _ = w7 at *
  generalize x7.now.heap.size = g7 at *
  try simp only [Act.put, List.setIfInBounds_toArray, List.set_cons_succ, List.set_cons_zero]
  refine effect 8 rfl (by kernel_rfl) (by kernel_rfl) rfl (fun x8 K hK => ?_)
  have R8 := Lib.hid (R7.out.bw x8.bw)
  have T8 := Lib.hid (T7.out.trans (x8.bw.still [g]))
  refine wp_apEQ slHe _ _ rfl base (.slice sH nH cH) nH d.H rfl R8.out.qh _ rfl 1 [⟨va, vb, lv⟩] _ (L.out.bw x8.bw) (EL.single rfl) rfl (by omega) (Nat.le_trans hgb.out T8.out.size) (fun _ _ => trivial) ?_
  intro s8 c8 w8 hc8 hm8 E8 TT B8 G8
  unfold maxLen at hm8
  refine hK _ _ TT ?_
  clear hK K
  replace TT := Lib.hid TT
  replace E8 := Lib.hid E8
  clear B8 G8 L R7 T7
  try simp only [Act.put, List.setIfInBounds_toArray, List.set_cons_succ, List.set_cons_zero]
  refine tail 9 rfl (by kernel_rfl) rfl (fun xr => ?_)
  simp only [List.drop_succ_cons, List.drop_zero]
  have TX := TT.out.trans (xr.bw.still _)
  have hpx := R8.out.hp.st TX (fun hm => R8.out.qh.ne R8.out.hp (by decide) _ (by simpa using hm) rfl)
  have y8 := (hp_cell hpx 2).trans (show _ = some (.slice sH nH cH) from rfl)
  have f8 := hp_frz hpx 2
  have RN := Lib.hid (R8.out.hear TX (E8.out.bw xr.bw))
  have TN := Lib.hid (((T8.out.weaken (S' := g :: (Value.slice sH nH cH).ownBlock.toList) (by simp)).trans (TX.weaken (S' := g :: (Value.slice sH nH cH).ownBlock.toList) (fun k hk => by simp at hk ⊢; exact .inr hk))).trans ((still_setR xr.now g 2 (.slice s8 (nH + 1) c8)).weaken (S' := g :: (Value.slice sH nH cH).ownBlock.toList) (by simp)))
  clear TX hpx R8 T8 TT E8
  generalize xr.now = w9 at *
  clear xr
  go_wp2_with fail
  go_end0
  exact ⟨va, vb, lv, b3, s8, c8, ⟨_, rfl⟩, hl.out, RN.out, TN.out⟩
end Go.Proofs.YtafhnlnhflehhaaGreatDoor

namespace Go.Proofs.YtafhnlnhflehhaaGreatDoor
open Go.RowKit
theorem NmR.num {x : BL} {b0 b1 : Bool} {v : Int} (h : NmR x b0 v b1) (hb : b0 = false) {n : Nat} (hn : n < 1048576) (e : x = Lib.decDigits n) : b1 = false ∧ v = n := by
 have hb1 := h.of hb ⟨n, hn, e⟩
 obtain ⟨-, m, -, e2, hv⟩ := h.ok hb1
 have := dig_inj (e.symm.trans e2)
 exact ⟨hb1, by omega⟩
inductive SrR (b0 : Bool) : List BL → List Nat → Bool → Prop
 | nil : SrR b0 [] [] b0
 | snoc {ps : List BL} {ls : List Nat} {b : Bool} {p : BL} {v : Int} {b1 : Bool} {n : Nat} (h : SrR b0 ps ls b) (hn : NmR p b v b1) (he : v % 4294967296 = (n : Int)) : SrR b0 (ps ++ [p]) (ls ++ [n]) b1
theorem SrR.len {b0 b : Bool} {ps : List BL} {ls : List Nat} (h : SrR b0 ps ls b) : ls.length = ps.length := by
 induction h with
 | nil => rfl
 | snoc _ _ _ ih => simp [ih]
theorem SrR.ok {b0 b : Bool} {ps : List BL} {ls : List Nat} (h : SrR b0 ps ls b) : b = false → b0 = false ∧ ps = ls.map Lib.decDigits := by
 induction h with
 | nil => exact fun h => ⟨h, rfl⟩
 | @snoc ps ls b p v b1 m _ hn he ih =>
  intro hb
  obtain ⟨h1, n, hn1, e, hv⟩ := hn.ok hb
  obtain ⟨h2, h3⟩ := ih h1
  have hm : n = m := by omega
  refine ⟨h2, ?_⟩
  rw [List.map_append, ← h3, e, hm]
  rfl
theorem SrR.of {b0 b : Bool} {ps : List BL} {ls : List Nat} (h : SrR b0 ps ls b) (hb : b0 = false) : (∀ p ∈ ps, ∃ n : Nat, n < 1048576 ∧ p = Lib.decDigits n) → b = false := by
 induction h with
 | nil => exact fun _ => hb
 | snoc _ hn _ ih => exact fun h => hn.of (ih fun p hp => h p (List.mem_append_left _ hp)) (h _ (by simp))
def TkR (p1 p3 : BL) (b0 : Bool) (vt : Int) (ls : List Nat) (b2 : Bool) : Prop := ∃ b1, NmR p1 b0 vt b1 ∧ SrR b1 (cutB 44 p3) ls b2
inductive LnR (i : Nat) (d : OffD) : List BL → OffD → Bool → Prop
 | seat {x : BL} {v : Int} {b : Bool} (hi : i = 0) (h : NmR x false v b) : LnR i d [kOffer, x] { d with seat := v } b
 | track {x y z : BL} {vt : Int} {ls : List Nat} {b : Bool} (hi : i ≠ 0) (h : TkR x z false vt ls b) : LnR i d [kTrack, x, y, z] { d with W := d.W ++ [⟨vt, cidx y, ls⟩] } (b || decide (0 < d.H.length))
 | hear {x y z : BL} {va vb lv : Int} {b : Bool} (hi : i ≠ 0) (h : HrR x y z false va vb lv b) : LnR i d [kHear, x, y, z] { d with H := d.H ++ [⟨va, vb, lv⟩] } b
def GoodW (i : Nat) (ws : List BL) : Prop := (i = 0 ∧ ∃ x, ws = [kOffer, x]) ∨ (i ≠ 0 ∧ ∃ x y z, ws = [kTrack, x, y, z]) ∨ (i ≠ 0 ∧ ∃ x y z, ws = [kHear, x, y, z])
inductive Rch : List BL → OffD → Bool → Prop
 | nil : Rch [] ⟨0, [], []⟩ false
 | snoc {ls : List BL} {d : OffD} {l : BL} {d' : OffD} {b' : Bool} (h : Rch ls d false) (hl : LnR ls.length d (cutB 32 l) d' b') : Rch (ls ++ [l]) d' b'
theorem Rch.zero {d : OffD} {b : Bool} {ls : List BL} (h : Rch ls d b) (e : ls = []) : d = ⟨0, [], []⟩ := by
 cases h with
 | nil => rfl
 | snoc _ _ => simp at e
theorem lines_seat {d : OffD} (hW : d.W = []) (hH : d.H = []) : linesOf d = [seatL d.seat] := by unfold linesOf; rw [hW, hH]; rfl
theorem Rch.ok {ls : List BL} {d : OffD} {b : Bool} (h : Rch ls d b) : b = false → ls ≠ [] → (∀ w ∈ d.W, 0 ≤ w.c) → ls = linesOf d := by
 induction h with
 | nil => exact fun _ h => absurd rfl h
 | @snoc ls d l d' b' h hl ih =>
  intro hb _ hc
  generalize hws : cutB 32 l = ws at hl
  cases hl with
  | seat hi hn =>
   obtain rfl := List.eq_nil_of_length_eq_zero hi
   obtain rfl := h.zero rfl
   obtain ⟨-, n, -, e, hv⟩ := hn.ok hb
   subst e hv
   rw [lines_seat rfl rfl, line_seat hws]
   rfl
  | track hi ht =>
   obtain ⟨b1, hn, hs⟩ := ht
   rw [Bool.or_eq_false_iff] at hb
   obtain ⟨hb, hH⟩ := hb
   have hH : d.H = [] := List.eq_nil_of_length_eq_zero (by have := of_decide_eq_false hH; omega)
   obtain ⟨h1, h2⟩ := hs.ok hb
   obtain ⟨-, n, -, e, hv⟩ := hn.ok h1
   have hcy := (cidx_ok (hc _ (List.mem_append_right _ List.mem_cons_self))).2
   have ihh := ih rfl (fun e => hi (by rw [e]; rfl)) (fun w hw => hc w (List.mem_append_left _ hw))
   rw [hcy] at hws
   subst e hv
   have := line_wish hws h2
   rw [ihh, this]
   unfold linesOf
   rw [hH]
   simp
  | hear hi hh =>
   obtain ⟨b1, b2, n1, n2, n3⟩ := hh.ex
   have ihh := ih rfl (fun e => hi (by rw [e]; rfl)) hc
   have hb2 : b2 = false := by
    rcases n3 with ⟨-, -, e⟩ | ⟨-, n3⟩
    ·rw [← e]; exact hb
    ·exact (n3.ok hb).1
   obtain ⟨hb1, m2, -, e2, v2⟩ := n2.ok hb2
   obtain ⟨-, m1, -, e1, v1⟩ := n1.ok hb1
   subst e1 e2 v1 v2
   have key : ∀ {lv : Int} {z : BL}, z = layT lv → cutB 32 l = [kHear, Lib.decDigits m1, Lib.decDigits m2, z] → ls ++ [l] = linesOf { d with H := d.H ++ [⟨(m1 : Int), (m2 : Int), lv⟩] } := fun {lv z} e hws => by
    rw [e] at hws
    have := line_hear hws
    rw [ihh, this]
    unfold linesOf
    simp
   rcases n3 with ⟨e3, v3, -⟩ | ⟨e3, n3⟩
   ·refine key ?_ hws
    rw [e3, v3]; rfl
   ·obtain ⟨-, m3, -, e4, v4⟩ := n3.ok hb
    refine key ?_ hws
    rw [e4, v4]
    unfold layT
    rw [if_neg (by omega)]
    rfl
theorem ln_of {o : OffD} {i : Nat} {d d' : OffD} {ws : List BL} {b : Bool} (hM : MayO o) (hk : LineK o i ws) (hd : d = partO o i) (h : LnR i d ws d' b) : b = false ∧ d' = partO o (i + 1) := by
 cases h with
 | @seat x v b hi hn =>
  have hk' := hk
  cases hk' with
  | seat _ e =>
   simp only [List.cons.injEq, and_true, true_and] at e
   have hs := hM.1
   unfold Sm at hs
   obtain ⟨h1, h2⟩ := hn.num rfl (n := o.seat.toNat) (by omega) e
   refine ⟨h1, part_seatS hM hk hd fun n _ e2 => ?_⟩
   have := dig_inj (e2.symm.trans e)
   omega
  | wish j _ h => omega
  | hear j _ h => omega
  | last h => omega
 | @track x y z vt ls b hi ht =>
  have hk' := hk
  cases hk' with
  | seat h => exact absurd h hi
  | hear _ _ _ e => simp only [List.cons.injEq] at e; exact absurd e.1 (by decide)
  | last _ e => simp at e
  | wish j hj hij e =>
   simp only [List.cons.injEq, and_true, true_and] at e
   obtain ⟨e1, e2, e3⟩ := e
   have hok := hM.2.1.1 j hj
   have hne := (okW_inj hok).2.2
   obtain ⟨w1, w2, -, -⟩ := hok
   unfold Sm at w1
   obtain ⟨b1, hn, hs⟩ := ht
   obtain ⟨h1, h2⟩ := hn.num rfl (n := (wi o.W j).t.toNat) (by omega) e1
   have hcz : cutB 44 z = (wi o.W j).s.map Lib.decDigits := by rw [e3]; exact words_src hne
   have h3 : b = false := hs.of h1 fun p hp => by
    rw [hcz] at hp
    obtain ⟨q, hq, rfl⟩ := List.mem_map.1 hp
    obtain ⟨k, hk, rfl⟩ := List.mem_iff_getElem.1 hq
    exact ⟨_, hM.2.1.2.2.2 _ (src_mem hj hk), rfl⟩
   have h4 := (hs.ok h3).2
   refine ⟨?_, part_trackS hM hk hd (fun n _ q => ?_) (fun c hc q => cidx_of hc q) (fun l hl _ q => ?_)⟩
   ·rw [h3, hd, hij]
    unfold partO
    simp
    omega
   ·have := dig_inj (q.symm.trans e1); omega
   ·rw [q, words_src hl] at h4
    exact (map_dig_inj h4).symm
 | @hear x y z va vb lv b hi hh =>
  have hk' := hk
  cases hk' with
  | seat h => exact absurd h hi
  | wish _ _ _ e => simp only [List.cons.injEq] at e; exact absurd e.1 (by decide)
  | last _ e => simp at e
  | hear j hj hij e =>
   simp only [List.cons.injEq, and_true, true_and] at e
   obtain ⟨e1, e2, e3⟩ := e
   obtain ⟨w1, w2, w3, -, -⟩ := hM.2.2.1 j hj
   unfold Sm at w1 w2
   obtain ⟨b1, b2, n1, n2, n3⟩ := hh.ex
   obtain ⟨h1, v1⟩ := n1.num rfl (n := (he o.H j).o.toNat) (by omega) e1
   obtain ⟨h2, v2⟩ := n2.num h1 (n := (he o.H j).t.toNat) (by omega) e2
   have q1 : ∀ n : Nat, n ≤ 1048576 → x = Lib.decDigits n → va = n := fun n _ q => by have := dig_inj (q.symm.trans e1); omega
   have q2 : ∀ n : Nat, n ≤ 1048576 → y = Lib.decDigits n → vb = n := fun n _ q => by have := dig_inj (q.symm.trans e2); omega
   rcases n3 with ⟨e4, v4, h4⟩ | ⟨e4, n3⟩
   ·exact ⟨h4.trans h2, part_hearS hM hk hd q1 q2 (fun _ => v4) (fun h => absurd e4 h)⟩
   ·have hne : (he o.H j).l ≠ -1 := fun hh => e4 (by rw [e3, hh]; rfl)
    have e5 : layT (he o.H j).l = Lib.decDigits (he o.H j).l.toNat := by unfold layT; rw [if_neg hne]; rfl
    obtain ⟨h3, v3⟩ := n3.num h2 (n := (he o.H j).l.toNat) (by omega) (e3.trans e5)
    refine ⟨h3, part_hearS hM hk hd q1 q2 (fun h => absurd h e4) (fun _ n _ q => ?_)⟩
    have := dig_inj (q.symm.trans (e3.trans e5)); omega
theorem line_at {o : OffD} {ls rest : List BL} {l : BL} (h : (ls ++ [l]) ++ rest = linesOf o) : LineK o ls.length (cutB 32 l) ∧ ls.length ≠ o.W.length + o.H.length + 1 := by
 have h1 : (linesOf o)[ls.length]? = some l := by rw [← h]; simp
 constructor
 ·refine lineK o ?_
  rw [List.getElem?_append_left (List.getElem?_eq_some_iff.1 h1).1, h1]
 ·have := (List.getElem?_eq_some_iff.1 h1).1
  have h2 := lines_len o
  rw [List.length_append, List.length_singleton] at h2
  omega
theorem Rch.of {o : OffD} (hM : MayO o) {ls : List BL} {d : OffD} {b : Bool} (h : Rch ls d b) : ∀ rest, ls ++ rest = linesOf o → b = false ∧ d = partO o ls.length := by
 induction h with
 | nil => exact fun _ _ => ⟨rfl, (part_zero o).symm⟩
 | @snoc ls d l d' b' h hl ih =>
  intro rest e
  have h1 := (ih ([l] ++ rest) (by rw [← List.append_assoc]; exact e)).2
  rw [List.length_append, List.length_singleton]
  exact ln_of hM (line_at e).1 h1 hl
theorem lines_of {T : BL} {o : OffD} (h : T ++ [10] = offT o) : cutB 10 T = linesOf o := by
 rw [offT_lines] at h
 rw [List.append_cancel_right h, cut_lines]
theorem take_snoc {L : List BL} {i : Nat} {l : BL} (h : L[i]? = some l) : L.take (i + 1) = L.take i ++ [l] := by rw [List.take_add_one, h]; rfl
theorem take_len {L : List BL} {i : Nat} {l : BL} (h : L[i]? = some l) : (L.take i).length = i := by
 have := (List.getElem?_eq_some_iff.1 h).1
 rw [List.length_take]; omega
theorem rd_neg {T : BL} {i : Nat} {d : OffD} {b : Bool} {l : BL} (h : Rch ((cutB 10 T).take i) d b) (hl : (cutB 10 T)[i]? = some l) (hn : b = true ∨ ¬ GoodW i (cutB 32 l)) : ∀ o, MayO o → T ++ [10] ≠ offT o := fun o hM e => by
 have e1 := lines_of e
 have e2 : (cutB 10 T).take i ++ (cutB 10 T).drop i = linesOf o := by rw [List.take_append_drop, e1]
 rcases hn with hn | hn
 ·have := (h.of hM _ e2).1
  rw [hn] at this
  cases this
 ·have e3 : ((cutB 10 T).take i ++ [l]) ++ (cutB 10 T).drop (i + 1) = linesOf o := by rw [← take_snoc hl, List.take_append_drop, e1]
  obtain ⟨k1, k2⟩ := line_at e3
  rw [take_len hl] at k1 k2
  cases k1 with
  | seat hi e => exact hn (.inl ⟨hi, _, e⟩)
  | wish j _ hi e => exact hn (.inr (.inl ⟨by omega, _, _, _, e⟩))
  | hear j _ hi e => exact hn (.inr (.inr ⟨by omega, _, _, _, e⟩))
  | last hi => exact k2 hi
theorem Rch.next {L : List BL} {i : Nat} {d d' : OffD} {b' : Bool} {l : BL} (h : Rch (L.take i) d false) (hl : L[i]? = some l) (hn : LnR i d (cutB 32 l) d' b') : Rch (L.take (i + 1)) d' b' := by
 rw [take_snoc hl]
 exact .snoc h (by rw [take_len hl]; exact hn)
theorem rd_all {T : BL} {d : OffD} {b : Bool} (h : Rch (cutB 10 T) d b) : (b = false → MayO d → T ++ [10] = offT d) ∧ ∀ o, MayO o → T ++ [10] = offT o → b = false ∧ d = o := by
 constructor
 ·intro hb hM
  have hne : cutB 10 T ≠ [] := by obtain ⟨a, r, e⟩ := cutB_form 10 T; rw [e]; simp
  have e := h.ok hb hne (fun w hw => by
   obtain ⟨j, hj, rfl⟩ := List.mem_iff_getElem.1 hw
   have := (hM.2.1.1 j hj).2.1.1
   rwa [wi_get hj] at this)
  rw [offT_lines, ← e, join_cut]
 ·intro o hM e
  have e1 := lines_of e
  obtain ⟨h1, h2⟩ := h.of hM [] (by rw [List.append_nil, e1])
  refine ⟨h1, h2.trans (part_all o ?_)⟩
  rw [e1]
  have h2 := lines_len o
  rw [List.length_append, List.length_singleton] at h2
  omega
end Go.Proofs.YtafhnlnhflehhaaGreatDoor
