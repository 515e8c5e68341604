/- A reading's track. No condition but the sizes'. A line's reading, whichever it is. No condition but the sizes'. -/
import Derived.Test.YtafhnlnhflehhaaGreatDoorGHf
import Derived.Test.YtafhnlnhflehhaaGreatDoorGHe
import Derived.Test.YtafhnlnhflehhaaGreatDoorOfQ
import Derived.Test.YtafhnlnhflehhaaGreatDoorGHd
namespace Go.Proofs.YtafhnlnhflehhaaGreatDoor
open Go.RowKit
theorem cod_cells {w : World} {g : Nat} (k0 : w.cell? ⟨g, 0, none⟩ = some (.string ⟨#[112, 108, 97, 105, 110]⟩)) (k1 : w.cell? ⟨g, 1, none⟩ = some (.string ⟨#[118, 112, 56]⟩)) (k2 : w.cell? ⟨g, 2, none⟩ = some (.string ⟨#[97, 118, 99]⟩)) : ∀ i : Nat, i < 3 → w.cell? ⟨g, i, none⟩ = some (.string (bS (codT (i : Nat)))) := fun i hi => by
 have : i = 0 ∨ i = 1 ∨ i = 2 := by omega
 rcases this with rfl | rfl | rfl
 ·exact k0
 ·exact k1
 ·exact k2
theorem parts_cells (w : World) (ps : List BL) : ∀ j x, ps[j]? = some x → (w.alloc (.cells (ps.map fun x => Value.string (bS x)).toArray 9)).cell? ⟨w.heap.size, 0 + j, none⟩ = some (.string (bS x)) := fun j x h => by
 rw [Nat.zero_add, hp_cell (HpB.new w _) j, List.getElem?_toArray, List.getElem?_map, h]
 rfl
theorem take_succP {ps : List BL} {j : Nat} {x : BL} (h : ps[j]? = some x) : ps.take (j + 1) = ps.take j ++ [x] := by rw [List.take_add_one, h]; rfl
theorem cutB_lenP (c : UInt8) : ∀ l : BL, (cutB c l).length ≤ l.length + 1
 | [] => Nat.le_refl _
 | x :: l => by
  have ih := cutB_lenP c l
  by_cases h : x = c
  ·subst h; rw [cutB_eq]; simpa using ih
  ·rw [cutB_ne h]
   obtain ⟨a, r, e⟩ := cutB_form c l
   rw [e] at ih ⊢
   simp at ih ⊢
   omega
set_option maxRecDepth 100000 in
set_option maxHeartbeats 8000000 in
theorem ptrack_any (w0 : World) (base g q o n cp : Nat) (d : OffD) (b0 : Bool) (sW : Option Addr) (nW cW : Nat) (sH : Option Addr) (nH cH : Nat) (p1 p2 p3 : BL) (w : World) (h1 : p1.length ≤ 1000000) (h2 : p2.length ≤ 1000000) (h3 : p3.length ≤ 1000000) (hw : BW w0 w) (hN : NumC w0 1048576) (hE : ErrC w0) (hSp : SpC w0) (hR : RpS w base g d b0 sW nW cW sH nH cH) (hq : WdS w q o [p1, p2, p3]) (hn : n = 3) (hqg : q ≠ g) (hb : base ≤ w.heap.size) (hwg : w0.heap.size ≤ g) (hnW : nW ≤ 1000001) :
  Calls Tryz.prog 39 #[.pointer (some ⟨g, 0, none⟩), .slice (some ⟨q, o, none⟩) n cp] w fun e w' => ∃ vt ls b2 sW' cW', (∃ r, e = .returned r) ∧ TkR p1 p3 b0 vt ls b2 ∧ RpS w' base g { d with W := d.W ++ [⟨vt, cidx p2, ls⟩] } (b2 || decide (0 < nH)) sW' (nW + 1) cW' sH nH cH ∧ Still (g :: (Value.slice sW nW cW).ownBlock.toList) w w' := by
 have cN := Lib.hid (fun (x : BL) (hx : x.length ≤ 1000000) (y : World) (hy : BW w0 y) (b : Bool) (hp : HpB y g (.cells (rdC d.seat sW nW cW sH nH cH b) 55)) => rnumber_any w0 g d.seat sW nW cW sH nH cH b x y hx hy hN hE hp)
 have cS := Lib.hid (fun (y : World) (hy : BW w0 y) => split_any (bS p3) 44 (by rw [bS_size]; exact h3) y (hSp.bw hy))
 have B := Lib.hid hw
 have R := Lib.hid hR
 have z0 : w.cell? ⟨q, o, none⟩ = some (.string (bS p1)) := hq 0 p1 rfl
 have z1 : w.cell? ⟨q, o + 1, none⟩ = some (.string (bS p2)) := hq 1 p2 rfl
 have z2 : Hid (w.cell? ⟨q, o + 2, none⟩ = some (.string (bS p3))) := Lib.hid (hq 2 p3 rfl)
 have hgb := Lib.hid hb
 have hg0 := Lib.hid hwg
 have hSg : ∀ k ∈ [g], k < w.heap.size := fun k hk => by obtain rfl : k = g := (by simpa using hk); have := hR.lt; omega
 subst hn
 have h1' := Lib.hid h1
 have h3' := Lib.hid h3
 have hqg' := Lib.hid hqg
 clear hR hN hE hw hq hb h1 h2 h3 hqg hwg hSp
 go_enter Tryz.func39, Tryz.ntmps39
 have m0 : ∀ y : LaterS [] w, _ := fun y => y.bw.cell z0
 have m1 : ∀ y : LaterS [g] w, y.now.cell? ⟨q, o + 1, none⟩ = some (.string (bS p2)) := fun y => y.ok.cellN z1 (by simpa using hqg'.out)
 clear z0 z1
 go_upto_region 0 with (fail)
 refine wp_region_gg ([g]) [4] [12] (by kernel_rfl) ?_
 refine float 11 (fun g => .pointer (some ⟨g, 0, none⟩)) (.cells #[.int .i64 0, .int .i64 0, .slice none 0 0] 41) rfl (by kernel_rfl) (by first | assumption | (intro k hk; cases hk) | omega) rfl (fun x => (by go_simp)) ?_
 refine hoist [] [4] (a1 := ?_) 0 rfl (by kernel_rfl) (.inl ⟨rfl, rfl⟩) rfl rfl rfl (fun x K hK => ?_) ?_
 rotate_left
 ·go_big_quiet_op
  exact hK
 refine hoist [] [4] (a1 := ?_) 1 rfl (by kernel_rfl) (.inl ⟨rfl, rfl⟩) rfl rfl rfl (fun x K hK => ?_) ?_
 rotate_left
 ·go_big_quiet_op
  exact hK
 refine hoist [] [4] (a1 := ?_) 2 rfl (by kernel_rfl) (.inl ⟨rfl, rfl⟩) rfl rfl rfl (fun x K hK => ?_) ?_
 rotate_left
 ·go_big_quiet_op
  exact hK
 refine hoist [] [4] (a1 := ?_) 3 rfl (by kernel_rfl) (.inl ⟨rfl, rfl⟩) rfl rfl rfl (fun x K hK => ?_) ?_
 rotate_left
 ·go_big_quiet_op
  exact hK
 refine hoist ([g]) [] (a1 := ?_) 6 rfl (by kernel_rfl) (.inr rfl) rfl rfl rfl (fun x K hK => ?_) ?_
 rotate_left
 ·go_big_quiet_op
  exact hK
 refine hoist ([g]) [] (a1 := ?_) 7 rfl (by kernel_rfl) (.inr rfl) rfl rfl rfl (fun x K hK => ?_) ?_
 rotate_left
 ·go_big_quiet_op
  exact hK
 refine hoist ([g]) [] (a1 := ?_) 8 rfl (by kernel_rfl) (.inr rfl) rfl rfl rfl (fun x K hK => ?_) ?_
 rotate_left
 ·go_big_quiet_op
  exact hK
 refine effect 4 rfl (by kernel_rfl) (by kernel_rfl) rfl (fun x4 K hK => ?_)
 have R4 := Lib.hid (R.out.bw x4.bw)
 go_simp
 refine Calls.mono (cN.out p1 h1'.out x4.now (B.out.trans x4.bw) b0 R4.out.hp) ?_
 rintro e w4 ⟨vt, b1, rfl, hv1, hp, T⟩
 refine hK _ _ T ?_
 replace T := Lib.hid ((x4.bw.still [g]).trans T)
 replace hv1 := Lib.hid hv1
 replace hp := Lib.hid hp
 clear hK K m0 R4
 try simp only [Act.put, List.setIfInBounds_toArray, List.set_cons_succ, List.set_cons_zero]
 refine effect 5 rfl (by kernel_rfl) (by kernel_rfl) rfl (fun x5 K hK => ?_)
 go_simp
 refine Calls.mono (codecs_any x5.now) ?_
 rintro e w5 ⟨g5, rfl, k0, k1, k2, hb5⟩
 refine hK _ _ (hb5.still _) ?_
 replace hp := Lib.hid ((hp.out.bw x5.bw).bw hb5)
 replace T := Lib.hid (T.out.trans ((x5.bw.trans hb5).still [g]))
 have kc := Lib.hid (cod_cells k0 k1 k2)
 clear hK K hb5 k0 k1 k2
 try simp only [Act.put, List.setIfInBounds_toArray, List.set_cons_succ, List.set_cons_zero]
 refine effect 9 rfl (by kernel_rfl) (by kernel_rfl) rfl (fun x9 K hK => ?_)
 go_simp
 refine Calls.mono (cindex_any p2 g5 x9.now (fun i hi => x9.bw.cell (kc.out i hi))) ?_
 rintro e w9 ⟨rfl, hb9⟩
 refine hK _ _ (hb9.still _) ?_
 replace hp := Lib.hid ((hp.out.bw x9.bw).bw hb9)
 replace T := Lib.hid (T.out.trans ((x9.bw.trans hb9).still [g]))
 clear hK K hb9 kc m1
 try simp only [Act.put, List.setIfInBounds_toArray, List.set_cons_succ, List.set_cons_zero]
 refine hoist [] [4] (a1 := ?_) 10 rfl (by kernel_rfl) (.inl ⟨rfl, rfl⟩) rfl rfl rfl (fun x K hK => ?_) ?_
 rotate_left
 ·go_big_quiet_op
  exact hK
 refine tailF 12 rfl (by kernel_rfl) rfl (fun xr => ?_)
 intro g11 hg11 hG11
 refine fin_nil ?_
 dsimp only at hg11 hG11
 try simp only [Act.put, List.setIfInBounds_toArray, List.set_cons_succ, List.set_cons_zero]
 simp only [List.drop_succ_cons, List.drop_zero]
 have X : HpB xr.now g11 (.cells #[.int .i64 0, .int .i64 0, .slice none 0 0] 41) := hG11
 have hpr := hp.out.bw xr.bw
 have Tr := T.out.trans (xr.bw.still [g])
 clear hG11 T hp
 generalize xr.now = w1 at *
 clear xr
 generalize hcv : cidx p2 = cv at *
 replace hcv := Lib.hid hcv
 go_upto_region 1 with (refine swSt swWi rfl rfl rfl rfl X rfl rfl (by kernel_rfl) ?_)
 have hne : g ≠ g11 := fun e => by have := hSg g (by simp); omega
 have hqn : q < w.heap.size := World.block_lt_of_cell? _ _ z2.out
 have T1 := Lib.hid (Tr.own3 (still_rowS w1 g11 #[.int .i64 vt, .int .i64 cv, .slice none 0 0]) (fun k hk => by obtain rfl : k = g11 := (by simpa using hk); exact .inr hg11))
 have hp1 := Lib.hid (hpr.st (still_rowS w1 g11 #[.int .i64 vt, .int .i64 cv, .slice none 0 0]) (by simpa using hne))
 replace X := X.rowS #[.int .i64 vt, .int .i64 cv, .slice none 0 0]
 clear hpr Tr
 replace hne := Lib.hid hne
 replace hg11 := Lib.hid hg11
 generalize w1.setRow g11 _ = w2 at *
 have z2' := T1.out.cellN z2.out (by simpa using hqg'.out)
 have hg11s := X.lt
 go_wp2_with fail
 refine Calls.mono (cS.out w2 (B.out.stP T1.out (fun k hk => by obtain rfl : k = g := (by simpa using hk); exact hg0.out))) ?_
 rintro e w3 ⟨rfl, hw3⟩
 rw [bS_list] at hw3 ⊢
 have hpc := parts_cells w2 (cutB 44 p3)
 rw [← hw3] at hpc
 have hb3 : BW w2 w3 := by rw [hw3]; exact (BW.refl w2).alloc
 have h8x : Hid (w2.heap.size ≠ g11) := Lib.hid (by omega)
 have h8g : Hid (w2.heap.size ≠ g) := Lib.hid (by have := hSg g (by simp); have := T1.out.size; omega)
 clear hw3 cS z2' hg11s hqn
 generalize w2.heap.size = g8 at *
 have hpl : (cutB 44 p3).length ≤ 1000001 := by
  have := cutB_lenP 44 p3
  have := h3'.out
  omega
 have hTk : Hid (∀ ls b2, SrR b1 (cutB 44 p3) ls b2 → TkR p1 p3 b0 vt ls b2) := Lib.hid (fun ls b2 h => ⟨b1, hv1.out, h⟩)
 have hqs : Hid (∀ x ∈ cutB 44 p3, x.length ≤ 1000000) := Lib.hid (fun x hx => Nat.le_trans (cut_len hx) h3'.out)
 clear hv1
 generalize cutB 44 p3 = parts at *
 obtain ⟨len, hlen⟩ : ∃ l, parts.length = l := ⟨_, rfl⟩
 rw [hlen] at hpl ⊢
 replace T1 := Lib.hid (T1.out.trans (hb3.still [g]))
 replace hp1 := Lib.hid (hp1.out.bw hb3)
 replace X := Lib.hid (X.bw hb3)
 obtain ⟨b5, hb5⟩ : ∃ b, w3.heap.size = b := ⟨_, rfl⟩
 have hgb5 : Hid (g < b5) := Lib.hid (by have := hp1.out.lt; omega)
 have hxb5 : Hid (g11 < b5) := Lib.hid (by have := X.out.lt; omega)
 have hbb5 : Hid (base ≤ b5) := Lib.hid (by have := T1.out.size; have := hgb.out; omega)
 have hU : Hid (EQ EU4 38 w3 b5 (.slice none 0 0) 0 []) := Lib.hid (EQ.nil _ _ _ _)
 have hV : Hid (SrR b1 (parts.take 0) [] b1) := Lib.hid SrR.nil
 clear hb3
 replace hpc := Lib.hid hpc
 replace hlen := Lib.hid hlen
 replace hb5 := Lib.hid hb5
 dsimp only
 go_upto_region 2 with (fail)
 go_loopg [23] len (fun m' v23 wx => ∃ (j : Nat) (ls : List Nat) (sU : Option Addr) (cU : Nat) (b : Bool), m' = len - j ∧ j ≤ len ∧ v23 = .int .i64 (j : Nat) ∧ Hid (HpB wx g11 (.cells #[.int .i64 vt, .int .i64 cv, .slice sU j cU] 41)) ∧ Hid (EQ EU4 38 wx b5 (.slice sU j cU) j ls) ∧ Hid (SrR b1 (parts.take j) ls b) ∧ Hid (HpB wx g (.cells (rdC d.seat sW nW cW sH nH cH b) 55)) ∧ Hid (Still [g, g11] w3 wx))
 case atStart => exact ⟨0, [], none, 0, b1, by omega, by omega, rfl, X, hU, hV, hp1, Lib.hid (Still.refl _ _)⟩
 case round =>
  clear X hU hV hp1
  obtain ⟨j, ls, sU, cU, b, rfl, hj, rfl, X, U, V, hp, T8⟩ := hrel
  obtain ⟨_, _, he, hjc, hcUm⟩ := U.out.len
  cases he
  unfold maxLen at hcUm
  by_cases hjn : j < len
  ·have dj : decide ((j : Int) < (len : Int)) = true := by simp; omega
   have hjl : j < parts.length := by rw [hlen.out]; exact hjn
   have hjg : parts[j]? = some parts[j] := List.getElem?_eq_getElem hjl
   have hjm : parts[j] ∈ parts := List.getElem_mem hjl
   generalize parts[j] = pj at *
   have zp : wr.cell? ⟨g8, j, none⟩ = some (.string (bS pj)) := T8.out.cellN (a := ⟨g8, j, none⟩) ((Nat.zero_add j) ▸ hpc.out j pj hjg) (by simp; exact ⟨h8g.out, h8x.out⟩)
   have hpj := Lib.hid (hqs.out pj hjm)
   replace hjg := Lib.hid hjg
   clear hjm hjl
   go_upto_region 4 with (fail)
   clear zp
   have hgx : g11 ∉ g :: (Value.slice sU j cU).ownBlock.toList := fun hm => by
    rcases List.mem_cons.1 hm with e | hm
    ·exact hne.out e.symm
    ·exact U.out.ne X.out (by decide) g11 (by simpa using hm) rfl
   have z2x := (hp_cell X.out 2).trans (show _ = some (.slice sU j cU) from rfl)
   have m0 : ∀ y : LaterS (g :: (Value.slice sU j cU).ownBlock.toList) wr, y.now.cell? ⟨g11, 2, none⟩ = some (.slice sU j cU) := fun y => y.ok.cellN z2x hgx
   have Bw := Lib.hid ((B.out.stP T1.out (fun k hk => by obtain rfl : k = g := (by simpa using hk); exact hg0.out)).stP T8.out (fun k hk => by
    simp only [List.mem_cons, List.not_mem_nil, or_false] at hk
    rcases hk with rfl | rfl
    ·exact hg0.out
    ·exact Nat.le_trans B.out.size hg11.out))
   replace hgx := Lib.hid hgx
   clear z2x
   refine wp_region_gg (g :: (Value.slice sU j cU).ownBlock.toList) [4, 7] [8] (by kernel_rfl) ?_
   refine hoist (g :: (Value.slice sU j cU).ownBlock.toList) [] (a1 := ?_) 0 rfl (by kernel_rfl) (.inr rfl) rfl rfl rfl (fun x K hK => ?_) ?_
   rotate_left
   ·go_big_quiet_op
    exact hK
   refine hoist (g :: (Value.slice sU j cU).ownBlock.toList) [] (a1 := ?_) 1 rfl (by kernel_rfl) (.inr rfl) rfl rfl rfl (fun x K hK => ?_) ?_
   rotate_left
   ·go_big_quiet_op
    exact hK
   refine hoist [] [4, 7] (a1 := ?_) 2 rfl (by kernel_rfl) (.inl ⟨rfl, rfl⟩) rfl rfl rfl (fun x K hK => ?_) ?_
   rotate_left
   ·go_big_quiet_op
    exact hK
   refine hoist [] [4, 7] (a1 := ?_) 3 rfl (by kernel_rfl) (.inl ⟨rfl, rfl⟩) rfl rfl rfl (fun x K hK => ?_) ?_
   rotate_left
   ·go_big_quiet_op
    exact hK
   refine effect 4 rfl (by kernel_rfl) (by kernel_rfl) rfl (fun x4 K hK => ?_)
   have hp4 := Lib.hid (hp.out.bw x4.bw)
   go_simp
   refine Calls.mono (cN.out pj hpj.out x4.now (Bw.out.trans x4.bw) b hp4.out) ?_
   rintro e w4 ⟨vj, bj, rfl, hvj, hpN, T⟩
   refine hK _ _ (T.weaken (by simp)) ?_
   replace U := Lib.hid ((U.out.bw x4.bw).old T (by simpa using hgb5.out))
   replace X := Lib.hid ((X.out.bw x4.bw).st T (by simpa using hne.out.symm))
   replace T8 := Lib.hid ((T8.out.trans (x4.bw.still _)).trans (T.weaken (S' := [g, g11]) (by simp)))
   replace hp := Lib.hid hpN
   obtain ⟨xn, hxn⟩ : ∃ n : Nat, vj % 4294967296 = n := ⟨(vj % 4294967296).toNat, by omega⟩
   have V2 : Hid (SrR b1 (parts.take (j + 1)) (ls ++ [xn]) bj) := Lib.hid (by rw [take_succP hjg.out]; exact V.out.snoc hvj hxn)
   clear hK K hp4 hvj hpN T Bw V
   try simp only [Act.put, List.setIfInBounds_toArray, List.set_cons_succ, List.set_cons_zero]
   refine hoist [] [4, 7] (a1 := ?_) 5 rfl (by kernel_rfl) (.inl ⟨rfl, rfl⟩) rfl rfl rfl (fun x K hK => ?_) ?_
   rotate_left
   ·go_big_quiet_op
    exact hK
   refine effect 6 rfl (by kernel_rfl) (by kernel_rfl) rfl (fun x6 K hK => ?_)
   go_simp
   refine hK _ _ (Still.of_below ((Below.refl _ _).alloc (Nat.le_refl _) _)) ?_
   clear hK K m0
   have L := Lib.hid (Sls.new1 (E := EU4) x6.now 38 (u4V xn) rfl)
   have hbA := x6.bw.alloc (o := .cells #[.int .u32 (xn : Nat)] 38)
   replace L : Hid (Sls (x6.now.alloc (.cells #[.int .u32 (xn : Nat)] 38)) EU4.size (.slice (some ⟨x6.now.heap.size, 0, none⟩) 1 1) 1 (u4V xn)) := L
   replace U := Lib.hid (U.out.bw hbA)
   replace X := Lib.hid (X.out.bw hbA)
   replace hp := Lib.hid (hp.out.bw hbA)
   replace T8 := Lib.hid (T8.out.trans (hbA.still _))
   clear hbA
   generalize x6.now.alloc _ = w6 at *
   generalize x6.now.heap.size = g6 at *
   try simp only [Act.put, List.setIfInBounds_toArray, List.set_cons_succ, List.set_cons_zero]
   refine effect 7 rfl (by kernel_rfl) (by kernel_rfl) rfl (fun x7 K hK => ?_)
   have U7 := U.out.bw x7.bw
   have X7 := X.out.bw x7.bw
   have hp7 := hp.out.bw x7.bw
   have T7 := T8.out.trans (x7.bw.still _)
   refine wp_apEQ slU4 _ _ rfl b5 (.slice sU j cU) j ls rfl U7 _ rfl 1 [xn] (u4V xn) (L.out.bw x7.bw) (EL.single rfl) rfl (by omega) (Nat.le_trans (Nat.le_of_eq hb5.out.symm) T7.size) (fun _ _ => trivial) ?_
   intro s11 c11 w11 hc11 hm11 E11 T11 B11 G11
   unfold maxLen at hm11
   refine hK _ _ (T11.weaken (fun k hk => List.mem_cons_of_mem _ hk)) ?_
   have X11 := Lib.hid (X7.st T11 (fun hm => U7.ne X7 (by decide) _ (by simpa using hm) rfl))
   have hp11 := Lib.hid (hp7.st T11 (fun hm => U7.ne hp7 (by decide) _ (by simpa using hm) rfl))
   have Tn : Hid (Still [g, g11] w3 w11) := Lib.hid (T7.own3 T11 (fun k hk => .inr (by rw [hb5.out]; exact U7.ge' k (by simpa using hk))))
   have E12 := Lib.hid E11
   clear hK K L U7 X7 hp7 T7 E11 T11 B11 G11 U X hp T8
   try simp only [Act.put, List.setIfInBounds_toArray, List.set_cons_succ, List.set_cons_zero]
   refine tail 8 rfl (by kernel_rfl) rfl (fun xr => ?_)
   simp only [List.drop_succ_cons, List.drop_zero]
   have X12 := X11.out.bw xr.bw
   have hp12 := hp11.out.bw xr.bw
   have y2 := (hp_cell X12 2).trans (show _ = some (.slice sU j cU) from rfl)
   have f2 := hp_frz X12 2
   have E13 := E12.out.bw xr.bw
   have T13 := Tn.out.trans (xr.bw.still _)
   clear X11 E12 Tn hp11
   generalize xr.now = w12 at *
   clear xr
   have hgn : Hid (∀ k ∈ (Value.slice s11 (j + 1) c11).ownBlock.toList, k ≠ g11) := Lib.hid (fun k hk => by
    have h1 := E13.ne X12 (by decide) k (by simpa using hk)
    exact h1)
   have XN : Hid (HpB (w12.setCell ⟨g11, 2, none⟩ (.slice s11 (j + 1) c11)) g11 (.cells #[.int .i64 vt, .int .i64 cv, .slice s11 (j + 1) c11] 41)) := Lib.hid (hp_set X12 2 _)
   have hpN : Hid (HpB (w12.setCell ⟨g11, 2, none⟩ (.slice s11 (j + 1) c11)) g (.cells (rdC d.seat sW nW cW sH nH cH bj) 55)) := Lib.hid (hp12.st (still_setR w12 g11 2 _) (by simpa using hne.out))
   have EN : Hid (EQ EU4 38 (w12.setCell ⟨g11, 2, none⟩ (.slice s11 (j + 1) c11)) b5 (.slice s11 (j + 1) c11) (j + 1) (ls ++ [xn])) := Lib.hid (E13.still (still_setR w12 g11 2 _) (fun _ _ => trivial) (fun k hk hm => hgn.out k (by simpa using hk) (by simpa using hm)))
   have T14 : Hid (Still [g, g11] w3 (w12.setCell ⟨g11, 2, none⟩ (.slice s11 (j + 1) c11))) := Lib.hid (T13.own3 (still_setR w12 g11 2 _) (fun k hk => .inl (by simp at hk ⊢; exact .inr hk)))
   clear hgn X12 E13 T13 hp12 hjg hgx hxn
   go_wp2_with fail
   go_roundg (len - (j + 1))
   case measure => omega
   case rel => exact ⟨j + 1, ls ++ [xn], s11, c11, bj, rfl, by omega, by first | rfl | (push_cast; rfl), XN, EN, V2, hpN, T14⟩
  ·obtain rfl : j = len := by omega
   have dj : decide ((j : Int) < (j : Int)) = false := by simp
   have hfin := Lib.hid (hTk.out ls b (by have h := V.out; rwa [List.take_of_length_le (Nat.le_of_eq hlen.out)] at h))
   have T1r := Lib.hid (T1.out.own3 T8.out (fun k hk => by
    simp only [List.mem_cons, List.not_mem_nil, or_false] at hk
    rcases hk with rfl | rfl
    ·exact .inl (by simp)
    ·exact .inr hg11.out))
   have R6 := Lib.hid (R.out.num T1r.out hp.out)
   have y3 := (hp_cell R6.out.hp 3).trans (show _ = some (.bool b) from rfl)
   have f3 := hp_frz R6.out.hp 3
   have y2 := (hp_cell R6.out.hp 2).trans (show _ = some (.slice sH nH cH) from rfl)
   clear V T8 T1 hTk hpc hqs hp
   cases b with
   | true =>
    have hbv : Hid ((true || decide (0 < nH)) = true) := Lib.hid rfl
    go_upto_region 7 with (fail)
    replace U := Lib.hid (U.out.old (still_setR wr g 3 (.bool true)) (by simpa using hgb5.out))
    replace X := Lib.hid (X.out.st (still_setR wr g 3 (.bool true)) (by simpa using hne.out.symm))
    have R7 := Lib.hid (R6.out.bad' true)
    have T7 := Lib.hid (T1r.out.trans (still_setR wr g 3 (.bool true)))
    generalize wr.setCell ⟨g, 3, none⟩ (.bool true) = w7 at *
    clear R6 T1r y3 f3 y2
    have q1 := (hp_cell R7.out.hp 1).trans (show _ = some (.slice sW nW cW) from rfl)
    have mq : ∀ y : LaterS [] w7, _ := fun y => y.bw.cell q1
    obtain ⟨_, _, he, hnWc, hcWm⟩ := R7.out.qw.len
    cases he
    unfold maxLen at hcWm
    clear q1
    refine wp_region_gg ((Value.slice sW nW cW).ownBlock.toList) [8] [9] (by kernel_rfl) ?_
    refine hoist ((Value.slice sW nW cW).ownBlock.toList) [] (a1 := ?_) 0 rfl (by kernel_rfl) (.inr rfl) rfl rfl rfl (fun x K hK => ?_) ?_
    rotate_left
    ·go_big_quiet_op
     exact hK
    refine hoist [] [8] (a1 := ?_) 1 rfl (by kernel_rfl) (.inl ⟨rfl, rfl⟩) rfl rfl rfl (fun x K hK => ?_) ?_
    rotate_left
    ·go_big_quiet_op
     exact hK
    refine hoist [] [8] (a1 := ?_) 2 rfl (by kernel_rfl) (.inl ⟨rfl, rfl⟩) rfl rfl rfl (fun x K hK => ?_) ?_
    rotate_left
    ·go_big_quiet_op
     exact hK
    refine hoist [] [8] (a1 := ?_) 3 rfl (by kernel_rfl) (.inl ⟨rfl, rfl⟩) rfl rfl rfl (fun x K hK => ?_) ?_
    rotate_left
    ·go_big_quiet_op
     exact hK
    refine hoist [] [8] (a1 := ?_) 4 rfl (by kernel_rfl) (.inl ⟨rfl, rfl⟩) rfl rfl rfl (fun x K hK => ?_) ?_
    rotate_left
    ·go_big_quiet_op
     exact hK
    refine hoist [] [8] (a1 := ?_) 5 rfl (by kernel_rfl) (.inl ⟨rfl, rfl⟩) rfl rfl rfl (fun x K hK => ?_) ?_
    rotate_left
    ·go_big_quiet_op
     exact hK
    refine hoist [] [8] (a1 := ?_) 6 rfl (by kernel_rfl) (.inl ⟨rfl, rfl⟩) rfl rfl rfl (fun x K hK => ?_) ?_
    rotate_left
    ·refine swQlC swWi rfl (by rfl) (c := #[.int .i64 vt, .int .i64 cv, .slice sU j cU]) rfl (fun w' hw => by subst hw; exact (X.out.bw x.bw).range 0 _ rfl) (by simp only [Act.put, List.setIfInBounds_toArray, List.set_cons_succ, List.set_cons_zero]; rfl) ?_
     exact hK
    refine effect 7 rfl (by kernel_rfl) (by kernel_rfl) rfl (fun x7 K hK => ?_)
    go_simp
    refine hK _ _ (Still.of_below ((Below.refl _ _).alloc (Nat.le_refl _) _)) ?_
    clear hK K mq
    have L := Lib.hid (Sls.new1 (E := EWo) x7.now 41 [.int .i64 vt, .int .i64 cv, .slice sU j cU] rfl)
    have hbA := x7.bw.alloc (o := .cells [Value.int .i64 vt, .int .i64 cv, .slice sU j cU].toArray 41)
    have hRW : Hid (EWo.R (x7.now.alloc (.cells [Value.int .i64 vt, .int .i64 cv, .slice sU j cU].toArray 41)) base ⟨vt, cv, ls⟩ [.int .i64 vt, .int .i64 cv, .slice sU j cU]) := Lib.hid ⟨sU, j, cU, rfl, (U.out.bw hbA).up hbb5.out⟩
    have R8 := Lib.hid (R7.out.bw hbA)
    have T8 := Lib.hid (T7.out.trans (hbA.still [g]))
    clear hbA X U R7 T7
    generalize x7.now.alloc _ = w8 at *
    generalize x7.now.heap.size = g7 at *
    try simp only [Act.put, List.setIfInBounds_toArray, List.set_cons_succ, List.set_cons_zero]
    refine effect 8 rfl (by kernel_rfl) (by kernel_rfl) rfl (fun x8 K hK => ?_)
    have R9 := Lib.hid (R8.out.bw x8.bw)
    have T9 := Lib.hid (T8.out.trans (x8.bw.still [g]))
    refine wp_apEQ slWi _ _ rfl base (.slice sW nW cW) nW d.W rfl R9.out.qw _ rfl 1 [⟨vt, cv, ls⟩] _ (L.out.bw x8.bw) (EL.single (EWo.bw hRW.out x8.bw)) rfl (by omega) (Nat.le_trans hgb.out T9.out.size) (R9.out.qw.noU (by decide)) ?_
    intro s8 c8 w9 hc8 hm8 E8 TT B8 G8
    unfold maxLen at hm8
    refine hK _ _ TT ?_
    clear hK K
    replace TT := Lib.hid TT
    replace E8 := Lib.hid E8
    clear B8 G8 L R8 T8 hRW
    try simp only [Act.put, List.setIfInBounds_toArray, List.set_cons_succ, List.set_cons_zero]
    refine tail 9 rfl (by kernel_rfl) rfl (fun xr => ?_)
    simp only [List.drop_succ_cons, List.drop_zero]
    have TX := TT.out.trans (xr.bw.still _)
    have hpx := R9.out.hp.st TX (fun hm => R9.out.qw.ne R9.out.hp (by decide) _ (by simpa using hm) rfl)
    have y8 := (hp_cell hpx 1).trans (show _ = some (.slice sW nW cW) from rfl)
    have f8 := hp_frz hpx 1
    have RN := Lib.hid (R9.out.wish TX (E8.out.bw xr.bw))
    have TN := Lib.hid (((T9.out.weaken (S' := g :: (Value.slice sW nW cW).ownBlock.toList) (by simp)).trans (TX.weaken (S' := g :: (Value.slice sW nW cW).ownBlock.toList) (fun k hk => by simp at hk ⊢; exact .inr hk))).trans ((still_setR xr.now g 1 (.slice s8 (nW + 1) c8)).weaken (S' := g :: (Value.slice sW nW cW).ownBlock.toList) (by simp)))
    clear TX hpx R9 T9 TT E8
    generalize xr.now = w10 at *
    clear xr
    go_wp2_with fail
    go_end0
    exact ⟨vt, ls, _, s8, c8, ⟨_, rfl⟩, hfin.out, by rw [hbv.out, hcv.out]; exact RN.out, TN.out⟩
   | false =>
    by_cases hz : 0 < nH
    ·have dz : decide ((0 : Int) < (nH : Int)) = true := by simp; omega
     have hbv : Hid ((false || decide (0 < nH)) = true) := Lib.hid (by simp; exact hz)
     go_upto_region 7 with (fail)
     clear dz
     replace U := Lib.hid (U.out.old (still_setR wr g 3 (.bool true)) (by simpa using hgb5.out))
     replace X := Lib.hid (X.out.st (still_setR wr g 3 (.bool true)) (by simpa using hne.out.symm))
     have R7 := Lib.hid (R6.out.bad' true)
     have T7 := Lib.hid (T1r.out.trans (still_setR wr g 3 (.bool true)))
     generalize wr.setCell ⟨g, 3, none⟩ (.bool true) = w7 at *
     clear R6 T1r y3 f3 y2
     have q1 := (hp_cell R7.out.hp 1).trans (show _ = some (.slice sW nW cW) from rfl)
     have mq : ∀ y : LaterS [] w7, _ := fun y => y.bw.cell q1
     obtain ⟨_, _, he, hnWc, hcWm⟩ := R7.out.qw.len
     cases he
     unfold maxLen at hcWm
     clear q1
     refine wp_region_gg ((Value.slice sW nW cW).ownBlock.toList) [8] [9] (by kernel_rfl) ?_
     refine hoist ((Value.slice sW nW cW).ownBlock.toList) [] (a1 := ?_) 0 rfl (by kernel_rfl) (.inr rfl) rfl rfl rfl (fun x K hK => ?_) ?_
     rotate_left
     ·go_big_quiet_op
      exact hK
     refine hoist [] [8] (a1 := ?_) 1 rfl (by kernel_rfl) (.inl ⟨rfl, rfl⟩) rfl rfl rfl (fun x K hK => ?_) ?_
     rotate_left
     ·go_big_quiet_op
      exact hK
     refine hoist [] [8] (a1 := ?_) 2 rfl (by kernel_rfl) (.inl ⟨rfl, rfl⟩) rfl rfl rfl (fun x K hK => ?_) ?_
     rotate_left
     ·go_big_quiet_op
      exact hK
     refine hoist [] [8] (a1 := ?_) 3 rfl (by kernel_rfl) (.inl ⟨rfl, rfl⟩) rfl rfl rfl (fun x K hK => ?_) ?_
     rotate_left
     ·go_big_quiet_op
      exact hK
     refine hoist [] [8] (a1 := ?_) 4 rfl (by kernel_rfl) (.inl ⟨rfl, rfl⟩) rfl rfl rfl (fun x K hK => ?_) ?_
     rotate_left
     ·go_big_quiet_op
      exact hK
     refine hoist [] [8] (a1 := ?_) 5 rfl (by kernel_rfl) (.inl ⟨rfl, rfl⟩) rfl rfl rfl (fun x K hK => ?_) ?_
     rotate_left
     ·go_big_quiet_op
      exact hK
     refine hoist [] [8] (a1 := ?_) 6 rfl (by kernel_rfl) (.inl ⟨rfl, rfl⟩) rfl rfl rfl (fun x K hK => ?_) ?_
     rotate_left
     ·refine swQlC swWi rfl (by rfl) (c := #[.int .i64 vt, .int .i64 cv, .slice sU j cU]) rfl (fun w' hw => by subst hw; exact (X.out.bw x.bw).range 0 _ rfl) (by simp only [Act.put, List.setIfInBounds_toArray, List.set_cons_succ, List.set_cons_zero]; rfl) ?_
      exact hK
     refine effect 7 rfl (by kernel_rfl) (by kernel_rfl) rfl (fun x7 K hK => ?_)
     go_simp
     refine hK _ _ (Still.of_below ((Below.refl _ _).alloc (Nat.le_refl _) _)) ?_
     clear hK K mq
     have L := Lib.hid (Sls.new1 (E := EWo) x7.now 41 [.int .i64 vt, .int .i64 cv, .slice sU j cU] rfl)
     have hbA := x7.bw.alloc (o := .cells [Value.int .i64 vt, .int .i64 cv, .slice sU j cU].toArray 41)
     have hRW : Hid (EWo.R (x7.now.alloc (.cells [Value.int .i64 vt, .int .i64 cv, .slice sU j cU].toArray 41)) base ⟨vt, cv, ls⟩ [.int .i64 vt, .int .i64 cv, .slice sU j cU]) := Lib.hid ⟨sU, j, cU, rfl, (U.out.bw hbA).up hbb5.out⟩
     have R8 := Lib.hid (R7.out.bw hbA)
     have T8 := Lib.hid (T7.out.trans (hbA.still [g]))
     clear hbA X U R7 T7
     generalize x7.now.alloc _ = w8 at *
     generalize x7.now.heap.size = g7 at *
     try simp only [Act.put, List.setIfInBounds_toArray, List.set_cons_succ, List.set_cons_zero]
     refine effect 8 rfl (by kernel_rfl) (by kernel_rfl) rfl (fun x8 K hK => ?_)
     have R9 := Lib.hid (R8.out.bw x8.bw)
     have T9 := Lib.hid (T8.out.trans (x8.bw.still [g]))
     refine wp_apEQ slWi _ _ rfl base (.slice sW nW cW) nW d.W rfl R9.out.qw _ rfl 1 [⟨vt, cv, ls⟩] _ (L.out.bw x8.bw) (EL.single (EWo.bw hRW.out x8.bw)) rfl (by omega) (Nat.le_trans hgb.out T9.out.size) (R9.out.qw.noU (by decide)) ?_
     intro s8 c8 w9 hc8 hm8 E8 TT B8 G8
     unfold maxLen at hm8
     refine hK _ _ TT ?_
     clear hK K
     replace TT := Lib.hid TT
     replace E8 := Lib.hid E8
     clear B8 G8 L R8 T8 hRW
     try simp only [Act.put, List.setIfInBounds_toArray, List.set_cons_succ, List.set_cons_zero]
     refine tail 9 rfl (by kernel_rfl) rfl (fun xr => ?_)
     simp only [List.drop_succ_cons, List.drop_zero]
     have TX := TT.out.trans (xr.bw.still _)
     have hpx := R9.out.hp.st TX (fun hm => R9.out.qw.ne R9.out.hp (by decide) _ (by simpa using hm) rfl)
     have y8 := (hp_cell hpx 1).trans (show _ = some (.slice sW nW cW) from rfl)
     have f8 := hp_frz hpx 1
     have RN := Lib.hid (R9.out.wish TX (E8.out.bw xr.bw))
     have TN := Lib.hid (((T9.out.weaken (S' := g :: (Value.slice sW nW cW).ownBlock.toList) (by simp)).trans (TX.weaken (S' := g :: (Value.slice sW nW cW).ownBlock.toList) (fun k hk => by simp at hk ⊢; exact .inr hk))).trans ((still_setR xr.now g 1 (.slice s8 (nW + 1) c8)).weaken (S' := g :: (Value.slice sW nW cW).ownBlock.toList) (by simp)))
     clear TX hpx R9 T9 TT E8
     generalize xr.now = w10 at *
     clear xr
     go_wp2_with fail
     go_end0
     exact ⟨vt, ls, _, s8, c8, ⟨_, rfl⟩, hfin.out, by rw [hbv.out, hcv.out]; exact RN.out, TN.out⟩
    ·have dz : decide ((0 : Int) < (nH : Int)) = false := by simp; omega
     have hbv : Hid ((false || decide (0 < nH)) = false) := Lib.hid (by simp; omega)
     go_upto_region 7 with (fail)
     clear dz
     replace U := Lib.hid (U.out.old (still_setR wr g 3 (.bool false)) (by simpa using hgb5.out))
     replace X := Lib.hid (X.out.st (still_setR wr g 3 (.bool false)) (by simpa using hne.out.symm))
     have R7 := Lib.hid (R6.out.bad' false)
     have T7 := Lib.hid (T1r.out.trans (still_setR wr g 3 (.bool false)))
     generalize wr.setCell ⟨g, 3, none⟩ (.bool false) = w7 at *
     clear R6 T1r y3 f3 y2
     have q1 := (hp_cell R7.out.hp 1).trans (show _ = some (.slice sW nW cW) from rfl)
     have mq : ∀ y : LaterS [] w7, _ := fun y => y.bw.cell q1
     obtain ⟨_, _, he, hnWc, hcWm⟩ := R7.out.qw.len
     cases he
     unfold maxLen at hcWm
     clear q1
     refine wp_region_gg ((Value.slice sW nW cW).ownBlock.toList) [8] [9] (by kernel_rfl) ?_
     refine hoist ((Value.slice sW nW cW).ownBlock.toList) [] (a1 := ?_) 0 rfl (by kernel_rfl) (.inr rfl) rfl rfl rfl (fun x K hK => ?_) ?_
     rotate_left
     ·go_big_quiet_op
      exact hK
     refine hoist [] [8] (a1 := ?_) 1 rfl (by kernel_rfl) (.inl ⟨rfl, rfl⟩) rfl rfl rfl (fun x K hK => ?_) ?_
     rotate_left
     ·go_big_quiet_op
      exact hK
     refine hoist [] [8] (a1 := ?_) 2 rfl (by kernel_rfl) (.inl ⟨rfl, rfl⟩) rfl rfl rfl (fun x K hK => ?_) ?_
     rotate_left
     ·go_big_quiet_op
      exact hK
     refine hoist [] [8] (a1 := ?_) 3 rfl (by kernel_rfl) (.inl ⟨rfl, rfl⟩) rfl rfl rfl (fun x K hK => ?_) ?_
     rotate_left
     ·go_big_quiet_op
      exact hK
     refine hoist [] [8] (a1 := ?_) 4 rfl (by kernel_rfl) (.inl ⟨rfl, rfl⟩) rfl rfl rfl (fun x K hK => ?_) ?_
     rotate_left
     ·go_big_quiet_op
      exact hK
     refine hoist [] [8] (a1 := ?_) 5 rfl (by kernel_rfl) (.inl ⟨rfl, rfl⟩) rfl rfl rfl (fun x K hK => ?_) ?_
     rotate_left
     ·go_big_quiet_op
      exact hK
     refine hoist [] [8] (a1 := ?_) 6 rfl (by kernel_rfl) (.inl ⟨rfl, rfl⟩) rfl rfl rfl (fun x K hK => ?_) ?_
     rotate_left
     ·refine swQlC swWi rfl (by rfl) (c := #[.int .i64 vt, .int .i64 cv, .slice sU j cU]) rfl (fun w' hw => by subst hw; exact (X.out.bw x.bw).range 0 _ rfl) (by simp only [Act.put, List.setIfInBounds_toArray, List.set_cons_succ, List.set_cons_zero]; rfl) ?_
      exact hK
     refine effect 7 rfl (by kernel_rfl) (by kernel_rfl) rfl (fun x7 K hK => ?_)
     go_simp
     refine hK _ _ (Still.of_below ((Below.refl _ _).alloc (Nat.le_refl _) _)) ?_
     clear hK K mq
     have L := Lib.hid (Sls.new1 (E := EWo) x7.now 41 [.int .i64 vt, .int .i64 cv, .slice sU j cU] rfl)
     have hbA := x7.bw.alloc (o := .cells [Value.int .i64 vt, .int .i64 cv, .slice sU j cU].toArray 41)
     have hRW : Hid (EWo.R (x7.now.alloc (.cells [Value.int .i64 vt, .int .i64 cv, .slice sU j cU].toArray 41)) base ⟨vt, cv, ls⟩ [.int .i64 vt, .int .i64 cv, .slice sU j cU]) := Lib.hid ⟨sU, j, cU, rfl, (U.out.bw hbA).up hbb5.out⟩
     have R8 := Lib.hid (R7.out.bw hbA)
     have T8 := Lib.hid (T7.out.trans (hbA.still [g]))
     clear hbA X U R7 T7
     generalize x7.now.alloc _ = w8 at *
     generalize x7.now.heap.size = g7 at *
     try simp only [Act.put, List.setIfInBounds_toArray, List.set_cons_succ, List.set_cons_zero]
     refine effect 8 rfl (by kernel_rfl) (by kernel_rfl) rfl (fun x8 K hK => ?_)
     have R9 := Lib.hid (R8.out.bw x8.bw)
     have T9 := Lib.hid (T8.out.trans (x8.bw.still [g]))
     refine wp_apEQ slWi _ _ rfl base (.slice sW nW cW) nW d.W rfl R9.out.qw _ rfl 1 [⟨vt, cv, ls⟩] _ (L.out.bw x8.bw) (EL.single (EWo.bw hRW.out x8.bw)) rfl (by omega) (Nat.le_trans hgb.out T9.out.size) (R9.out.qw.noU (by decide)) ?_
     intro s8 c8 w9 hc8 hm8 E8 TT B8 G8
     unfold maxLen at hm8
     refine hK _ _ TT ?_
     clear hK K
     replace TT := Lib.hid TT
     replace E8 := Lib.hid E8
     clear B8 G8 L R8 T8 hRW
     try simp only [Act.put, List.setIfInBounds_toArray, List.set_cons_succ, List.set_cons_zero]
     refine tail 9 rfl (by kernel_rfl) rfl (fun xr => ?_)
     simp only [List.drop_succ_cons, List.drop_zero]
     have TX := TT.out.trans (xr.bw.still _)
     have hpx := R9.out.hp.st TX (fun hm => R9.out.qw.ne R9.out.hp (by decide) _ (by simpa using hm) rfl)
     have y8 := (hp_cell hpx 1).trans (show _ = some (.slice sW nW cW) from rfl)
     have f8 := hp_frz hpx 1
     have RN := Lib.hid (R9.out.wish TX (E8.out.bw xr.bw))
     have TN := Lib.hid (((T9.out.weaken (S' := g :: (Value.slice sW nW cW).ownBlock.toList) (by simp)).trans (TX.weaken (S' := g :: (Value.slice sW nW cW).ownBlock.toList) (fun k hk => by simp at hk ⊢; exact .inr hk))).trans ((still_setR xr.now g 1 (.slice s8 (nW + 1) c8)).weaken (S' := g :: (Value.slice sW nW cW).ownBlock.toList) (by simp)))
     clear TX hpx R9 T9 TT E8
     generalize xr.now = w10 at *
     clear xr
     go_wp2_with fail
     go_end0
     exact ⟨vt, ls, _, s8, c8, ⟨_, rfl⟩, hfin.out, by rw [hbv.out, hcv.out]; exact RN.out, TN.out⟩
end Go.Proofs.YtafhnlnhflehhaaGreatDoor

namespace Go.Proofs.YtafhnlnhflehhaaGreatDoor
open Go.RowKit
inductive LnF : BL → Int → FuncId → Prop
 | seat : LnF kOffer 1 38
 | track : LnF kTrack 3 39
 | hear : LnF kHear 3 40
theorem LkR.form {x : BL} {v : Value} (h : LkR x v) : (∃ m f, v = .tuple #[lnV m f, .bool true] ∧ LnF x m f) ∨ ((x ≠ kOffer ∧ x ≠ kTrack ∧ x ≠ kHear) ∧ v = .tuple #[.agg #[.int .i64 0, .nilFunc], .bool false]) := by
 rcases h with ⟨rfl, rfl⟩ | ⟨rfl, rfl⟩ | ⟨rfl, rfl⟩ | h
 ·exact .inl ⟨_, _, rfl, .seat⟩
 ·exact .inl ⟨_, _, rfl, .track⟩
 ·exact .inl ⟨_, _, rfl, .hear⟩
 ·exact .inr h
theorem LnF.enter {x : BL} {m : Int} {f : FuncId} (h : LnF x m f) : ∀ args w, (callFunc f args).run Tryz.prog w = .ok (.enter f args) w := by
 cases h <;> intro args w <;> kernel_rfl
theorem len_three {α : Type} {l : List α} (h : l.length = 3) : ∃ a b c, l = [a, b, c] := by
 match l, h with
 | [a, b, c], _ => exact ⟨a, b, c, rfl⟩
theorem LnF.pos {x : BL} {m : Int} {f : FuncId} (h : LnF x m f) : 1 ≤ m ∧ m ≤ 3 := by
 cases h <;> decide
theorem LnF.good {x : BL} {m : Int} {f : FuncId} (h : LnF x m f) {i : Nat} {ws : List BL} : GoodW i (x :: ws) ↔ ((ws.length : Int) = m ∧ (i = 0 ↔ x = kOffer)) := by
 have k1 : kTrack ≠ kOffer := by decide
 have k2 : kHear ≠ kOffer := by decide
 have k3 : kTrack ≠ kHear := by decide
 unfold GoodW
 cases h with
 | seat =>
  constructor
  ·rintro (⟨hi, a, e⟩ | ⟨hi, a, b, c, e⟩ | ⟨hi, a, b, c, e⟩)
   ·simp only [List.cons.injEq, true_and] at e; subst e; exact ⟨rfl, by simp [hi]⟩
   ·simp only [List.cons.injEq] at e; exact absurd e.1.symm k1
   ·simp only [List.cons.injEq] at e; exact absurd e.1.symm k2
  ·rintro ⟨hl, hi⟩
   refine .inl ⟨hi.2 rfl, ?_⟩
   obtain ⟨a, rfl⟩ := List.length_eq_one_iff.1 (show ws.length = 1 by omega)
   exact ⟨a, rfl⟩
 | track =>
  constructor
  ·rintro (⟨hi, a, e⟩ | ⟨hi, a, b, c, e⟩ | ⟨hi, a, b, c, e⟩)
   ·simp only [List.cons.injEq] at e; exact absurd e.1 k1
   ·simp only [List.cons.injEq, true_and] at e; subst e; exact ⟨rfl, by simp [hi, k1]⟩
   ·simp only [List.cons.injEq] at e; exact absurd e.1 k3
  ·rintro ⟨hl, hi⟩
   obtain ⟨a, b, c, rfl⟩ := len_three (show ws.length = 3 by omega)
   exact .inr (.inl ⟨fun h => k1 (hi.1 h), a, b, c, rfl⟩)
 | hear =>
  constructor
  ·rintro (⟨hi, a, e⟩ | ⟨hi, a, b, c, e⟩ | ⟨hi, a, b, c, e⟩)
   ·simp only [List.cons.injEq] at e; exact absurd e.1 k2
   ·simp only [List.cons.injEq] at e; exact absurd e.1.symm k3
   ·simp only [List.cons.injEq, true_and] at e; subst e; exact ⟨rfl, by simp [hi, k2]⟩
  ·rintro ⟨hl, hi⟩
   obtain ⟨a, b, c, rfl⟩ := len_three (show ws.length = 3 by omega)
   exact .inr (.inr ⟨fun h => k2 (hi.1 h), a, b, c, rfl⟩)
theorem good_no {x : BL} {i : Nat} {ws : List BL} (h : x ≠ kOffer ∧ x ≠ kTrack ∧ x ≠ kHear) : ¬ GoodW i (x :: ws) := by
 unfold GoodW
 rintro (⟨hi, a, e⟩ | ⟨hi, a, b, c, e⟩ | ⟨hi, a, b, c, e⟩) <;> simp only [List.cons.injEq] at e
 ·exact h.1 e.1
 ·exact h.2.1 e.1
 ·exact h.2.2 e.1
def LnP (w : World) (base g i : Nat) (d : OffD) (sW : Option Addr) (nW cW : Nat) (sH : Option Addr) (nH cH : Nat) (ws : List BL) (e : Ending) (w' : World) : Prop :=
 ∃ d' b' sW' nW' cW' sH' nH' cH', (∃ r, e = .returned r) ∧ LnR i d ws d' b' ∧ RpS w' base g d' b' sW' nW' cW' sH' nH' cH' ∧ Still (g :: ((Value.slice sW nW cW).ownBlock.toList ++ (Value.slice sH nH cH).ownBlock.toList)) w w' ∧ nW' ≤ nW + 1 ∧ nH' ≤ nH + 1 ∧ ∀ x ∈ d'.W, x ∈ d.W ∨ x.s.length ≤ 2001
theorem rline_any (w0 : World) (base g q o n cp i : Nat) (d : OffD) (sW : Option Addr) (nW cW : Nat) (sH : Option Addr) (nH cH : Nat) (p0 : BL) (ws : List BL) (m : Int) (F : FuncId) (w : World) (hF : LnF p0 m F) (hws : ∀ x ∈ ws, x.length ≤ 2000) (hG : GoodW i (p0 :: ws)) (hlen : ws.length = n) (hw : BW w0 w) (hN : NumC w0 1048576) (hE : ErrC w0) (hSp : SpC w0) (hR : RpS w base g d false sW nW cW sH nH cH) (hq : WdS w q o ws) (hqg : q ≠ g) (hb : base ≤ w.heap.size) (hwg : w0.heap.size ≤ g) (hnW : nW ≤ 1000001) (hnH : nH ≤ 1000001) :
  Calls Tryz.prog F #[.pointer (some ⟨g, 0, none⟩), .slice (some ⟨q, o, none⟩) n cp] w fun e w' => LnP w base g i d sW nW cW sH nH cH (p0 :: ws) e w' := by
 have hln := (hF.good).1 hG
 have hx : ∀ x ∈ ws, x.length ≤ 1000000 := fun x hx => Nat.le_trans (hws x hx) (by decide)
 cases hF with
 | seat =>
  obtain ⟨a, rfl⟩ := List.length_eq_one_iff.1 (show ws.length = 1 by have := hln.1; omega)
  refine (pseat_any w0 base g q o n cp d false sW nW cW sH nH cH a w (hx a (by simp)) hw hN hE hR hq (by simp at hlen; omega)).mono ?_
  rintro e w' ⟨v, b1, hr, hn, hR', T⟩
  exact ⟨_, b1, sW, nW, cW, sH, nH, cH, hr, .seat (hln.2.2 rfl) hn, hR', T.weaken (by simp), by omega, by omega, fun x hx => .inl hx⟩
 | track =>
  obtain ⟨a, b, c, rfl⟩ := len_three (show ws.length = 3 by have := hln.1; omega)
  refine (ptrack_any w0 base g q o n cp d false sW nW cW sH nH cH a b c w (hx a (by simp)) (hx b (by simp)) (hx c (by simp)) hw hN hE hSp hR hq (by simp at hlen; omega) hqg hb hwg hnW).mono ?_
  rintro e w' ⟨vt, ls, b2, sW', cW', hr, hn, hR', T⟩
  have hl : ls.length ≤ 2001 := by
   obtain ⟨b1, -, hs⟩ := hn
   have h1 := hs.len
   have h2 := cutB_lenP 44 c
   have h3 := hws c (by simp)
   omega
  have hH : nH = d.H.length := hR.qh.1.symm
  rw [hH] at hR'
  subst hH
  exact ⟨_, _, sW', nW + 1, cW', sH, d.H.length, cH, hr, .track (fun h => absurd (hln.2.1 h) (by decide)) hn, hR', T.weaken (fun k hk => by simp at hk ⊢; rcases hk with rfl | hk; exact .inl rfl; exact .inr (.inl hk)), by omega, by omega, fun x hx => by
   rcases List.mem_append.1 hx with hx | hx
   ·exact .inl hx
   ·obtain rfl := List.mem_singleton.1 hx; exact .inr hl⟩
 | hear =>
  obtain ⟨a, b, c, rfl⟩ := len_three (show ws.length = 3 by have := hln.1; omega)
  refine (phear_any w0 base g q o n cp d false sW nW cW sH nH cH a b c w (hx a (by simp)) (hx b (by simp)) (hx c (by simp)) hw hN hE hR hq (by simp at hlen; omega) hqg hb hwg hnH).mono ?_
  rintro e w' ⟨va, vb, lv, b3, sH', cH', hr, hn, hR', T⟩
  exact ⟨_, _, sW, nW, cW, sH', nH + 1, cH', hr, .hear (fun h => absurd (hln.2.1 h) (by decide)) hn, hR', T.weaken (fun k hk => by simp at hk ⊢; rcases hk with rfl | hk; exact .inl rfl; exact .inr (.inr hk)), by omega, by omega, fun x hx => .inl hx⟩
end Go.Proofs.YtafhnlnhflehhaaGreatDoor
