/- The program's Read (printed by wip/gen/genOhY.py). No condition but the sizes'. -/
import Derived.Test.YtafhnlnhflehhaaGreatDoorGHg
import Derived.Test.YtafhnlnhflehhaaGreatDoorGHd
import Derived.Test.YtafhnlnhflehhaaGreatDoorOfR
namespace Go.Proofs.YtafhnlnhflehhaaGreatDoor
open Go.RowKit
theorem swLdGC {T : TypeId} {n : Nat} {ops : Array Oper} {rest : List Oper} {o : Oper} {a : Act} {w : World} {Q : Exit → Act → World → Prop} (hT : SwT T n) (hw : Region.wanted o (yielded ops a.tmps) = true) {x : Operand} (ho : o.op = .load T x) {g off : Nat} (hx : a.eval x = .pointer (some ⟨g, off, none⟩)) {c : Array Value} (H : w.rangeAt g off c.toList) (hl : c.size = n)
  (h : wpList Tryz.prog ops Q rest (a.put o.dst (.agg c)) w) : wpList Tryz.prog ops Q (o :: rest) a w :=
 BigFrame.wpList_want hw (fun _ hK => swLdOC hT ho hx H hl (hK _ _ h))
theorem swLn : SwT 60 2 := ⟨⟨_, Tryz.underlying60, rfl, rfl⟩, by kernel_rfl⟩
def RdRes (S : ByteArray) (w' : World) (e : Ending) : Prop :=
 (∃ (d : OffD) (cs : Array Value) (sW : Option Addr) (cW : Nat) (sH : Option Addr) (cH : Nat), MayO d ∧ S.data.toList = offT d ∧ OffV w' cs d sW cW sH cH ∧ e = .returned (.tuple #[.agg cs, .int .i64 0])) ∨
 ((∀ o, MayO o → S.data.toList ≠ offT o) ∧ e = .returned (.tuple #[.agg #[.int .i64 0, .slice none 0 0, .slice none 0 0], .int .i64 3]))
theorem csr_form {S : ByteArray} {e : Ending} (h : CsR S e) : ∃ (T : ByteArray) (ok : Bool), e = .returned (.tuple #[.string T, .bool ok]) ∧ T.size ≤ S.size ∧ ((ok = true → ∀ o, MayO o → T.data.toList ++ [10] ≠ offT o) → ∀ o, MayO o → S.data.toList ≠ offT o) ∧ (ok = true → S.data.toList = T.data.toList ++ [10]) := by
 rcases h with ⟨T, h1, rfl⟩ | ⟨h1, rfl⟩
 ·refine ⟨T, true, rfl, ?_, fun h o hM e => h rfl o hM (by rw [← h1]; exact e), fun _ => h1⟩
  have := congrArg List.length h1
  rw [List.length_append, ← ba_size, ← ba_size, List.length_singleton] at this
  omega
 ·exact ⟨S, false, rfl, Nat.le_refl _, fun _ o _ e => h1 _ (e.trans (offT_lines o)), fun h => by cases h⟩
theorem line_form (x : BL) : ∃ (mv : Int) (fv : Value) (th : Bool), (∀ v, LkR x v → v = .tuple #[.agg #[.int .i64 mv, fv], .bool th]) ∧ (0 ≤ mv ∧ mv ≤ 3) ∧ ((th = false ∧ x ≠ kOffer ∧ x ≠ kTrack ∧ x ≠ kHear) ∨ (th = true ∧ ∃ F, fv = .func (.func F) #[] #[] ∧ LnF x mv F)) := by
 have k1 : kTrack ≠ kOffer := by decide
 have k2 : kHear ≠ kOffer := by decide
 have k3 : kTrack ≠ kHear := by decide
 by_cases h1 : x = kOffer
 ·subst h1
  refine ⟨1, _, true, fun v h => ?_, by decide, .inr ⟨rfl, _, rfl, .seat⟩⟩
  rcases h with ⟨_, h⟩ | ⟨e, _⟩ | ⟨e, _⟩ | ⟨e, _⟩
  ·exact h
  ·exact absurd e.symm k1
  ·exact absurd e.symm k2
  ·exact absurd rfl e.1
 by_cases h2 : x = kTrack
 ·subst h2
  refine ⟨3, _, true, fun v h => ?_, by decide, .inr ⟨rfl, _, rfl, .track⟩⟩
  rcases h with ⟨e, _⟩ | ⟨_, h⟩ | ⟨e, _⟩ | ⟨e, _⟩
  ·exact absurd e k1
  ·exact h
  ·exact absurd e k3
  ·exact absurd rfl e.2.1
 by_cases h3 : x = kHear
 ·subst h3
  refine ⟨3, _, true, fun v h => ?_, by decide, .inr ⟨rfl, _, rfl, .hear⟩⟩
  rcases h with ⟨e, _⟩ | ⟨e, _⟩ | ⟨_, h⟩ | ⟨e, _⟩
  ·exact absurd e k2
  ·exact absurd e.symm k3
  ·exact h
  ·exact absurd rfl e.2.2
 ·refine ⟨0, .nilFunc, false, fun v h => ?_, by decide, .inl ⟨rfl, h1, h2, h3⟩⟩
  rcases h with ⟨e, _⟩ | ⟨e, _⟩ | ⟨e, _⟩ | ⟨_, h⟩
  ·exact absurd e h1
  ·exact absurd e h2
  ·exact absurd e h3
  ·exact h
theorem wds_tail {w : World} {q o : Nat} {p : BL} {ws : List BL} (h : ∀ j x, (p :: ws)[j]? = some x → w.cell? ⟨q, o + j, none⟩ = some (.string (bS x))) : WdS w q (o + 1) ws := fun j x hj => by
 have := h (j + 1) x (by rw [List.getElem?_cons_succ]; exact hj)
 rwa [show o + 1 + j = o + (j + 1) by omega]
theorem one_cells {mv : Int} {fv : Value} (h : fv = .nilFunc ∨ ∃ F, fv = .func (.func F) #[] #[]) : (#[Value.int .i64 mv, fv] : Array Value).all (·.oneCell') = true := by
 rcases h with rfl | ⟨F, rfl⟩ <;> simp [Value.oneCell']
theorem info_str : (Tryz.prog.info? 9).map (·.size) = some 1 := by kernel_rfl
theorem cut_one (g o n cp : Nat) (h1 : 1 ≤ n) (h2 : 2 ≤ cp) (w : World) : (Instr.slice 45 (.slice (some ⟨g, o, none⟩) n cp) (some (.int .i64 1)) none none).run Tryz.prog w = .ok (.slice (some ⟨g, o + 1, none⟩) (n - 1) (cp - 1)) w := by
 rw [run_cut_l (P := Tryz.prog) Tryz.underlying45 info_str (some ⟨g, o, none⟩) n cp 1 1 rfl .i64 h1 w]
 unfold cutA
 rw [if_neg (by omega)]
 rfl
theorem RpS.stO {w w' : World} {base g k : Nat} {d : OffD} {bad : Bool} {sW : Option Addr} {nW cW : Nat} {sH : Option Addr} {nH cH : Nat} (h : RpS w base g d bad sW nW cW sH nH cH) (T : Still [k] w w') (hk : k < base) (hg : k ≠ g) : RpS w' base g d bad sW nW cW sH nH cH :=
 ⟨h.hp.st T (by simpa using Ne.symm hg), h.lt, h.qw.old T (by simpa using hk), h.qh.old T (by simpa using hk)⟩
set_option maxRecDepth 100000 in
set_option maxHeartbeats 8000000 in
theorem pread_any (S : ByteArray) (hS : S.size ≤ 2000) (w : World) (hN : NumC w 1048576) (hE : ErrC w) (hSp : SpC w) :
  Calls Tryz.prog 9 #[.string S] w fun e w' => RdRes S w' e ∧ BW w w' := by
 have B := (BW.refl w).alloc (o := .cells #[.int .i64 0, .slice none 0 0, .slice none 0 0] 25)
 have G2 := HpB.new w (.cells #[.int .i64 0, .slice none 0 0, .slice none 0 0] 25)
 have cC := cutsuf_any S (by omega)
 have hNE := Lib.hid (show NumC w 1048576 ∧ ErrC w ∧ SpC w from ⟨hN, hE, hSp⟩)
 clear hN hE hSp
 replace B := Lib.hid B
 replace G2 := Lib.hid G2
 replace cC := Lib.hid cC
 go_enter Tryz.func9, Tryz.ntmps9
 go_upto_region 1 with (fail)
 generalize w.alloc _ = w1 at *
 generalize hgw : w.heap.size = g2 at *
 replace hgw := Lib.hid hgw
 go_wp2_with fail
 refine Calls.mono (cC.out w1) ?_
 rintro e w2 ⟨hcs, hb⟩
 obtain ⟨T, ok, rfl, hTs, hNeg, hST⟩ := csr_form hcs
 have G2' := G2.out.bw hb
 have B2 := B.out.trans hb
 have hlt := G2'.lt
 clear hcs hb cC G2 B
 obtain ⟨bad0, hbad⟩ : ∃ b, (!ok) = b := ⟨_, rfl⟩
 have hT2 : T.size ≤ 2000 := by omega
 have X3 := HpB.new w2 (.cells (rdC 0 none 0 0 none 0 0 bad0) 55)
 have hb3 : BW w2 (w2.alloc (.cells (rdC 0 none 0 0 none 0 0 bad0) 55)) := (BW.refl w2).alloc
 replace G2' := Lib.hid (G2'.bw hb3)
 have hwg0 := B2.size
 replace B2 := Lib.hid (B2.trans hb3)
 have hgg : Hid (g2 ≠ w2.heap.size) := Lib.hid (by omega)
 have hRc : Hid (ok = true → Rch ((cutB 10 T.data.toList).take 0) ⟨0, [], []⟩ bad0) := Lib.hid (fun h => by subst h; subst hbad; exact Rch.nil)
 have hRf : Hid (ok = false → bad0 = true) := Lib.hid (fun h => by subst h; subst hbad; rfl)
 replace hTs := Lib.hid hTs
 replace hNeg := Lib.hid hNeg
 replace hST := Lib.hid hST
 replace X3 := Lib.hid X3
 replace hb3 := Lib.hid hb3
 replace hlt := Lib.hid hlt
 dsimp only
 go_upto_region 3 with (fail)
 have hwg : Hid (w.heap.size ≤ w2.heap.size) := Lib.hid hwg0
 clear hbad hwg0
 generalize w2.alloc _ = w3 at *
 generalize w2.heap.size = g at *
 go_wp2_with fail
 refine Calls.mono (split_any T 10 (by omega) w3 (hNE.out.2.2.bw B2.out)) ?_
 rintro e w4 ⟨rfl, hw4⟩
 have hpc := parts_cells w3 (cutB 10 T.data.toList)
 rw [← hw4] at hpc
 have hb4 : BW w3 w4 := by rw [hw4]; exact (BW.refl w3).alloc
 have h4g : Hid (w3.heap.size ≠ g) := Lib.hid (by have := X3.out.lt; omega)
 clear hw4
 generalize w3.heap.size = g4 at *
 have hmx : (cutB 10 T.data.toList).length ≤ 2001 := by
  have := cutB_lenP 10 T.data.toList
  rw [ba_size] at hT2
  omega
 have hll : Hid (∀ l ∈ cutB 10 T.data.toList, l.length ≤ 2000) := Lib.hid (fun l hl => by
  have := cut_len hl
  rw [ba_size] at hT2
  omega)
 generalize hL : cutB 10 T.data.toList = L at *
 obtain ⟨m, hm⟩ : ∃ m, L.length = m := ⟨_, rfl⟩
 rw [hm] at hmx ⊢
 have X4 := X3.out.bw hb4
 obtain ⟨b4, hb4e⟩ : ∃ b, w4.heap.size = b := ⟨_, rfl⟩
 have hgb : Hid (g < b4) := Lib.hid (by have := X4.lt; omega)
 have hR : Hid (RpS w4 b4 g ⟨0, [], []⟩ bad0 none 0 0 none 0 0) := Lib.hid ⟨X4, hgb.out, EQ.nil _ _ _ _, EQ.nil _ _ _ _⟩
 have B4 := Lib.hid (B2.out.trans hb4)
 have G4 := Lib.hid (G2'.out.bw hb4)
 clear hb4 X4 X3 B2 G2' hlt hb3
 replace hL := Lib.hid hL
 replace hm := Lib.hid hm
 replace hpc := Lib.hid hpc
 replace hb4e := Lib.hid hb4e
 dsimp only
 go_upto_region 4 with (fail)
 go_loopg [24] m (fun m' v24 wx => ∃ (i : Nat) (d : OffD) (bad : Bool) (sW : Option Addr) (nW cW : Nat) (sH : Option Addr) (nH cH : Nat), m' = m - i ∧ i ≤ m ∧ v24 = .int .i64 (i : Nat) ∧ nW ≤ i ∧ nH ≤ i ∧ Hid (RpS wx b4 g d bad sW nW cW sH nH cH) ∧ Hid (ok = true → Rch (L.take i) d bad) ∧ Hid (ok = false → bad = true) ∧ Hid (∀ x ∈ d.W, x.s.length ≤ 2001) ∧ Hid (Still [g] w4 wx))
 case atStart => exact ⟨0, ⟨0, [], []⟩, bad0, none, 0, 0, none, 0, 0, by omega, by omega, rfl, by omega, by omega, hR, hRc, hRf, Lib.hid (fun x hx => by cases hx), Lib.hid (Still.refl _ _)⟩
 case round =>
  clear hR hRc hRf
  obtain ⟨i, d, bad, sW, nW, cW, sH, nH, cH, rfl, hi, rfl, hnW, hnH, R, hC, hF, hS4, T4⟩ := hrel
  by_cases him : i < m
  ·have di : decide ((i : Int) < (m : Int)) = true := by simp; omega
   have hiL : i < L.length := by rw [hm.out]; exact him
   have hlg : L[i]? = some L[i] := List.getElem?_eq_getElem hiL
   have hlm : L[i] ∈ L := List.getElem_mem hiL
   generalize L[i] = line at *
   have hl2 := hll.out line hlm
   have zl : wr.cell? ⟨g4, i, none⟩ = some (.string (bS line)) := T4.out.cellN (a := ⟨g4, i, none⟩) ((Nat.zero_add i) ▸ hpc.out i line hlg) (by simpa using h4g.out)
   have cW1 := Lib.hid (words_any (bS line) (by rw [bS_size]; omega) wr)
   have hl2' := Lib.hid hl2
   replace hlg := Lib.hid hlg
   clear hiL hlm hl2
   go_wp2_with fail
   refine Calls.mono cW1.out ?_
   rintro e w5 ⟨s7, n, c7, rfl, hn, Q7, hb⟩
   rw [bS_list] at Q7
   rw [bS_size] at hn
   obtain ⟨p0, ws, hws⟩ := cutB_form 32 line
   rw [hws] at Q7
   have hwn := Q7.1
   rw [List.length_map, List.length_cons] at hwn
   obtain ⟨_, _, he, hnc, hcm⟩ := Q7.len
   cases he
   unfold maxLen at hcm
   obtain ⟨g7, o7, rfl, hc7⟩ := str_cells Q7 (by omega)
   have h7g : Hid (g7 ≠ g) := Lib.hid (by
    have h1 := Q7.ge' g7 (by simp [Value.ownBlock])
    have h2 := T4.out.size
    have h3 := hb4e.out
    have h4 := hgb.out
    omega)
   have hn2 : n ≤ 2001 := by have := hl2'.out; omega
   have hwl : Hid (∀ x ∈ p0 :: ws, x.length ≤ 2000) := Lib.hid (fun x hx => by
    rw [← hws] at hx
    have := cut_len hx
    have := hl2'.out
    omega)
   replace R := Lib.hid (R.out.bw hb)
   replace T4 := Lib.hid (T4.out.trans (hb.still _))
   clear Q7 hb zl cW1
   have z0 : w5.cell? ⟨g7, o7, none⟩ = some (.string (bS p0)) := hc7 0 p0 rfl
   have hq7 := Lib.hid (wds_tail hc7)
   replace hws := Lib.hid hws
   clear hc7
   dsimp only
   go_upto_region 7 with (fail)
   obtain ⟨mv, fv, th, hlk, hmv, hth⟩ := line_form p0
   have hk1 := one_cells (mv := mv) (fv := fv) (by
    rcases hth with ⟨rfl, h1, h2, h3⟩ | ⟨rfl, F, rfl, hFn⟩
    ·have := hlk _ (.inr (.inr (.inr ⟨⟨h1, h2, h3⟩, rfl⟩)))
     simp only [Value.tuple.injEq, Array.mk.injEq, List.cons.injEq, Value.agg.injEq] at this
     exact .inl this.1.2.1.symm
    ·exact .inr ⟨F, rfl⟩)
   have m0 : ∀ y : LaterS [] w5, _ := fun y => y.bw.cell z0
   have z0' := Lib.hid z0
   replace hlk := Lib.hid hlk
   replace hth := Lib.hid hth
   have hp0 := Lib.hid (Nat.le_trans (hwl.out p0 (by simp)) (show 2000 ≤ 1000000 by decide))
   clear z0
   go_cut [10, 11] (fun y10 y11 wc => ∃ g8 : Nat, y10 = .pointer (some ⟨g8, 0, none⟩) ∧ y11 = .bool th ∧ Hid (HpB wc g8 (.cells #[.int .i64 mv, fv] 60)) ∧ Hid (BW w5 wc))
   case first =>
    have BB := Lib.hid (BW.refl w5)
    refine wp_region_gl [] [] [] [9] (by kernel_rfl) ?_
    refine hoist [] [] (a1 := ?_) 1 rfl (by kernel_rfl) (.inl ⟨rfl, rfl⟩) rfl rfl rfl (fun x K hK => ?_) ?_
    rotate_left
    ·go_big_quiet_op
     exact hK
    refine hoist [] [] (a1 := ?_) 2 rfl (by kernel_rfl) (.inl ⟨rfl, rfl⟩) rfl rfl rfl (fun x K hK => ?_) ?_
    rotate_left
    ·go_big_quiet_op
     exact hK
    refine hoist [] [] (a1 := ?_) 3 rfl (by kernel_rfl) (.inl ⟨rfl, rfl⟩) rfl rfl rfl (fun x K hK => ?_) ?_
    rotate_left
    ·go_big_quiet_op
     exact hK
    refine effect2 0 8 rfl rfl (by kernel_rfl) (by kernel_rfl) (by kernel_rfl) rfl rfl (fun x0 K hK => ?_) (fun x8 K hK => ?_)
    ·skip
     go_simp
     refine Calls.mono (lines_any x0.now) ?_
     rintro e w6 ⟨gm, rfl, hM, hb6⟩
     refine hK _ _ (hb6.still _) ?_
     have l2 : ∀ z : LaterS [] w6, (Instr.lookup 62 (.map (some gm)) (.string (bS p0)) true).run Tryz.prog z.now = .ok (.tuple #[.agg #[.int .i64 mv, fv], .bool th]) z.now := fun z => by
      obtain ⟨v, h1, h2⟩ := look_any (hM.still z.ok (by simp)) p0 hp0.out
      rw [h1, hlk.out v h2]
     replace BB := Lib.hid (BB.out.trans (x0.bw.trans hb6))
     try replace X8 := Lib.hid ((X8.out.bw x0.bw).bw hb6)
     clear hK K hM hb6
     try clear m0
     try simp only [Act.put, List.setIfInBounds_toArray, List.set_cons_succ, List.set_cons_zero]
     refine hoist [] [] (a1 := ?_) 4 rfl (by kernel_rfl) (.inl ⟨rfl, rfl⟩) rfl rfl rfl (fun x K hK => ?_) ?_
     rotate_left
     ·go_big_quiet_op
      exact hK
     refine hoist [] [] (a1 := ?_) 5 rfl (by kernel_rfl) (.inl ⟨rfl, rfl⟩) rfl rfl rfl (fun x K hK => ?_) ?_
     rotate_left
     ·go_big_quiet_op
      exact hK
     refine hoist [] [] (a1 := ?_) 6 rfl (by kernel_rfl) (.inl ⟨rfl, rfl⟩) rfl rfl rfl (fun x K hK => ?_) ?_
     rotate_left
     ·go_big_quiet_op
      exact hK
     refine hoistP (a1 := ?_) 7 rfl (by kernel_rfl) rfl (fun x => rfl) ?_ ?_
     rotate_left
     ·simp only [Act.put, List.setIfInBounds_toArray, List.set_cons_succ, List.set_cons_zero]; rfl
     refine effect 8 rfl (by kernel_rfl) (by kernel_rfl) rfl (fun x8 K hK => ?_)
     go_simp
     refine hK _ _ (Still.of_below ((Below.refl _ _).alloc (Nat.le_refl _) _)) ?_
     clear hK K
     try clear m0
     try clear l2
     have X8 := Lib.hid (HpB.new x8.now (.cells #[.int .i64 0, .nilFunc] 60))
     have h8n := Lib.hid (BB.out.trans x8.bw).size
     replace BB := Lib.hid (BB.out.trans (x8.bw.alloc (o := .cells #[.int .i64 0, .nilFunc] 60)))
     generalize x8.now.alloc _ = w8 at *
     generalize x8.now.heap.size = g8 at *
     try simp only [Act.put, List.setIfInBounds_toArray, List.set_cons_succ, List.set_cons_zero]
     refine effectL 9 rfl (by kernel_rfl) rfl (by kernel_rfl) rfl (fun x9 K hK => ?_)
     have X9 := X8.out.bw x9.bw
     refine swStO swLn rfl rfl rfl X9 rfl rfl hk1 ?_
     refine hK _ _ ?_
     clear hK K
     have BB2 := Lib.hid ((BB.out.trans x9.bw).stP (still_rowS x9.now g8 #[.int .i64 mv, fv]) (fun k hk => by obtain rfl : k = g8 := (by simpa using hk); exact h8n.out))
     have X10 := Lib.hid (X9.rowS #[.int .i64 mv, fv])
     clear X9 X8 BB
     generalize x9.now.setRow _ _ = w9 at *
     try simp only [Act.put, List.setIfInBounds_toArray, List.set_cons_succ, List.set_cons_zero]
     refine hoist [] [] (a1 := ?_) 10 rfl (by kernel_rfl) (.inl ⟨rfl, rfl⟩) rfl rfl rfl (fun x K hK => ?_) ?_
     rotate_left
     ·go_big_quiet_op
      exact hK
     refine done (by kernel_rfl) (fun xr => ?_)
     have hX := X10.out.bw xr.bw
     have hB := BB2.out.trans xr.bw
     go_wp2_with fail
     go_meet
     exact ⟨g8, rfl, rfl, Lib.hid hX, Lib.hid hB⟩
    ·skip
     go_simp
     refine hK _ _ (Still.of_below ((Below.refl _ _).alloc (Nat.le_refl _) _)) ?_
     clear hK K
     try clear m0
     try clear l2
     have X8 := Lib.hid (HpB.new x8.now (.cells #[.int .i64 0, .nilFunc] 60))
     have h8n := Lib.hid (BB.out.trans x8.bw).size
     replace BB := Lib.hid (BB.out.trans (x8.bw.alloc (o := .cells #[.int .i64 0, .nilFunc] 60)))
     generalize x8.now.alloc _ = w8 at *
     generalize x8.now.heap.size = g8 at *
     try simp only [Act.put, List.setIfInBounds_toArray, List.set_cons_succ, List.set_cons_zero]
     refine effect 0 rfl (by kernel_rfl) (by kernel_rfl) rfl (fun x0 K hK => ?_)
     go_simp
     refine Calls.mono (lines_any x0.now) ?_
     rintro e w6 ⟨gm, rfl, hM, hb6⟩
     refine hK _ _ (hb6.still _) ?_
     have l2 : ∀ z : LaterS [] w6, (Instr.lookup 62 (.map (some gm)) (.string (bS p0)) true).run Tryz.prog z.now = .ok (.tuple #[.agg #[.int .i64 mv, fv], .bool th]) z.now := fun z => by
      obtain ⟨v, h1, h2⟩ := look_any (hM.still z.ok (by simp)) p0 hp0.out
      rw [h1, hlk.out v h2]
     replace BB := Lib.hid (BB.out.trans (x0.bw.trans hb6))
     try replace X8 := Lib.hid ((X8.out.bw x0.bw).bw hb6)
     clear hK K hM hb6
     try clear m0
     try simp only [Act.put, List.setIfInBounds_toArray, List.set_cons_succ, List.set_cons_zero]
     refine hoist [] [] (a1 := ?_) 4 rfl (by kernel_rfl) (.inl ⟨rfl, rfl⟩) rfl rfl rfl (fun x K hK => ?_) ?_
     rotate_left
     ·go_big_quiet_op
      exact hK
     refine hoist [] [] (a1 := ?_) 5 rfl (by kernel_rfl) (.inl ⟨rfl, rfl⟩) rfl rfl rfl (fun x K hK => ?_) ?_
     rotate_left
     ·go_big_quiet_op
      exact hK
     refine hoist [] [] (a1 := ?_) 6 rfl (by kernel_rfl) (.inl ⟨rfl, rfl⟩) rfl rfl rfl (fun x K hK => ?_) ?_
     rotate_left
     ·go_big_quiet_op
      exact hK
     refine hoistP (a1 := ?_) 7 rfl (by kernel_rfl) rfl (fun x => rfl) ?_ ?_
     rotate_left
     ·simp only [Act.put, List.setIfInBounds_toArray, List.set_cons_succ, List.set_cons_zero]; rfl
     refine effectL 9 rfl (by kernel_rfl) rfl (by kernel_rfl) rfl (fun x9 K hK => ?_)
     have X9 := X8.out.bw x9.bw
     refine swStO swLn rfl rfl rfl X9 rfl rfl hk1 ?_
     refine hK _ _ ?_
     clear hK K
     have BB2 := Lib.hid ((BB.out.trans x9.bw).stP (still_rowS x9.now g8 #[.int .i64 mv, fv]) (fun k hk => by obtain rfl : k = g8 := (by simpa using hk); exact h8n.out))
     have X10 := Lib.hid (X9.rowS #[.int .i64 mv, fv])
     clear X9 X8 BB
     generalize x9.now.setRow _ _ = w9 at *
     try simp only [Act.put, List.setIfInBounds_toArray, List.set_cons_succ, List.set_cons_zero]
     refine hoist [] [] (a1 := ?_) 10 rfl (by kernel_rfl) (.inl ⟨rfl, rfl⟩) rfl rfl rfl (fun x K hK => ?_) ?_
     rotate_left
     ·go_big_quiet_op
      exact hK
     refine done (by kernel_rfl) (fun xr => ?_)
     have hX := X10.out.bw xr.bw
     have hB := BB2.out.trans xr.bw
     go_wp2_with fail
     go_meet
     exact ⟨g8, rfl, rfl, Lib.hid hX, Lib.hid hB⟩
   obtain ⟨g8, rfl, rfl, X8, D8⟩ := hcut
   clear m0
   have R8 := Lib.hid (R.out.bw D8.out)
   have T8 := Lib.hid (T4.out.trans (D8.out.still _))
   have y3 := (hp_cell R8.out.hp 3).trans (show _ = some (.bool bad) from rfl)
   have z8 := (hp_cell X8.out 0).trans (show _ = some (.int .i64 mv) from rfl)
   have z8f := (hp_cell X8.out 1).trans (show _ = some fv from rfl)
   have z0 := D8.out.cell z0'.out
   have hq8 := Lib.hid (hq7.out.still (D8.out.still []) (by simp))
   have G8 := Lib.hid (G4.out.st T8.out (by simpa using hgg.out))
   have BF := Lib.hid (B4.out.stP T8.out (fun k hk => by obtain rfl : k = g := (by simpa using hk); exact hwg.out))
   have hNoK : Hid (bad = true ∨ ¬ GoodW i (p0 :: ws) → ∀ o, MayO o → S.data.toList ≠ offT o) := Lib.hid (fun h => hNeg.out (fun hok => rd_neg (T := T.data.toList) (i := i) (d := d) (b := bad) (l := line) (by rw [hL.out]; exact hC.out hok) (by rw [hL.out]; exact hlg.out) (by rw [hws.out]; exact h)))
   clear R T4 hq7 z0' hlk X8 D8 hk1
   cases bad with
   | true =>
    have hNo := Lib.hid (hNoK.out (.inl rfl))
    clear R8 T8 z8 z8f z0 hq8 hNoK hth hmv hwl
    go_upto_region 9 with (fail)
    go_wp2_with (refine swSt swOf rfl rfl rfl rfl G8.out rfl rfl (by kernel_rfl) ?_)
    have G10 := G8.out.rowS #[.int .i64 0, .slice none 0 0, .slice none 0 0]
    have q0 := (hp_cell G10 0).trans (show _ = some (.int .i64 0) from rfl)
    have q1 := (hp_cell G10 1).trans (show _ = some (.slice none 0 0) from rfl)
    have q2 := (hp_cell G10 2).trans (show _ = some (.slice none 0 0) from rfl)
    exact bodyPost_ret (v := .tuple #[.agg #[.int .i64 0, .slice none 0 0, .slice none 0 0], .int .i64 3]) (by simp [results, Tryz.results9, go_sem, q0, q1, q2]) rfl ⟨.inr ⟨hNo.out, rfl⟩, BF.out.stP (still_rowS _ _ _) (fun k hk => by obtain rfl : k = g2 := (by simpa using hk); rw [hgw.out]; exact Nat.le_refl _)⟩
   | false =>
    rcases hth.out with ⟨rfl, hp⟩ | ⟨rfl, F, rfl, hFn⟩
    ·have hNo := Lib.hid (hNoK.out (.inr (good_no hp)))
     clear R8 T8 z8 z8f z0 hq8 hNoK hth hmv hwl hp
     go_upto_region 9 with (fail)
     go_wp2_with (refine swSt swOf rfl rfl rfl rfl G8.out rfl rfl (by kernel_rfl) ?_)
     have G10 := G8.out.rowS #[.int .i64 0, .slice none 0 0, .slice none 0 0]
     have q0 := (hp_cell G10 0).trans (show _ = some (.int .i64 0) from rfl)
     have q1 := (hp_cell G10 1).trans (show _ = some (.slice none 0 0) from rfl)
     have q2 := (hp_cell G10 2).trans (show _ = some (.slice none 0 0) from rfl)
     exact bodyPost_ret (v := .tuple #[.agg #[.int .i64 0, .slice none 0 0, .slice none 0 0], .int .i64 3]) (by simp [results, Tryz.results9, go_sem, q0, q1, q2]) rfl ⟨.inr ⟨hNo.out, rfl⟩, BF.out.stP (still_rowS _ _ _) (fun k hk => by obtain rfl : k = g2 := (by simpa using hk); rw [hgw.out]; exact Nat.le_refl _)⟩
    ·clear hth
     by_cases hnm : (n : Int) = mv + 1
     case neg =>
      have dn : ((n : Int) != mv + 1) = true := bne_iff_ne.2 hnm
      have hNo := Lib.hid (hNoK.out (.inr (fun hg => hnm (by have := (hFn.good.1 hg).1; omega))))
      clear R8 T8 z8f hq8 hNoK hwl hFn hnm
      go_upto_region 9 with (fail)
      go_wp2_with (refine swSt swOf rfl rfl rfl rfl G8.out rfl rfl (by kernel_rfl) ?_)
      have G10 := G8.out.rowS #[.int .i64 0, .slice none 0 0, .slice none 0 0]
      have q0 := (hp_cell G10 0).trans (show _ = some (.int .i64 0) from rfl)
      have q1 := (hp_cell G10 1).trans (show _ = some (.slice none 0 0) from rfl)
      have q2 := (hp_cell G10 2).trans (show _ = some (.slice none 0 0) from rfl)
      exact bodyPost_ret (v := .tuple #[.agg #[.int .i64 0, .slice none 0 0, .slice none 0 0], .int .i64 3]) (by simp [results, Tryz.results9, go_sem, q0, q1, q2]) rfl ⟨.inr ⟨hNo.out, rfl⟩, BF.out.stP (still_rowS _ _ _) (fun k hk => by obtain rfl : k = g2 := (by simpa using hk); rw [hgw.out]; exact Nat.le_refl _)⟩
     case pos =>
      have dn : ((n : Int) != mv + 1) = false := by rw [hnm]; exact bne_self_eq_false _
      have hgw1 : Hid ((i = 0 ↔ p0 = kOffer) → GoodW i (p0 :: ws)) := Lib.hid (fun h => hFn.good.2 ⟨by omega, h⟩)
      have hgw2 : Hid (GoodW i (p0 :: ws) → (i = 0 ↔ p0 = kOffer)) := Lib.hid (fun h => (hFn.good.1 h).2)
      have hmp := hFn.pos
      replace hnm := Lib.hid hnm
      replace hFn := Lib.hid hFn
      by_cases hi0 : i = 0
      ·have d0 : ((i : Int) == 0) = true := by simp; omega
       by_cases hk : p0 = kOffer
       ·have dk : ((bS p0).toList == [111, 102, 102, 101, 114]) = true := key_eq hk
        have hGd := Lib.hid (hgw1.out ⟨fun _ => hk, fun _ => hi0⟩)
        replace hk := Lib.hid hk
        replace hi0 := Lib.hid hi0
        go_upto_region 10 with (fail)
        clear y3 z8 z0 hNoK dn dk d0 hgw1 hgw2
        have hcut := cut_one g7 o7 n c7 (by have := hnm.out; omega) (by have := hnm.out; omega)
        have hN := hFn.out.enter
        have mf : ∀ y : LaterS [] wc, _ := fun y => y.bw.cell z8f
        clear z8f
        refine wp_region_gg [] [] [5] (by kernel_rfl) ?_
        refine hoist [] [] (a1 := ?_) 0 rfl (by kernel_rfl) (.inl ⟨rfl, rfl⟩) rfl rfl rfl (fun x K hK => ?_) ?_
        rotate_left
        ·go_big_quiet_op
         exact hK
        refine hoist [] [] (a1 := ?_) 1 rfl (by kernel_rfl) (.inl ⟨rfl, rfl⟩) rfl rfl rfl (fun x K hK => ?_) ?_
        rotate_left
        ·go_big_quiet_op
         exact hK
        refine hoist [] [] (a1 := ?_) 2 rfl (by kernel_rfl) (.inl ⟨rfl, rfl⟩) rfl rfl rfl (fun x K hK => ?_) ?_
        rotate_left
        ·go_big_quiet_op
         exact hK
        refine hoist [] [] (a1 := ?_) 3 rfl (by kernel_rfl) (.inl ⟨rfl, rfl⟩) rfl rfl rfl (fun x K hK => ?_) ?_
        rotate_left
        ·go_big_quiet_op
         exact hK
        refine hoist [] [] (a1 := ?_) 4 rfl (by kernel_rfl) (.inl ⟨rfl, rfl⟩) rfl rfl rfl (fun x K hK => ?_) ?_
        rotate_left
        ·go_big_quiet_op
         exact hK
        refine tail 5 rfl (by kernel_rfl) rfl (fun xr => ?_)
        simp only [List.drop_succ_cons, List.drop_zero]
        have R9 := Lib.hid (R8.out.bw xr.bw)
        have T9 := Lib.hid (T8.out.trans (xr.bw.still _))
        have B9 := Lib.hid (BF.out.trans xr.bw)
        have cL := Lib.hid (rline_any w b4 g g7 (o7 + 1) (n - 1) (c7 - 1) i d sW nW cW sH nH cH p0 ws mv F xr.now hFn.out (fun x hx => hwl.out x (List.mem_cons_of_mem _ hx)) hGd.out (by omega) B9.out hNE.out.1 hNE.out.2.1 hNE.out.2.2 R9.out (hq8.out.still (xr.bw.still []) (by simp)) h7g.out (by rw [← hb4e.out]; exact T9.out.size) hwg.out (by omega) (by omega))
        clear R8 T8 BF G8 mf hcut
        generalize xr.now = w9 at *
        clear xr
        go_wp2_with fail
        refine Calls.mono cL.out ?_
        rintro e w10 ⟨d', b', sW', nW', cW', sH', nH', cH', ⟨r, rfl⟩, hln, R10, T10, hnW', hnH', hS'⟩
        have hC2 : Hid (ok = true → Rch (L.take (i + 1)) d' b') := Lib.hid (fun hok => (hC.out hok).next hlg.out (by rw [hws.out]; exact hln))
        have hF2 : Hid (ok = false → b' = true) := Lib.hid (fun h => absurd (hF.out h) (by decide))
        have hS2 : Hid (∀ x ∈ d'.W, x.s.length ≤ 2001) := Lib.hid (fun x hx => (hS' x hx).elim (hS4.out x) id)
        have T11 : Hid (Still [g] w4 w10) := Lib.hid (T9.out.own3 T10 (fun k hk => by
         rcases List.mem_cons.1 hk with rfl | hk
         ·exact .inl (by simp)
         rcases List.mem_append.1 hk with hk | hk
         ·exact .inr (by rw [hb4e.out]; exact R9.out.qw.ge' k (by simpa using hk))
         ·exact .inr (by rw [hb4e.out]; exact R9.out.qh.ge' k (by simpa using hk))))
        replace R10 := Lib.hid R10
        clear hln T10 hS' cL R9 T9 B9 hC hF hS4 hGd hq8 hN
        dsimp only
        go_wp2_with fail
        go_roundg (m - (i + 1))
        case measure => omega
        case rel => exact ⟨i + 1, d', b', sW', nW', cW', sH', nH', cH', rfl, by omega, by first | rfl | (push_cast; rfl), by omega, by omega, R10, hC2, hF2, hS2, T11⟩
       ·have dk : ((bS p0).toList == [111, 102, 102, 101, 114]) = false := key_ne hk
        have hNo := Lib.hid (hNoK.out (.inr (fun h => hk ((hgw2.out h).1 hi0))))
        replace hk := Lib.hid hk
        replace hi0 := Lib.hid hi0
        clear R8 T8 z8f hq8 hNoK hwl
        go_upto_region 9 with (fail)
        go_wp2_with (refine swSt swOf rfl rfl rfl rfl G8.out rfl rfl (by kernel_rfl) ?_)
        have G10 := G8.out.rowS #[.int .i64 0, .slice none 0 0, .slice none 0 0]
        have q0 := (hp_cell G10 0).trans (show _ = some (.int .i64 0) from rfl)
        have q1 := (hp_cell G10 1).trans (show _ = some (.slice none 0 0) from rfl)
        have q2 := (hp_cell G10 2).trans (show _ = some (.slice none 0 0) from rfl)
        exact bodyPost_ret (v := .tuple #[.agg #[.int .i64 0, .slice none 0 0, .slice none 0 0], .int .i64 3]) (by simp [results, Tryz.results9, go_sem, q0, q1, q2]) rfl ⟨.inr ⟨hNo.out, rfl⟩, BF.out.stP (still_rowS _ _ _) (fun k hk => by obtain rfl : k = g2 := (by simpa using hk); rw [hgw.out]; exact Nat.le_refl _)⟩
      ·have d0 : ((i : Int) == 0) = false := by simp; omega
       by_cases hk : p0 = kOffer
       ·have dk : ((bS p0).toList == [111, 102, 102, 101, 114]) = true := key_eq hk
        have hNo := Lib.hid (hNoK.out (.inr (fun h => hi0 ((hgw2.out h).2 hk))))
        replace hk := Lib.hid hk
        replace hi0 := Lib.hid hi0
        clear R8 T8 z8f hq8 hNoK hwl
        go_upto_region 9 with (fail)
        go_wp2_with (refine swSt swOf rfl rfl rfl rfl G8.out rfl rfl (by kernel_rfl) ?_)
        have G10 := G8.out.rowS #[.int .i64 0, .slice none 0 0, .slice none 0 0]
        have q0 := (hp_cell G10 0).trans (show _ = some (.int .i64 0) from rfl)
        have q1 := (hp_cell G10 1).trans (show _ = some (.slice none 0 0) from rfl)
        have q2 := (hp_cell G10 2).trans (show _ = some (.slice none 0 0) from rfl)
        exact bodyPost_ret (v := .tuple #[.agg #[.int .i64 0, .slice none 0 0, .slice none 0 0], .int .i64 3]) (by simp [results, Tryz.results9, go_sem, q0, q1, q2]) rfl ⟨.inr ⟨hNo.out, rfl⟩, BF.out.stP (still_rowS _ _ _) (fun k hk => by obtain rfl : k = g2 := (by simpa using hk); rw [hgw.out]; exact Nat.le_refl _)⟩
       ·have dk : ((bS p0).toList == [111, 102, 102, 101, 114]) = false := key_ne hk
        have hGd := Lib.hid (hgw1.out ⟨fun h => absurd h hi0, fun h => absurd h hk⟩)
        replace hk := Lib.hid hk
        replace hi0 := Lib.hid hi0
        go_upto_region 10 with (fail)
        clear y3 z8 z0 hNoK dn dk d0 hgw1 hgw2
        have hcut := cut_one g7 o7 n c7 (by have := hnm.out; omega) (by have := hnm.out; omega)
        have hN := hFn.out.enter
        have mf : ∀ y : LaterS [] wc, _ := fun y => y.bw.cell z8f
        clear z8f
        refine wp_region_gg [] [] [5] (by kernel_rfl) ?_
        refine hoist [] [] (a1 := ?_) 0 rfl (by kernel_rfl) (.inl ⟨rfl, rfl⟩) rfl rfl rfl (fun x K hK => ?_) ?_
        rotate_left
        ·go_big_quiet_op
         exact hK
        refine hoist [] [] (a1 := ?_) 1 rfl (by kernel_rfl) (.inl ⟨rfl, rfl⟩) rfl rfl rfl (fun x K hK => ?_) ?_
        rotate_left
        ·go_big_quiet_op
         exact hK
        refine hoist [] [] (a1 := ?_) 2 rfl (by kernel_rfl) (.inl ⟨rfl, rfl⟩) rfl rfl rfl (fun x K hK => ?_) ?_
        rotate_left
        ·go_big_quiet_op
         exact hK
        refine hoist [] [] (a1 := ?_) 3 rfl (by kernel_rfl) (.inl ⟨rfl, rfl⟩) rfl rfl rfl (fun x K hK => ?_) ?_
        rotate_left
        ·go_big_quiet_op
         exact hK
        refine hoist [] [] (a1 := ?_) 4 rfl (by kernel_rfl) (.inl ⟨rfl, rfl⟩) rfl rfl rfl (fun x K hK => ?_) ?_
        rotate_left
        ·go_big_quiet_op
         exact hK
        refine tail 5 rfl (by kernel_rfl) rfl (fun xr => ?_)
        simp only [List.drop_succ_cons, List.drop_zero]
        have R9 := Lib.hid (R8.out.bw xr.bw)
        have T9 := Lib.hid (T8.out.trans (xr.bw.still _))
        have B9 := Lib.hid (BF.out.trans xr.bw)
        have cL := Lib.hid (rline_any w b4 g g7 (o7 + 1) (n - 1) (c7 - 1) i d sW nW cW sH nH cH p0 ws mv F xr.now hFn.out (fun x hx => hwl.out x (List.mem_cons_of_mem _ hx)) hGd.out (by omega) B9.out hNE.out.1 hNE.out.2.1 hNE.out.2.2 R9.out (hq8.out.still (xr.bw.still []) (by simp)) h7g.out (by rw [← hb4e.out]; exact T9.out.size) hwg.out (by omega) (by omega))
        clear R8 T8 BF G8 mf hcut
        generalize xr.now = w9 at *
        clear xr
        go_wp2_with fail
        refine Calls.mono cL.out ?_
        rintro e w10 ⟨d', b', sW', nW', cW', sH', nH', cH', ⟨r, rfl⟩, hln, R10, T10, hnW', hnH', hS'⟩
        have hC2 : Hid (ok = true → Rch (L.take (i + 1)) d' b') := Lib.hid (fun hok => (hC.out hok).next hlg.out (by rw [hws.out]; exact hln))
        have hF2 : Hid (ok = false → b' = true) := Lib.hid (fun h => absurd (hF.out h) (by decide))
        have hS2 : Hid (∀ x ∈ d'.W, x.s.length ≤ 2001) := Lib.hid (fun x hx => (hS' x hx).elim (hS4.out x) id)
        have T11 : Hid (Still [g] w4 w10) := Lib.hid (T9.out.own3 T10 (fun k hk => by
         rcases List.mem_cons.1 hk with rfl | hk
         ·exact .inl (by simp)
         rcases List.mem_append.1 hk with hk | hk
         ·exact .inr (by rw [hb4e.out]; exact R9.out.qw.ge' k (by simpa using hk))
         ·exact .inr (by rw [hb4e.out]; exact R9.out.qh.ge' k (by simpa using hk))))
        replace R10 := Lib.hid R10
        clear hln T10 hS' cL R9 T9 B9 hC hF hS4 hGd hq8 hN
        dsimp only
        go_wp2_with fail
        go_roundg (m - (i + 1))
        case measure => omega
        case rel => exact ⟨i + 1, d', b', sW', nW', cW', sH', nH', cH', rfl, by omega, by first | rfl | (push_cast; rfl), by omega, by omega, R10, hC2, hF2, hS2, T11⟩
  ·obtain rfl : i = m := by omega
   have di : decide ((i : Int) < (i : Int)) = false := by simp
   have y3 := (hp_cell R.out.hp 3).trans (show _ = some (.bool bad) from rfl)
   have G8 := Lib.hid (G4.out.st T4.out (by simpa using hgg.out))
   have BF := Lib.hid (B4.out.stP T4.out (fun k hk => by obtain rfl : k = g := (by simpa using hk); exact hwg.out))
   have hAll : Hid (ok = true → (bad = false → MayO d → T.data.toList ++ [10] = offT d) ∧ ∀ o, MayO o → T.data.toList ++ [10] = offT o → bad = false ∧ d = o) := Lib.hid (fun hok => rd_all (by
    have h := hC.out hok
    rw [List.take_of_length_le (Nat.le_of_eq hm.out), ← hL.out] at h
    exact h))
   have hNoK : Hid ((bad = true ∨ ¬ MayO d) → ∀ o, MayO o → S.data.toList ≠ offT o) := Lib.hid (fun h => hNeg.out (fun hok o hM e => by
    obtain ⟨h1, h2⟩ := (hAll.out hok).2 o hM e
    rcases h with h | h
    ·rw [h1] at h; cases h
    ·rw [h2] at h; exact h hM))
   clear G4 B4 hC
   cases bad with
   | true =>
    have hNo := Lib.hid (hNoK.out (.inl rfl))
    clear R hAll hNoK
    go_upto_region 13 with (fail)
    go_wp2_with (refine swSt swOf rfl rfl rfl rfl G8.out rfl rfl (by kernel_rfl) ?_)
    have G10 := G8.out.rowS #[.int .i64 0, .slice none 0 0, .slice none 0 0]
    have q0 := (hp_cell G10 0).trans (show _ = some (.int .i64 0) from rfl)
    have q1 := (hp_cell G10 1).trans (show _ = some (.slice none 0 0) from rfl)
    have q2 := (hp_cell G10 2).trans (show _ = some (.slice none 0 0) from rfl)
    exact bodyPost_ret (v := .tuple #[.agg #[.int .i64 0, .slice none 0 0, .slice none 0 0], .int .i64 3]) (by simp [results, Tryz.results9, go_sem, q0, q1, q2]) rfl ⟨.inr ⟨hNo.out, rfl⟩, BF.out.stP (still_rowS _ _ _) (fun k hk => by obtain rfl : k = g2 := (by simpa using hk); rw [hgw.out]; exact Nat.le_refl _)⟩
   | false =>
    have cM := Lib.hid (may_big _ d sW cW sH cH wr R.out.off (by rw [R.out.qw.1]; omega) (fun j hj => by
     rw [wi_get hj]
     exact Nat.le_trans (hS4.out _ (List.getElem_mem hj)) (by decide)) (by rw [R.out.qh.1]; omega))
    go_wp2_with (refine swLdGC swOf (by rfl) rfl rfl (c := #[.int .i64 d.seat, .slice sW nW cW, .slice sH nH cH]) (R.out.hp.range 0 _ rfl) rfl ?_)
    refine Calls.mono cM.out ?_
    rintro e w5 ⟨⟨b, rfl, hb1⟩, hb⟩
    replace G8 := Lib.hid (G8.out.bw hb)
    replace BF := Lib.hid (BF.out.trans hb)
    replace R := Lib.hid (R.out.bw hb)
    clear cM hb y3
    dsimp only
    cases b with
    | false =>
     have hNo := Lib.hid (hNoK.out (.inr (fun h => by have := hb1.2 h; cases this)))
     clear R hAll hNoK hb1
     go_upto_region 13 with (fail)
     go_wp2_with (refine swSt swOf rfl rfl rfl rfl G8.out rfl rfl (by kernel_rfl) ?_)
     have G10 := G8.out.rowS #[.int .i64 0, .slice none 0 0, .slice none 0 0]
     have q0 := (hp_cell G10 0).trans (show _ = some (.int .i64 0) from rfl)
     have q1 := (hp_cell G10 1).trans (show _ = some (.slice none 0 0) from rfl)
     have q2 := (hp_cell G10 2).trans (show _ = some (.slice none 0 0) from rfl)
     exact bodyPost_ret (v := .tuple #[.agg #[.int .i64 0, .slice none 0 0, .slice none 0 0], .int .i64 3]) (by simp [results, Tryz.results9, go_sem, q0, q1, q2]) rfl ⟨.inr ⟨hNo.out, rfl⟩, BF.out.stP (still_rowS _ _ _) (fun k hk => by obtain rfl : k = g2 := (by simpa using hk); rw [hgw.out]; exact Nat.le_refl _)⟩
    | true =>
     have hM := hb1.1 rfl
     have hok : ok = true := by
      cases ok with
      | true => rfl
      | false => exact absurd (hF.out rfl) (by decide)
     have hText : Hid (S.data.toList = offT d) := Lib.hid ((hST.out hok).trans ((hAll.out hok).1 (by simp) hM))
     replace hM := Lib.hid hM
     clear hNoK hAll hb1 hok
     have hg2b : Hid (g2 < b4) := Lib.hid (by have h1 := hgw.out; have h2 := hwg.out; have h3 := hgb.out; omega)
     go_upto_region 14 with (fail)
     go_wp2_with (first | (refine swLdC swOf rfl rfl rfl (c := #[.int .i64 d.seat, .slice sW nW cW, .slice sH nH cH]) (R.out.hp.range 0 _ rfl) rfl ?_) | (refine swSt swOf rfl rfl rfl rfl G8.out rfl rfl (by kernel_rfl) ?_))
     have G10 := G8.out.rowS #[.int .i64 d.seat, .slice sW nW cW, .slice sH nH cH]
     have q0 := (hp_cell G10 0).trans (show _ = some (.int .i64 d.seat) from rfl)
     have q1 := (hp_cell G10 1).trans (show _ = some (.slice sW nW cW) from rfl)
     have q2 := (hp_cell G10 2).trans (show _ = some (.slice sH nH cH) from rfl)
     have R10 := R.out.stO (still_rowS w5 g2 #[.int .i64 d.seat, .slice sW nW cW, .slice sH nH cH]) hg2b.out hgg.out
     exact bodyPost_ret (v := .tuple #[.agg #[.int .i64 d.seat, .slice sW nW cW, .slice sH nH cH], .int .i64 0]) (by simp [results, Tryz.results9, go_sem, q0, q1, q2]) rfl ⟨.inl ⟨d, _, sW, cW, sH, cH, hM.out, hText.out, R10.off, rfl⟩, BF.out.stP (still_rowS _ _ _) (fun k hk => by obtain rfl : k = g2 := (by simpa using hk); rw [hgw.out]; exact Nat.le_refl _)⟩
end Go.Proofs.YtafhnlnhflehhaaGreatDoor
