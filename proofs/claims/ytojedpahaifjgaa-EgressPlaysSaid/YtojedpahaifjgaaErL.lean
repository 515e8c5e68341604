/- The law EgressPlays (printed by wip/gen/genErL.py). No condition. -/
import Derived.Test.YtojedpahaifjgaaGEr
import Derived.Test.YtojedpahaifjgaaBst
import Derived.BigQuiet
namespace Go.Proofs.Ytojedpahaifjgaa
open Go.RowKit
theorem swOp : SwT 41 17 := ⟨⟨_, Try.underlying41, rfl, rfl⟩, by kernel_rfl⟩
theorem swAr : SwT 38 13 := ⟨⟨_, Try.underlying38, rfl, rfl⟩, by kernel_rfl⟩
theorem swLm : SwT 31 9 := ⟨⟨_, Try.underlying31, rfl, rfl⟩, by kernel_rfl⟩
theorem EsI.setC {w w' : World} {base g gc gr gb : Nat} {fk fp : FuncId} {src many wanted goes first : Int} {W : Wr} {pk by_ : Int} {v : Value} {L : PL} {rate burst hav : Int} (h : EsI w base g gc gr gb fk fp src many wanted goes first W pk by_ v L rate burst hav) (T : Still [gc] w w') {wanted' goes' : Int} (C : HpB w' gc (.cells (chC many wanted' goes') 112)) : EsI w' base g gc gr gb fk fp src many wanted' goes' first W pk by_ v L rate burst hav :=
 ⟨h.hp.st T (by simpa using hp_ne h.hp h.ch (by decide)), C, h.rg.still T (fun k hk => by obtain rfl : k = gc := (by simpa using hk); exact .inr ⟨_, _, _, h.ch, by decide⟩) (by simpa using hp_ne h.rg.cells h.ch (by decide)) (fun k hk hm => by obtain rfl : k = gc := (by simpa using hm); exact h.rg.q.ne h.ch (by decide) _ hk rfl), HpB.st (o := .cells _ _) h.bk T (by simpa using hp_ne (show HpB w gb (.cells _ _) from h.bk) h.ch (by decide))⟩
theorem EsI.setP {w w' : World} {base g gc gr gb : Nat} {fk fp : FuncId} {src many wanted goes first : Int} {W : Wr} {pk by_ : Int} {v : Value} {L : PL} {rate burst hav : Int} (h : EsI w base g gc gr gb fk fp src many wanted goes first W pk by_ v L rate burst hav) (T : Still [gc, g] w w') {goes' : Int} {W' : Wr} (H : HpB w' g (.cells (egW gc (fnV fk) (fnV fp) src first W' gr gb) 57)) (C : HpB w' gc (.cells (chC many wanted goes') 112)) : EsI w' base g gc gr gb fk fp src many wanted goes' first W' pk by_ v L rate burst hav := by
 have hS : AllT (fun t => t = 57 ∨ t = 112) w [gc, g] := .cons h.ch (.inr rfl) (.cons h.hp (.inl rfl) .nil)
 refine ⟨H, C, h.rg.still T (fun k hk => ?_) (hS.nin h.rg.cells (by decide)) (fun k hk => ?_), HpB.st (o := .cells _ _) h.bk T (hS.nin h.bk (by decide))⟩
 ·obtain ⟨cs, t, f, e, ht⟩ := hS k hk
  exact .inr ⟨_, _, _, e, by rintro rfl; revert ht; decide⟩
 ·obtain ⟨cs, e⟩ := h.rg.q.row k hk
  exact hS.nin e (by decide)
theorem R28.setC {w w' : World} {base q qc qw qr qb : Nat} {src c many wanted goes first : Int} {fol : Bool} {a b : Mpd} {v : Value} {L : List Mpd} {pk by_ : Int} {vi vb : Value} {M : PL} {rate burst hav : Int} (h : R28 w base q qc qw qr qb src c many wanted goes first fol a b v L pk by_ vi vb M rate burst hav) (T : Still [qc] w w') {wanted' goes' : Int} (C : HpB w' qc (.cells (chC many wanted' goes') 102)) : R28 w' base q qc qw qr qb src c many wanted' goes' first fol a b v L pk by_ vi vb M rate burst hav :=
 ⟨h.hp.st T (by simpa using hp_ne h.hp h.ch (by decide)), C, h.wr.stT T h.ch (by decide) (by decide), h.rg.stT T h.ch (by decide) (by decide) (by decide), HpB.st (o := .cells _ _) h.bk T (by simpa using hp_ne (show HpB w qb (.cells _ _) from h.bk) h.ch (by decide))⟩
theorem R28.setB {w w' : World} {base q qc qw qr qb : Nat} {src c many wanted goes first : Int} {fol : Bool} {a b : Mpd} {v : Value} {L : List Mpd} {pk by_ : Int} {vi vb : Value} {M : PL} {rate burst hav : Int} (h : R28 w base q qc qw qr qb src c many wanted goes first fol a b v L pk by_ vi vb M rate burst hav) (T : Still [qb] w w') {hav' : Int} (K : Rb w' qb rate burst hav') : R28 w' base q qc qw qr qb src c many wanted goes first fol a b v L pk by_ vi vb M rate burst hav' := by
 have hb : HpB w qb (.cells _ _) := h.bk
 exact ⟨h.hp.st T (by simpa using hp_ne h.hp hb (by decide)), h.ch.st T (by simpa using hp_ne h.ch hb (by decide)), h.wr.stT T hb (by decide) (by decide), h.rg.stT T hb (by decide) (by decide) (by decide), K⟩
theorem R28.setP {w w' : World} {base q qc qw qr qb : Nat} {src c many wanted goes first : Int} {fol : Bool} {a b : Mpd} {v : Value} {L : List Mpd} {pk by_ : Int} {vi vb : Value} {M : PL} {rate burst hav : Int} (h : R28 w base q qc qw qr qb src c many wanted goes first fol a b v L pk by_ vi vb M rate burst hav) (T : Still (qc :: qw :: v.ownBlock.toList) w w') {goes' : Int} {fol' : Bool} {a' b' : Mpd} {v' : Value} {L' : List Mpd} (H : HpB w' q (.cells #[.int .u32 src, .int .i64 c, .pointer (some ⟨qc, 0, none⟩), .pointer (some ⟨qw, 0, none⟩), .pointer (some ⟨qr, 0, none⟩), .pointer (some ⟨qb, 0, none⟩)] 86)) (C : HpB w' qc (.cells (chC many wanted goes') 102)) (Wn : W22 w' base qw first fol' a' b' v' L') : R28 w' base q qc qw qr qb src c many wanted goes' first fol' a' b' v' L' pk by_ vi vb M rate burst hav := by
 have hS : AllT (fun t => t = 102 ∨ t = 129 ∨ t = 51) w (qc :: qw :: v.ownBlock.toList) := .cons h.ch (.inl rfl) (.cons h.wr.hp (.inr (.inl rfl)) (AllT.own h.wr.q (.inr (.inr rfl))))
 exact ⟨H, C, Wn, h.rg.stA T (hS.nin h.rg.cells (by decide)) (fun k hk => by obtain ⟨cs, e⟩ := h.rg.qi.row k hk; exact hS.nin e (by decide)) (fun k hk => by obtain ⟨cs, e⟩ := h.rg.qb.row k hk; exact hS.nin e (by decide)), HpB.st (o := .cells _ _) h.bk T (hS.nin h.bk (by decide))⟩
theorem R28.setR {w w' : World} {base q qc qw qr qb : Nat} {src c many wanted goes first : Int} {fol : Bool} {a b : Mpd} {v : Value} {L : List Mpd} {pk by_ : Int} {vi vb : Value} {M : PL} {rate burst hav : Int} (h : R28 w base q qc qw qr qb src c many wanted goes first fol a b v L pk by_ vi vb M rate burst hav) (T : Still (qr :: (vi.ownBlock.toList ++ vb.ownBlock.toList)) w w') {vi' vb' : Value} {M' : PL} (G : RefV w' base qr pk by_ vi' vb' M') : R28 w' base q qc qw qr qb src c many wanted goes first fol a b v L pk by_ vi' vb' M' rate burst hav := by
 have hS : AllT (fun t => t = 99 ∨ t = 2 ∨ t = 9) w (qr :: (vi.ownBlock.toList ++ vb.ownBlock.toList)) := .cons h.rg.cells (.inl rfl) (.app (AllT.own h.rg.qi (.inr (.inl rfl))) (AllT.own h.rg.qb (.inr (.inr rfl))))
 exact ⟨h.hp.st T (hS.nin h.hp (by decide)), h.ch.st T (hS.nin h.ch (by decide)), h.wr.st T (hS.nin h.wr.hp (by decide)) (fun k hk => by obtain ⟨cs, e⟩ := h.wr.q.row k hk; exact hS.nin e (by decide)), G, HpB.st (o := .cells _ _) h.bk T (hS.nin h.bk (by decide))⟩
theorem swLdG {T : TypeId} {n : Nat} {ops : Array Oper} {rest : List Oper} {o : Oper} {a : Act} {w : World} {Q : Exit → Act → World → Prop} (hT : SwT T n) (hw : Region.wanted o (yielded ops a.tmps) = true) {x : Operand} (ho : o.op = .load T x) {g : Nat} (hx : a.eval x = .pointer (some ⟨g, 0, none⟩)) {c : Array Value} {t : TypeId} (H : HpB w g (.cells c t)) (hl : c.size = n)
  (h : wpList Try.prog ops Q rest (a.put o.dst (.agg c)) w) : wpList Try.prog ops Q (o :: rest) a w :=
 have ⟨d, h1, h2, _⟩ := hT.hu
 BigFrame.wpList_want hw (fun _ hK => wp_load_row T x ho _ hx _ _ _ _ H h1 (by cases d <;> first | rfl | cases h2) (by rw [hT.hi, hl]) (hK _ _ h))
def KTy (t : TypeId) : Prop := t = 140 ∨ t = 158 ∨ t = 99 ∨ t = 2 ∨ t = 9
theorem give_range (u h n : Int) (hu : 0 ≤ u ∧ u ≤ 18446744073709551615) (hh : 0 ≤ h) (hn : 0 ≤ n) : 0 ≤ giveN u h n ∧ giveN u h n ≤ 18446744073709551615 := by
 unfold giveN satN
 split <;> omega
theorem SlB.len_eq {w : World} {sa : Option Addr} {n cp : Nat} {l : List Int} (h : SlB w sa n cp l) : n = l.length := h.1
theorem SlB_nil (w : World) : SlB w none 0 0 [] := ⟨rfl, Nat.le_refl _, by decide, (fun x hx => by cases hx), .inl ⟨rfl, fun _ => rfl⟩⟩
theorem pay_same {c : Nat} {lp : List Nat} {sp : Option Addr} {np cp : Nat} {n2 : Int} {s1 : Option Addr} {m1 c1 : Nat} {L1 : List Int} {s2 : Option Addr} {m2 c2 : Nat} {L2 : List Int} (h1 : PayL c lp sp np cp n2 s1 m1 c1 L1) (h2 : PayL c lp sp np cp n2 s2 m2 c2 L2) : L1 = L2 := by
 rcases h1 with ⟨e1, e2, -⟩ | ⟨e1, -, e2⟩ <;> rcases h2 with ⟨f1, f2, -⟩ | ⟨f1, -, f2⟩
 ·rw [e2, f2]
 ·rw [e1] at f1; cases f1
 ·rw [e1] at f1; cases f1
 ·rw [e2, f2]
set_option maxRecDepth 100000 in
set_option maxHeartbeats 8000000 in
theorem law_eplays (src codec many first : Int) (cs : Array Value) (sa : Option Addr) (ln cp_ : Nat) (w : World) (hsr : (Lit.int .u32 src).wf = true) (hco : (Lit.int .i64 codec).wf = true) (hma : (Lit.int .i64 many).wf = true) (hfi : (Lit.int .i64 first).wf = true) (hX : Rd w limTy cs.toList) (hA : Rd w (.loop egTy) [.slice sa ln cp_]) :
  Calls Try.prog 5 #[.int .u32 src, .int .i64 codec, .int .i64 many, .int .i64 first, .agg cs, .slice sa ln cp_] w fun e w' => e = .returned (.bool true) ∧ Below w.heap.size w w' := by
 obtain ⟨l0, l1, l2, l3, l4, l5, pk, by_, again, rfl, hpm, hym, hag0, hag1⟩ := lim_of hX
 obtain ⟨hlc, hcm, hops⟩ := egop_at hA
 unfold maxLen at hcm
 clear hA hX hsr hco hma hfi
 have B1 := Lib.hid (show BW w (w.alloc (.cells (limX l0 l1 l2 l3 l4 l5 pk by_ again) 31)) from (BW.refl w).alloc)
 have Xl := Lib.hid (HpB.new w (.cells (limX l0 l1 l2 l3 l4 l5 pk by_ again) 31))
 replace hops := Lib.hid hops
 have hal := fun w1 => Lib.hid (es_alive w1)
 unfold limX at *
 go_enter Try.func5, Try.ntmps5
 go_upto_region 1 with (fail)
 generalize w.alloc _ = w1 at *
 obtain ⟨glim, hgl⟩ : ∃ x, w.heap.size = x := ⟨_, rfl⟩
 rw [hgl] at Xl ⊢
 replace hgl := Lib.hid hgl
 go_wp2_with fail
 refine Calls.mono (hal w1).out ?_
 rintro e w2 ⟨rfl, hb⟩
 replace Xl := Lib.hid (Xl.out.bw hb)
 have B2 := Lib.hid (B1.out.trans hb)
 clear hal hb B1
 dsimp only
 by_cases hf : 1099511627776 < first
 ·have d1 : decide (1099511627776 < first) = true := decide_eq_true hf
  go_wp2_with fail
  go_ret
  exact ⟨rfl, B2.out⟩
 have d1 : decide (1099511627776 < first) = false := decide_eq_false hf
 have cM := fun (y : World) => mayE_any codec many l0 l1 l2 l3 l4 l5 pk by_ again y
 cases hmay : mayE codec many pk by_ with
 | false =>
  have cN := egno_any src codec many first l0 l1 l2 l3 l4 l5 pk by_ again hmay w2
  rw [hmay] at cM
  unfold limX at cN
  replace cN := Lib.hid cN
  replace cM := Lib.hid cM
  replace hf := Lib.hid hf
  go_wp2_with (refine swLd swLm rfl rfl rfl Xl.out rfl ?_)
  refine Calls.mono cN.out ?_
  rintro e w3 ⟨rfl, hb⟩
  replace Xl := Lib.hid (Xl.out.bw hb)
  have B3 := Lib.hid (B2.out.trans hb)
  clear hb cN B2
  dsimp only
  go_wp2_with (refine swLd swLm rfl rfl rfl Xl.out rfl ?_)
  refine Calls.mono (cM.out w3) ?_
  rintro e w4 ⟨rfl, hb⟩
  replace hb := Lib.hid (B3.out.trans hb)
  dsimp only
  go_wp2_with fail
  go_ret
  exact ⟨rfl, hb.out⟩
 | true =>
  have hm := of_decide_eq_true (show decide _ = true from hmay)
  rw [hmay] at cM
  obtain ⟨c, hc⟩ : ∃ c : Nat, codec = (c : Int) := ⟨codec.toNat, by omega⟩
  subst hc
  have hc3 : c < 3 := by omega
  have cN := egnewx_c c hc3 src many first l0 l1 l2 l3 l4 l5 pk by_ again (by omega) (by omega) (by omega) ⟨hag0, hag1⟩ w2
  unfold limX at cN
  replace cN := Lib.hid cN
  replace cM := Lib.hid cM
  replace hmay := Lib.hid hmay
  go_wp2_with (refine swLd swLm rfl rfl rfl Xl.out rfl ?_)
  refine Calls.mono cN.out ?_
  rintro e w3 ⟨g, gc, gr, gb, rfl, hge, E3, hb⟩
  have E := Lib.hid (E3.up B2.out.size)
  have hgw : w.heap.size ≤ g ∧ w.heap.size ≤ gc ∧ w.heap.size ≤ gr ∧ w.heap.size ≤ gb := by have := B2.out.size; omega
  replace Xl := Lib.hid (Xl.out.bw hb)
  have B3 := Lib.hid (B2.out.trans hb)
  clear hb cN B2 hge E3
  replace hgw := Lib.hid hgw
  dsimp only
  go_wp2_with (refine swLd swLm rfl rfl rfl Xl.out rfl ?_)
  refine Calls.mono (cM.out w3) ?_
  rintro e w4 ⟨rfl, hb⟩
  replace E := Lib.hid (E.out.bw hb)
  replace Xl := Lib.hid (Xl.out.bw hb)
  have B4 := Lib.hid (B3.out.trans hb)
  clear hb cM B3
  dsimp only
  have cS := Lib.hid (source_x _ _ _ _ _ _ _ _ _ _ _ _ _ _ _ _ _ _ _ _ w4 E.out)
  go_wp2_with fail
  refine Calls.mono cS.out ?_
  rintro e w5 ⟨rfl, rfl⟩
  clear cS
  dsimp only
  have cR := c28_new w.heap.size src (c : Int) many first l0 l1 l2 l3 l4 l5 pk by_ again ⟨hag0, hag1⟩ w4
  unfold limX at cR
  replace cR := Lib.hid cR
  go_wp2_with (refine swLd swLm rfl rfl rfl Xl.out rfl ?_)
  refine Calls.mono cR.out ?_
  rintro e w6 ⟨q, qc, qw, qr, qb, rfl, hqe, R, hb⟩
  replace R := Lib.hid R
  replace E := Lib.hid (E.out.bw hb)
  have B := Lib.hid (B4.out.trans hb)
  have hqw : w.heap.size ≤ q ∧ w.heap.size ≤ qc ∧ w.heap.size ≤ qw ∧ w.heap.size ≤ qr ∧ w.heap.size ≤ qb := by have := B4.out.size; omega
  have hP0 := Lib.hid (EP.start pk by_ again (by omega) (by omega) ⟨hag0, hag1⟩ (.slice none 0 0) (.slice none 0 0) (.slice none 0 0) (.slice none 0 0))
  have hbur := burN_range ⟨hag0, hag1⟩
  have hfr : 0 ≤ max first 0 ∧ max first 0 ≤ 1099511627776 := by omega
  clear hb cR B4 hqe Xl
  obtain ⟨first_, hf0⟩ : ∃ x, max first 0 = x := ⟨_, rfl⟩
  obtain ⟨burst, hbu⟩ : ∃ x, burN again = x := ⟨_, rfl⟩
  rw [hf0] at E R hfr
  rw [hbu] at E R hP0 hbur
  replace hqw := Lib.hid hqw
  replace hf0 := Lib.hid hf0
  replace hbu := Lib.hid hbu
  replace hbur := Lib.hid hbur
  dsimp only
  go_upto_region 12 with (fail)
  go_loopg [15] ln (fun m' i wx => ∃ (k : Nat) (s : ES), m' = ln - k ∧ k ≤ ln ∧ k ≤ 40 ∧ i = .int .i64 (k : Nat) ∧ Hid (EP pk by_ k s) ∧ Hid (EsI wx w.heap.size g gc gr gb (fkC c) (fpC c) src many s.wanted s.goes first_ s.W pk by_ s.vr s.LP again burst s.hav) ∧ Hid (R28 wx w.heap.size q qc qw qr qb src (c : Nat) many s.wanted s.goes first_ s.fol s.a s.b s.v s.LW pk by_ s.vi s.vb s.M again burst s.hav) ∧ Hid (BW w wx))
  case atStart => exact ⟨0, ⟨-1, -1, Wr.zero, false, (0, 0, 0), (0, 0, 0), .slice none 0 0, [], .slice none 0 0, [], .slice none 0 0, .slice none 0 0, [], burst⟩, by omega, by omega, by omega, rfl, hP0, E, R, B⟩
  case round =>
   clear E R B hP0
   obtain ⟨k, ⟨wanted, goes, W, fol, a, b, v, LW, vr, LP, vi, vb, M, hav⟩, rfl, hk, hk40, rfl, hP, E, R, B⟩ := hrel
   dsimp only at hP E R
   by_cases hkn : k < ln
   ·have d2 : decide ((k : Int) < (ln : Int)) = true := by simp; omega
    by_cases hk4 : k < 40
    ·have d3 : decide ((k : Int) < 40) = true := by simp; omega
     obtain ⟨gq, oq, rfl, hgq, hi⟩ : ∃ b o, sa = some ⟨b, o, none⟩ ∧ b < w.heap.size ∧ _ := by
      rcases hops.out with h0 | h
      ·omega
      ·exact h
     obtain ⟨ko, ly, pl, ix, mk, ty, sq, st, so, so_, no, co, xb, pf, se, ne, ce, sp, np, cp, pd, sz, sl, nl, cl_, lp, le, hcells, SP, SE, hko, hix, hly, hoc, hlc2, hst, hsz, hLs⟩ := hi k hkn
     obtain ⟨_, _, he, hpc, hpm2⟩ := SP.len
     cases he
     obtain ⟨_, _, he, hec, hem⟩ := SE.len
     cases he
     unfold maxLen at hpm2 hem hoc hlc2
     obtain ⟨szn, hszn⟩ : ∃ n : Nat, sz = (n : Int) := ⟨sz.toNat, by omega⟩
     subst hszn
     obtain ⟨LL, hLS, hLL⟩ := losses_of (base := 0) hLs
     have hby := Lib.hid SP.2.1
     replace SP := Lib.hid SP
     replace SE := Lib.hid SE
     replace hLS := Lib.hid hLS
     replace hLL := Lib.hid hLL
     clear hLs
     have hR := Lib.hid (rangeAt_bw (rangeAt_of hcells rfl) B.out)
     clear hcells hi
     as_aux_lemma =>
     have hb : BW wr (wr.alloc (.cells (opA ko ly pl ix mk ty sq st so so_ no co xb pf se ne ce sp np cp pd (szn : Nat) sl nl cl_) 41)) := (BW.refl wr).alloc
     have Xn := Lib.hid (HpB.new wr (.cells (opA ko ly pl ix mk ty sq st so so_ no co xb pf se ne ce sp np cp pd (szn : Nat) sl nl cl_) 41))
     replace E := Lib.hid (E.out.bw hb)
     replace R := Lib.hid (R.out.bw hb)
     replace B := Lib.hid (B.out.trans hb)
     try replace Xc := Lib.hid (Xc.out.bw hb)
     try replace Ya := Lib.hid (Ya.out.bw hb)
     try replace Yb := Lib.hid (Yb.out.bw hb)
     try replace PV := Lib.hid (PV.out.bw hb)
     try replace QA := Lib.hid (QA.out.bw hb)
     try replace QB := Lib.hid (QB.out.bw hb)
     try replace AV := Lib.hid (AV.out.bw hb)
     clear hb
     have Xc := Xn
     clear Xn
     go_upto_region 15 with (first | (refine swLdC swOp rfl rfl rfl hR.out rfl ?_) | (refine swStN swOp rfl rfl rfl rfl rfl rfl (by kernel_rfl) ?_))
     generalize wr.alloc _ = w3 at *
     generalize wr.heap.size = go at *
     clear hR
     have cG := great_any ko ly pl ix mk ty sq st so so_ no co xb pf se ne ce sp np cp pd (szn : Nat) sl nl cl_ w3
     obtain ⟨G, hG⟩ : ∃ G, greatN no ne np nl ix = G := ⟨_, rfl⟩
     rw [hG] at cG
     replace cG := Lib.hid cG
     replace hG := Lib.hid hG
     as_aux_lemma =>
     go_wp2_with (refine swLd swOp rfl rfl rfl Xc.out rfl ?_)
     refine Calls.mono cG.out ?_
     rintro e w4 ⟨rfl, hb⟩
     replace E := Lib.hid (E.out.bw hb)
     replace R := Lib.hid (R.out.bw hb)
     replace B := Lib.hid (B.out.trans hb)
     try replace Xc := Lib.hid (Xc.out.bw hb)
     try replace Ya := Lib.hid (Ya.out.bw hb)
     try replace Yb := Lib.hid (Yb.out.bw hb)
     try replace PV := Lib.hid (PV.out.bw hb)
     try replace QA := Lib.hid (QA.out.bw hb)
     try replace QB := Lib.hid (QB.out.bw hb)
     try replace AV := Lib.hid (AV.out.bw hb)
     clear hb
     clear cG
     dsimp only
     cases G with
     | true =>
      go_wp2_with fail
      go_ret
      exact ⟨rfl, B.out⟩
     | false =>
      obtain ⟨hno6, hne, hnp, hnl, hix2⟩ := greatN_no hG.out
      have q0 := (hp_cell Xc.out 0).trans (show _ = some (.int .u8 ko) from rfl)
      go_upto_block 2 with (fail)
      go_cut [] (fun wc => ∃ s : ES, Hid (EP pk by_ (k + 1) s) ∧ Hid (EsI wc w.heap.size g gc gr gb (fkC c) (fpC c) src many s.wanted s.goes first_ s.W pk by_ s.vr s.LP again burst s.hav) ∧ Hid (R28 wc w.heap.size q qc qw qr qb src (c : Nat) many s.wanted s.goes first_ s.fol s.a s.b s.v s.LW pk by_ s.vi s.vb s.M again burst s.hav) ∧ Hid (BW w wc))
      case first =>
       clear q0
       as_aux_lemma =>
       by_cases hk3 : ko % 6 = 3
       ·have dk : (ko % 6 == 3) = true := beq_iff_eq.2 hk3
        replace hk3 := Lib.hid hk3
        have hm1 : 1 ≤ many := by have := hm; omega
        go_upto_region 31 with (fail)
        obtain ⟨⟨cd, wx, gx⟩, hW⟩ : ∃ r, wantN many wanted goes ly = r := ⟨_, rfl⟩
        replace hW := Lib.hid hW
        have z0 := (hp_cell E.out.hp 0).trans (show _ = some (.pointer (some ⟨gc, 0, none⟩)) from rfl)
        have z2 := (hp_cell R.out.hp 2).trans (show _ = some (.pointer (some ⟨qc, 0, none⟩)) from rfl)
        have x1 := (hp_cell Xc.out 1).trans (show _ = some (.int .i64 ly) from rfl)
        have hS : AllT (fun t => t = 112 ∨ t = 102) w4 [gc, qc] := .cons E.out.ch (.inl rfl) (.cons R.out.ch (.inr rfl) .nil)
        have hqS : q ∉ [gc, qc] := hS.nin R.out.hp (by decide)
        have hgS : go ∉ [gc, qc] := hS.nin Xc.out (by decide)
        have m0 : ∀ y : LaterS [] w4, _ := fun y => y.bw.cell z0
        have m1 : ∀ y : LaterS [] w4, _ := fun y => y.bw.cell x1
        have m1s : ∀ y : LaterS [gc, qc] w4, _ := fun y => y.cell x1 hgS
        have m2s : ∀ y : LaterS [gc, qc] w4, _ := fun y => y.cell z2 hqS
        replace hS := Lib.hid hS
        replace hqS := Lib.hid hqS
        replace hgS := Lib.hid hgS
        clear z0 z2 x1
        refine wp_region_gg ([gc, qc]) [6, 13] [] (by kernel_rfl) ?_
        refine hoist [] [6, 13] (a1 := ?_) 0 rfl (by kernel_rfl) (.inl ⟨rfl, rfl⟩) rfl rfl rfl (fun x K hK => ?_) ?_
        rotate_left
        ·go_big_quiet_op
         exact hK
        refine hoist [] [6, 13] (a1 := ?_) 1 rfl (by kernel_rfl) (.inl ⟨rfl, rfl⟩) rfl rfl rfl (fun x K hK => ?_) ?_
        rotate_left
        ·go_big_quiet_op
         exact hK
        refine hoist [] [6, 13] (a1 := ?_) 2 rfl (by kernel_rfl) (.inl ⟨rfl, rfl⟩) rfl rfl rfl (fun x K hK => ?_) ?_
        rotate_left
        ·go_big_quiet_op
         exact hK
        refine hoist [] [6, 13] (a1 := ?_) 3 rfl (by kernel_rfl) (.inl ⟨rfl, rfl⟩) rfl rfl rfl (fun x K hK => ?_) ?_
        rotate_left
        ·go_big_quiet_op
         exact hK
        refine hoist [] [6, 13] (a1 := ?_) 4 rfl (by kernel_rfl) (.inl ⟨rfl, rfl⟩) rfl rfl rfl (fun x K hK => ?_) ?_
        rotate_left
        ·go_big_quiet_op
         exact hK
        refine hoist [] [6, 13] (a1 := ?_) 5 rfl (by kernel_rfl) (.inl ⟨rfl, rfl⟩) rfl rfl rfl (fun x K hK => ?_) ?_
        rotate_left
        ·go_big_quiet_op
         exact hK
        refine hoist ([gc, qc]) [] (a1 := ?_) 7 rfl (by kernel_rfl) (.inr rfl) rfl rfl rfl (fun x K hK => ?_) ?_
        rotate_left
        ·go_big_quiet_op
         exact hK
        refine hoist ([gc, qc]) [] (a1 := ?_) 8 rfl (by kernel_rfl) (.inr rfl) rfl rfl rfl (fun x K hK => ?_) ?_
        rotate_left
        ·go_big_quiet_op
         exact hK
        refine hoist ([gc, qc]) [] (a1 := ?_) 9 rfl (by kernel_rfl) (.inr rfl) rfl rfl rfl (fun x K hK => ?_) ?_
        rotate_left
        ·go_big_quiet_op
         exact hK
        refine hoist ([gc, qc]) [] (a1 := ?_) 10 rfl (by kernel_rfl) (.inr rfl) rfl rfl rfl (fun x K hK => ?_) ?_
        rotate_left
        ·go_big_quiet_op
         exact hK
        refine hoist ([gc, qc]) [] (a1 := ?_) 11 rfl (by kernel_rfl) (.inr rfl) rfl rfl rfl (fun x K hK => ?_) ?_
        rotate_left
        ·go_big_quiet_op
         exact hK
        refine hoist ([gc, qc]) [] (a1 := ?_) 12 rfl (by kernel_rfl) (.inr rfl) rfl rfl rfl (fun x K hK => ?_) ?_
        rotate_left
        ·go_big_quiet_op
         exact hK
        refine effect 6 rfl (by kernel_rfl) (by kernel_rfl) rfl (fun x6 K hK => ?_)
        have hb := x6.bw
        replace E := Lib.hid (E.out.bw hb)
        replace R := Lib.hid (R.out.bw hb)
        replace B := Lib.hid (B.out.trans hb)
        try replace Xc := Lib.hid (Xc.out.bw hb)
        try replace Ya := Lib.hid (Ya.out.bw hb)
        try replace Yb := Lib.hid (Yb.out.bw hb)
        try replace PV := Lib.hid (PV.out.bw hb)
        try replace QA := Lib.hid (QA.out.bw hb)
        try replace QB := Lib.hid (QB.out.bw hb)
        try replace AV := Lib.hid (AV.out.bw hb)
        clear hb
        go_simp
        have cW := want_any gc many wanted goes ly x6.now E.out.ch
        rw [hW.out] at cW
        refine Calls.mono cW ?_
        rintro e w5 ⟨rfl, C5, T5⟩
        refine hK _ _ (T5.weaken (fun k hk => by obtain rfl := (List.mem_singleton.1 hk); exact List.mem_cons_self)) ?_
        clear hK K m0 m1 m1s m2s cW
        replace R := Lib.hid (R.out.stP T5 (.cons E.out.ch (by unfold PTy; decide) .nil))
        replace B := Lib.hid (BW.stP B.out T5 (fun k hk => by obtain rfl := (List.mem_singleton.1 hk); exact hgw.out.2.1))
        replace E := Lib.hid (E.out.setC T5 C5)
        clear Xc T5 C5
        try simp only [Act.put, List.setIfInBounds_toArray, List.set_cons_succ, List.set_cons_zero]
        refine effect 13 rfl (by kernel_rfl) (by kernel_rfl) rfl (fun x13 K hK => ?_)
        have hb := x13.bw
        replace E := Lib.hid (E.out.bw hb)
        replace R := Lib.hid (R.out.bw hb)
        replace B := Lib.hid (B.out.trans hb)
        try replace Xc := Lib.hid (Xc.out.bw hb)
        try replace Ya := Lib.hid (Ya.out.bw hb)
        try replace Yb := Lib.hid (Yb.out.bw hb)
        try replace PV := Lib.hid (PV.out.bw hb)
        try replace QA := Lib.hid (QA.out.bw hb)
        try replace QB := Lib.hid (QB.out.bw hb)
        try replace AV := Lib.hid (AV.out.bw hb)
        clear hb
        go_simp
        have cW := c23_want qc many wanted goes ly hm1 x13.now R.out.ch
        rw [hW.out] at cW
        refine Calls.mono cW ?_
        rintro e w5 ⟨rfl, C5, T5⟩
        refine hK _ _ (T5.weaken (fun k hk => by obtain rfl := (List.mem_singleton.1 hk); exact List.mem_cons_of_mem _ List.mem_cons_self)) ?_
        clear hK K cW
        replace E := Lib.hid (E.out.stR T5 (.cons R.out.ch (by unfold RTy; decide) .nil))
        replace B := Lib.hid (BW.stP B.out T5 (fun k hk => by obtain rfl := (List.mem_singleton.1 hk); exact hqw.out.2.1))
        replace R := Lib.hid (R.out.setC T5 C5)
        clear T5 C5
        try simp only [Act.put, List.setIfInBounds_toArray, List.set_cons_succ, List.set_cons_zero]
        refine hoist [] [6, 13] (a1 := ?_) 14 rfl (by kernel_rfl) (.inl ⟨rfl, rfl⟩) rfl rfl rfl (fun x K hK => ?_) ?_
        rotate_left
        ·go_big_quiet_op
         exact hK
        refine done (by kernel_rfl) (fun xr => ?_)
        have hb := xr.bw
        replace E := Lib.hid (E.out.bw hb)
        replace R := Lib.hid (R.out.bw hb)
        replace B := Lib.hid (B.out.trans hb)
        try replace Xc := Lib.hid (Xc.out.bw hb)
        try replace Ya := Lib.hid (Ya.out.bw hb)
        try replace Yb := Lib.hid (Yb.out.bw hb)
        try replace PV := Lib.hid (PV.out.bw hb)
        try replace QA := Lib.hid (QA.out.bw hb)
        try replace QB := Lib.hid (QB.out.bw hb)
        try replace AV := Lib.hid (AV.out.bw hb)
        clear hb
        generalize xr.now = w6 at *
        clear xr
        go_wp2_with fail
        go_meet
        exact ⟨⟨wx, gx, W, fol, a, b, v, LW, vr, LP, vi, vb, M, hav⟩, Lib.hid (hP.out.want wx gx), E, R, B⟩
       have dk3 : (ko % 6 == 3) = false := beq_eq_false_iff_ne.2 hk3
       replace hk3 := Lib.hid hk3
       by_cases hk4' : ko % 6 = 4
       ·have dk : (ko % 6 == 4) = true := beq_iff_eq.2 hk4'
        replace hk4' := Lib.hid hk4'
        go_upto_region 34 with (fail)
        have hLL2 : LL.length = nl := hLS.out.1
        have hwl := hP.out.ok.2.2.1
        have hhav := hP.out.hv
        have hsq := nackN_lt hLL.out
        have hlz := hP.out.z
        have hln := hP.out.n
        obtain ⟨A, hA⟩ : ∃ A, ansN LP (hiW W) (nackN LL) hav = A := ⟨_, rfl⟩
        have hA0 := ansN_ok LP (hiW W) (nackN LL) hav hhav.1
        rw [hA] at hA0
        have hwl2 : W.l0 ≤ 1152921504606846976 := by dsimp only at hwl; push_cast at hwl; omega
        have hlz2 : lensL LP ≤ 100000000 := by dsimp only at hlz; omega
        have hln2 : LP.length ≤ 100000 := by dsimp only at hln; omega
        have hhav2 : 0 ≤ hav ∧ hav ≤ 18446744073709551615 := hhav
        replace hA := Lib.hid hA
        replace hA0 := Lib.hid hA0
        replace hsq := Lib.hid hsq
        clear hLL2 hwl hlz hln hhav
        have z3 := (hp_cell Xc.out 16).trans (show _ = some (.slice sl nl cl_) from rfl)
        have hS : AllT (fun t => t = 142 ∨ t = 92) w4 [gb, qb] := .cons E.out.bk (.inl rfl) (.cons R.out.bk (.inr rfl) .nil)
        have hgS : go ∉ [gb, qb] := hS.nin Xc.out (by decide)
        have m3 : ∀ y : LaterS [] w4, _ := fun y => y.bw.cell z3
        have m3s : ∀ y : LaterS [gb, qb] w4, _ := fun y => y.cell z3 hgS
        replace hS := Lib.hid hS
        replace hgS := Lib.hid hgS
        clear z3
        refine wp_region_gg ([gb, qb]) [3, 7] [] (by kernel_rfl) ?_
        refine hoist [] [3, 7] (a1 := ?_) 0 rfl (by kernel_rfl) (.inl ⟨rfl, rfl⟩) rfl rfl rfl (fun x K hK => ?_) ?_
        rotate_left
        ·go_big_quiet_op
         exact hK
        refine hoist [] [3, 7] (a1 := ?_) 1 rfl (by kernel_rfl) (.inl ⟨rfl, rfl⟩) rfl rfl rfl (fun x K hK => ?_) ?_
        rotate_left
        ·go_big_quiet_op
         exact hK
        refine hoist [] [3, 7] (a1 := ?_) 2 rfl (by kernel_rfl) (.inl ⟨rfl, rfl⟩) rfl rfl rfl (fun x K hK => ?_) ?_
        rotate_left
        ·go_big_quiet_op
         exact hK
        refine hoist ([gb, qb]) [] (a1 := ?_) 4 rfl (by kernel_rfl) (.inr rfl) rfl rfl rfl (fun x K hK => ?_) ?_
        rotate_left
        ·go_big_quiet_op
         exact hK
        refine hoist ([gb, qb]) [] (a1 := ?_) 5 rfl (by kernel_rfl) (.inr rfl) rfl rfl rfl (fun x K hK => ?_) ?_
        rotate_left
        ·go_big_quiet_op
         exact hK
        refine hoist ([gb, qb]) [] (a1 := ?_) 6 rfl (by kernel_rfl) (.inr rfl) rfl rfl rfl (fun x K hK => ?_) ?_
        rotate_left
        ·go_big_quiet_op
         exact hK
        refine effect 3 rfl (by kernel_rfl) (by kernel_rfl) rfl (fun x3 K hK => ?_)
        have hb := x3.bw
        replace E := Lib.hid (E.out.bw hb)
        replace R := Lib.hid (R.out.bw hb)
        replace B := Lib.hid (B.out.trans hb)
        try replace Xc := Lib.hid (Xc.out.bw hb)
        try replace Ya := Lib.hid (Ya.out.bw hb)
        try replace Yb := Lib.hid (Yb.out.bw hb)
        try replace PV := Lib.hid (PV.out.bw hb)
        try replace QA := Lib.hid (QA.out.bw hb)
        try replace QB := Lib.hid (QB.out.bw hb)
        try replace AV := Lib.hid (AV.out.bw hb)
        clear hb
        go_simp
        refine Calls.mono (nack_x w.heap.size g gc gr gb (fkC c) (fpC c) src many wanted goes first_ W pk by_ vr LP again burst hav 0 nl _ LL (by omega) hLL.out x3.now E.out hP.out.sp.srtN hln2 hlz2 hhav2 hwl2 hsq.out (hLS.out.bw B.out) A hA.out) ?_
        rintro e w5 ⟨so1, n1, co1, rfl, QA, E5, T5⟩
        refine hK _ _ (T5.weaken (fun k hk => by obtain rfl := (List.mem_singleton.1 hk); exact List.mem_cons_self)) ?_
        clear hK K m3 m3s
        replace R := Lib.hid (R.out.stP T5 (.cons E.out.bk (by unfold PTy; decide) .nil))
        replace B := Lib.hid (BW.stP B.out T5 (fun k hk => by obtain rfl := (List.mem_singleton.1 hk); exact hgw.out.2.2.2))
        replace E := Lib.hid E5
        replace QA := Lib.hid QA
        clear Xc T5 E5
        try simp only [Act.put, List.setIfInBounds_toArray, List.set_cons_succ, List.set_cons_zero]
        refine effect 7 rfl (by kernel_rfl) (by kernel_rfl) rfl (fun x7 K hK => ?_)
        have hb := x7.bw
        replace E := Lib.hid (E.out.bw hb)
        replace R := Lib.hid (R.out.bw hb)
        replace B := Lib.hid (B.out.trans hb)
        try replace Xc := Lib.hid (Xc.out.bw hb)
        try replace Ya := Lib.hid (Ya.out.bw hb)
        try replace Yb := Lib.hid (Yb.out.bw hb)
        try replace PV := Lib.hid (PV.out.bw hb)
        try replace QA := Lib.hid (QA.out.bw hb)
        try replace QB := Lib.hid (QB.out.bw hb)
        try replace AV := Lib.hid (AV.out.bw hb)
        clear hb
        go_simp
        refine Calls.mono (rnack28 w.heap.size q qc qw qr qb c src first_ W fol a b v LW _ pk by_ vi vb LP M again burst hav 0 nl _ LL hP.out.wr hP.out.sp (by omega) hLL.out x7.now R.out.hp R.out.wr R.out.rg R.out.bk hlz2 hhav2 hwl2 hsq.out (hLS.out.bw B.out) A hA.out) ?_
        rintro e w5 ⟨so2, n2, co2, rfl, QB, K5, T5⟩
        refine hK _ _ (T5.weaken (fun k hk => by obtain rfl := (List.mem_singleton.1 hk); exact List.mem_cons_of_mem _ List.mem_cons_self)) ?_
        clear hK K
        replace QA := Lib.hid (QA.out.still T5 (fun k hk => by obtain rfl := (List.mem_singleton.1 hk); exact .inr ⟨_, _, _, R.out.bk, by decide⟩) (fun k hk hm => by obtain rfl := (List.mem_singleton.1 hm); exact QA.out.ne R.out.bk (by decide) _ hk rfl))
        replace E := Lib.hid (E.out.stR T5 (.cons R.out.bk (by unfold RTy; decide) .nil))
        replace B := Lib.hid (BW.stP B.out T5 (fun k hk => by obtain rfl := (List.mem_singleton.1 hk); exact hqw.out.2.2.2.2))
        replace R := Lib.hid (R.out.setB T5 K5)
        replace QB := Lib.hid QB
        clear T5 K5
        try simp only [Act.put, List.setIfInBounds_toArray, List.set_cons_succ, List.set_cons_zero]
        refine hoist [] [3, 7] (a1 := ?_) 8 rfl (by kernel_rfl) (.inl ⟨rfl, rfl⟩) rfl rfl rfl (fun x K hK => ?_) ?_
        rotate_left
        ·go_big_quiet_op
         exact hK
        refine hoist [] [3, 7] (a1 := ?_) 9 rfl (by kernel_rfl) (.inl ⟨rfl, rfl⟩) rfl rfl rfl (fun x K hK => ?_) ?_
        rotate_left
        ·go_big_quiet_op
         exact hK
        refine done (by kernel_rfl) (fun xr => ?_)
        have hb := xr.bw
        replace E := Lib.hid (E.out.bw hb)
        replace R := Lib.hid (R.out.bw hb)
        replace B := Lib.hid (B.out.trans hb)
        try replace Xc := Lib.hid (Xc.out.bw hb)
        try replace Ya := Lib.hid (Ya.out.bw hb)
        try replace Yb := Lib.hid (Yb.out.bw hb)
        try replace PV := Lib.hid (PV.out.bw hb)
        try replace QA := Lib.hid (QA.out.bw hb)
        try replace QB := Lib.hid (QB.out.bw hb)
        try replace AV := Lib.hid (AV.out.bw hb)
        clear hb
        generalize xr.now = w6 at *
        clear xr
        have hn1 : A.1.length = n1 := QA.out.1
        have hn2 : A.1.length = n2 := QB.out.1
        obtain rfl : n1 = n2 := by omega
        clear hn2
        obtain ⟨_, _, hq1, hc1, hm1'⟩ := QA.out.len
        simp only [Value.slice.injEq, true_and] at hq1
        obtain ⟨-, hq1⟩ := hq1
        rw [← hq1] at hc1 hm1'
        unfold maxLen at hm1'
        clear hq1
        replace hn1 := Lib.hid hn1
        have hPn := Lib.hid (hP.out.have A.2 (by have := hA0.out; omega))
        clear hP
        dsimp only at hPn
        go_upto_region 38 with (fail)
        go_loopg [19] n1 (fun m' i wx => ∃ j : Nat, m' = n1 - j ∧ j ≤ n1 ∧ i = .int .i64 (j : Nat) ∧ Hid (BW w6 wx))
        case atStart => exact ⟨0, by omega, by omega, rfl, BW.refl _⟩
        case round =>
         obtain ⟨j, rfl, hj, rfl, C⟩ := hrel
         by_cases hjn : j < n1
         ·have d5 : decide ((j : Int) < (n1 : Int)) = true := by simp; omega
          have hjA : j < A.1.length := by rw [hn1.out]; exact hjn
          obtain ⟨ga, oa, rfl, hca⟩ := br_form QA.out (by omega)
          obtain ⟨u, y1, hO⟩ := hca j hjA
          obtain ⟨gb2, ob2, rfl, hcb⟩ := s1_form QB.out (by omega)
          have y2 := hcb j hjA
          obtain ⟨su, cu, rfl, hu1, hu2⟩ := hO.len
          have hcv := fun (y : LaterS [] wr) => conv_sb ((hO.bw C.out).bw y.bw).sb
          have hss := strOf_ne_self' (bstr A.1[j])
          generalize bstr A.1[j] = str at *
          replace y1 := C.out.cell y1
          replace y2 := C.out.cell y2
          have m1 : ∀ y : LaterS [] wr, _ := fun y => y.bw.cell y1
          have m2 : ∀ y : LaterS [] wr, _ := fun y => y.bw.cell y2
          clear hca hcb hO y1 y2 hu1 hu2
          go_upto_region 40 with (fail)
          refine wp_region_gg [] [] [] (by kernel_rfl) ?_
          refine hoist [] [] (a1 := ?_) 0 rfl (by kernel_rfl) (.inl ⟨rfl, rfl⟩) rfl rfl rfl (fun x K hK => ?_) ?_
          rotate_left
          ·go_big_quiet_op
           exact hK
          refine hoist [] [] (a1 := ?_) 1 rfl (by kernel_rfl) (.inl ⟨rfl, rfl⟩) rfl rfl rfl (fun x K hK => ?_) ?_
          rotate_left
          ·go_big_quiet_op
           exact hK
          refine hoist [] [] (a1 := ?_) 2 rfl (by kernel_rfl) (.inl ⟨rfl, rfl⟩) rfl rfl rfl (fun x K hK => ?_) ?_
          rotate_left
          ·go_big_quiet_op
           exact hK
          refine hoist [] [] (a1 := ?_) 3 rfl (by kernel_rfl) (.inl ⟨rfl, rfl⟩) rfl rfl rfl (fun x K hK => ?_) ?_
          rotate_left
          ·go_big_quiet_op
           exact hK
          refine hoist [] [] (a1 := ?_) 4 rfl (by kernel_rfl) (.inl ⟨rfl, rfl⟩) rfl rfl rfl (fun x K hK => ?_) ?_
          rotate_left
          ·go_big_quiet_op
           exact hK
          refine hoist [] [] (a1 := ?_) 5 rfl (by kernel_rfl) (.inl ⟨rfl, rfl⟩) rfl rfl rfl (fun x K hK => ?_) ?_
          rotate_left
          ·go_big_quiet_op
           exact hK
          refine hoist [] [] (a1 := ?_) 6 rfl (by kernel_rfl) (.inl ⟨rfl, rfl⟩) rfl rfl rfl (fun x K hK => ?_) ?_
          rotate_left
          ·go_big_quiet_op
           exact hK
          refine hoist [] [] (a1 := ?_) 7 rfl (by kernel_rfl) (.inl ⟨rfl, rfl⟩) rfl rfl rfl (fun x K hK => ?_) ?_
          rotate_left
          ·go_big_quiet_op
           exact hK
          refine hoist [] [] (a1 := ?_) 8 rfl (by kernel_rfl) (.inl ⟨rfl, rfl⟩) rfl rfl rfl (fun x K hK => ?_) ?_
          rotate_left
          ·go_big_quiet_op
           exact hK
          refine hoist [] [] (a1 := ?_) 9 rfl (by kernel_rfl) (.inl ⟨rfl, rfl⟩) rfl rfl rfl (fun x K hK => ?_) ?_
          rotate_left
          ·go_big_quiet_op
           exact hK
          refine done (by kernel_rfl) (fun xr => ?_)
          have C2 := Lib.hid (C.out.trans xr.bw)
          clear m1 m2 hcv
          generalize xr.now = w7 at *
          clear xr
          go_wp2_with fail
          go_roundg (n1 - (j + 1))
          case measure => omega
          case rel => exact ⟨j + 1, rfl, by omega, by first | rfl | (push_cast; rfl), C2⟩
         ·obtain rfl : j = n1 := by omega
          have d5 : decide ((j : Int) < (j : Int)) = false := by simp
          have hb := C.out
          replace E := Lib.hid (E.out.bw hb)
          replace R := Lib.hid (R.out.bw hb)
          replace B := Lib.hid (B.out.trans hb)
          try replace Xc := Lib.hid (Xc.out.bw hb)
          try replace Ya := Lib.hid (Ya.out.bw hb)
          try replace Yb := Lib.hid (Yb.out.bw hb)
          try replace PV := Lib.hid (PV.out.bw hb)
          try replace QA := Lib.hid (QA.out.bw hb)
          try replace QB := Lib.hid (QB.out.bw hb)
          try replace AV := Lib.hid (AV.out.bw hb)
          clear hb
          go_wp2_with fail
          go_meet
          exact ⟨⟨wanted, goes, W, fol, a, b, v, LW, vr, LP, vi, vb, M, A.2⟩, hPn, E, R, B⟩
       have dk4 : (ko % 6 == 4) = false := beq_eq_false_iff_ne.2 hk4'
       replace hk4' := Lib.hid hk4'
       by_cases hk5' : ko % 6 = 5
       ·have dk : (ko % 6 == 5) = true := beq_iff_eq.2 hk5'
        replace hk5' := Lib.hid hk5'
        have cT := Lib.hid (tick_x w.heap.size g gc gr gb (fkC c) (fpC c) src many wanted goes first_ W pk by_ vr LP again burst hav w4 E.out hag0 hP.out.hv)
        have hhav : 0 ≤ hav ∧ hav ≤ 18446744073709551615 := hP.out.hv
        have hgr := give_range burst hav again hbur.out hhav.1 hag0
        have hPn := Lib.hid (hP.out.have _ hgr)
        clear hP hgr
        go_wp2_with fail
        refine Calls.mono cT.out ?_
        rintro e w5 ⟨rfl, E5, T5⟩
        replace R := Lib.hid (R.out.stP T5 (.cons E.out.bk (by unfold PTy; decide) .nil))
        replace B := Lib.hid (BW.stP B.out T5 (fun k hk => by obtain rfl := (List.mem_singleton.1 hk); exact hgw.out.2.2.2))
        replace E := Lib.hid E5
        clear cT T5 E5 Xc
        dsimp only
        go_upto_region 44 with (fail)
        have z5 := (hp_cell R.out.hp 5).trans (show _ = some (.pointer (some ⟨qb, 0, none⟩)) from rfl)
        have y0 := (hp_cell (show HpB w5 qb (.cells _ _) from R.out.bk) 0).trans (show _ = some (.int .u64 again) from rfl)
        have m5 : ∀ y : LaterS [] w5, _ := fun y => y.bw.cell z5
        have m6 : ∀ y : LaterS [] w5, _ := fun y => y.bw.cell y0
        clear z5 y0
        generalize hgi : giveN burst hav again = hv2 at *
        refine wp_region_gg ([qb]) [11] [] (by kernel_rfl) ?_
        refine hoist [] [11] (a1 := ?_) 0 rfl (by kernel_rfl) (.inl ⟨rfl, rfl⟩) rfl rfl rfl (fun x K hK => ?_) ?_
        rotate_left
        ·go_big_quiet_op
         exact hK
        refine hoist [] [11] (a1 := ?_) 1 rfl (by kernel_rfl) (.inl ⟨rfl, rfl⟩) rfl rfl rfl (fun x K hK => ?_) ?_
        rotate_left
        ·go_big_quiet_op
         exact hK
        refine hoist [] [11] (a1 := ?_) 2 rfl (by kernel_rfl) (.inl ⟨rfl, rfl⟩) rfl rfl rfl (fun x K hK => ?_) ?_
        rotate_left
        ·go_big_quiet_op
         exact hK
        refine hoist [] [11] (a1 := ?_) 3 rfl (by kernel_rfl) (.inl ⟨rfl, rfl⟩) rfl rfl rfl (fun x K hK => ?_) ?_
        rotate_left
        ·go_big_quiet_op
         exact hK
        refine hoist [] [11] (a1 := ?_) 4 rfl (by kernel_rfl) (.inl ⟨rfl, rfl⟩) rfl rfl rfl (fun x K hK => ?_) ?_
        rotate_left
        ·go_big_quiet_op
         exact hK
        refine hoist [] [11] (a1 := ?_) 5 rfl (by kernel_rfl) (.inl ⟨rfl, rfl⟩) rfl rfl rfl (fun x K hK => ?_) ?_
        rotate_left
        ·go_big_quiet_op
         exact hK
        refine hoist [] [11] (a1 := ?_) 6 rfl (by kernel_rfl) (.inl ⟨rfl, rfl⟩) rfl rfl rfl (fun x K hK => ?_) ?_
        rotate_left
        ·go_big_quiet_op
         exact hK
        refine hoist [] [11] (a1 := ?_) 7 rfl (by kernel_rfl) (.inl ⟨rfl, rfl⟩) rfl rfl rfl (fun x K hK => ?_) ?_
        rotate_left
        ·go_big_quiet_op
         exact hK
        refine hoist [] [11] (a1 := ?_) 8 rfl (by kernel_rfl) (.inl ⟨rfl, rfl⟩) rfl rfl rfl (fun x K hK => ?_) ?_
        rotate_left
        ·go_big_quiet_op
         exact hK
        refine hoist [] [11] (a1 := ?_) 9 rfl (by kernel_rfl) (.inl ⟨rfl, rfl⟩) rfl rfl rfl (fun x K hK => ?_) ?_
        rotate_left
        ·go_big_quiet_op
         exact hK
        refine hoist [] [11] (a1 := ?_) 10 rfl (by kernel_rfl) (.inl ⟨rfl, rfl⟩) rfl rfl rfl (fun x K hK => ?_) ?_
        rotate_left
        ·go_big_quiet_op
         exact hK
        refine effect 11 rfl (by kernel_rfl) (by kernel_rfl) rfl (fun x11 K hK => ?_)
        have hb := x11.bw
        replace E := Lib.hid (E.out.bw hb)
        replace R := Lib.hid (R.out.bw hb)
        replace B := Lib.hid (B.out.trans hb)
        try replace Xc := Lib.hid (Xc.out.bw hb)
        try replace Ya := Lib.hid (Ya.out.bw hb)
        try replace Yb := Lib.hid (Yb.out.bw hb)
        try replace PV := Lib.hid (PV.out.bw hb)
        try replace QA := Lib.hid (QA.out.bw hb)
        try replace QB := Lib.hid (QB.out.bw hb)
        try replace AV := Lib.hid (AV.out.bw hb)
        clear hb
        go_simp
        refine Calls.mono (rgive_any qb again burst hav again x11.now R.out.bk hhav.1 hhav.2 hag0 hag1) ?_
        rintro e w6 ⟨rfl, K5, T5⟩
        refine hK _ _ T5 ?_
        clear hK K m5 m6
        rw [hgi] at K5
        replace E := Lib.hid (E.out.stR T5 (.cons R.out.bk (by unfold RTy; decide) .nil))
        replace B := Lib.hid (BW.stP B.out T5 (fun k hk => by obtain rfl := (List.mem_singleton.1 hk); exact hqw.out.2.2.2.2))
        replace R := Lib.hid (R.out.setB T5 K5)
        clear T5 K5
        try simp only [Act.put, List.setIfInBounds_toArray, List.set_cons_succ, List.set_cons_zero]
        refine done (by kernel_rfl) (fun xr => ?_)
        have hb := xr.bw
        replace E := Lib.hid (E.out.bw hb)
        replace R := Lib.hid (R.out.bw hb)
        replace B := Lib.hid (B.out.trans hb)
        try replace Xc := Lib.hid (Xc.out.bw hb)
        try replace Ya := Lib.hid (Ya.out.bw hb)
        try replace Yb := Lib.hid (Yb.out.bw hb)
        try replace PV := Lib.hid (PV.out.bw hb)
        try replace QA := Lib.hid (QA.out.bw hb)
        try replace QB := Lib.hid (QB.out.bw hb)
        try replace AV := Lib.hid (AV.out.bw hb)
        clear hb
        generalize xr.now = w6 at *
        clear xr
        go_wp2_with fail
        go_meet
        exact ⟨⟨wanted, goes, W, fol, a, b, v, LW, vr, LP, vi, vb, M, hv2⟩, hPn, E, R, B⟩
       have dk5 : (ko % 6 == 5) = false := beq_eq_false_iff_ne.2 hk5'
       replace hk5' := Lib.hid hk5'
       obtain ⟨key, hkey0⟩ : ∃ b, keyC c lp = b := ⟨_, rfl⟩
       obtain ⟨has, hhas0⟩ : ∃ b, hasC c lp = b := ⟨_, rfl⟩
       obtain ⟨pic, hpic0⟩ : ∃ b, picC c lp = b := ⟨_, rfl⟩
       have hOk := okQ_ok (first := first_) hP.out.ok hfr hk40
       have hgcg := hp_ne E.out.ch E.out.hp (by decide)
       have cP := push_any g gc gr gb (fkC c) (fpC c) src first_ many wanted goes ly key has pic (TVq w4.heap.size (lI lp) (vWide (lI lp))) W pl ix mk ty sq st so so_ no co xb pf se ne ce sp np cp pd (by omega) hOk w4 hgcg E.out.hp E.out.ch (fkC_enter c hc3) (fpC_enter c hc3) (fun y hy => by rw [← hkey0]; exact cK_any c hc3 sp np cp lp y (SP.out.bw (B.out.trans hy)) (by omega)) (fun y hy => by rw [← hpic0, ← hhas0]; exact cP_any c hc3 sp np cp lp y (SP.out.bw (BW.stP B.out hy (fun k hk => by obtain rfl := (List.mem_singleton.1 hk); exact hgw.out.2.1)))) (fun hh y q hy h1 h2 => cT_any c sp np cp lp (hhas0.trans hh) q h1 h2 (by omega) w4.heap.size y hy.size (SP.out.bw (BW.stP B.out hy (fun k hk => by rcases (by simpa using hk : k = gc ∨ k = g) with rfl | rfl; exact hgw.out.2.1; exact hgw.out.1)))) (fun q y y' v S h hs hS => OwnB.stN h hs hS)
       obtain ⟨⟨r, tuN, gl, WN⟩, hN⟩ : ∃ N, pushN many wanted goes ly key first_ W ix st pic = N := ⟨_, rfl⟩
       have hWN := Lib.hid (okQ_push hP.out.ok hfr (by omega) hN)
       have hpn0 : ∀ (y n1 n2 : Int), r = some (y, n1, n2) → 0 ≤ n2 := fun y n1 n2 hr => pic_ok hN hr
       rw [hN] at cP
       dsimp only at cP
       have hWl := hP.out.ok
       have hKA : KAn (k + 1) ≤ 1152921504606846976 := by unfold KAn; push_cast; omega
       have hKb1 : W.b0 + ix ≤ KAn (k + 1) := by have := hWl.2.1; unfold KAn; push_cast at this ⊢; omega
       have hKb2 : W.l0 + 1 + ix ≤ KAn (k + 1) := by have := hWl.2.2.1; unfold KAn; push_cast at this ⊢; omega
       have hKb3 : first_ + ix ≤ KAn (k + 1) := by unfold KAn; push_cast; omega
       have hLWn : LW.length ≤ 1000000 := by have := hP.out.lw; dsimp only at this; omega
       have hsr : ∀ (y : World), BW w y → ∀ z, R28 y w.heap.size q qc qw qr qb src (c : Nat) many wanted goes first_ fol a b v LW pk by_ vi vb M again burst z → Calls Try.prog 24 #[.pointer (some ⟨q, 0, none⟩), .int .i64 ly, .agg (arC pl ix mk ty sq st so (.slice so_ no co) xb pf (.slice se ne ce) (.slice sp np cp) pd)] y fun e w' => PushE (TVq y.heap.size (lI lp) (vWide (lI lp))) r tuN has mk ty src xb pf (.slice se ne ce) (.slice sp np cp) pd e w' ∧ HpB w' q (.cells #[.int .u32 src, .int .i64 (c : Nat), .pointer (some ⟨qc, 0, none⟩), .pointer (some ⟨qw, 0, none⟩), .pointer (some ⟨qr, 0, none⟩), .pointer (some ⟨qb, 0, none⟩)] 86) ∧ HpB w' qc (.cells (chC many wanted gl) 102) ∧ PuW w.heap.size qw first_ v LW.length (KAn (k + 1)) WN y w' ∧ Still (qc :: qw :: v.ownBlock.toList) y w' := fun y hy z hR => by
        have h0 := rpush28_any w.heap.size q qc qw qr qb c src many wanted goes ly first_ W fol a b v LW (KAn k) (KAn (k + 1)) pl ix mk ty sq st so so_ no co xb pf se ne ce sp np cp pd lp hP.out.wr hOk (KAn_up k) hKA hKb1 hKb2 hKb3 hLWn hc3 (by omega) (by omega) w y hy.size hy (fun k' hk' => by
         rcases List.mem_cons.1 hk' with rfl | hk'
         ·exact hqw.out.2.1
         rcases List.mem_cons.1 hk' with rfl | hk'
         ·exact hqw.out.2.2.1
         ·exact hR.wr.q.ge' k' (by simpa using hk')) SP.out hR.hp hR.ch hR.wr (r, tuN, gl, WN) (by rw [hkey0, hpic0]; exact hN)
        rw [hhas0] at h0
        exact h0
       replace cP := Lib.hid cP
       replace hN := Lib.hid hN
       replace hWN := Lib.hid hWN
       replace hkey0 := Lib.hid hkey0
       replace hhas0 := Lib.hid hhas0
       replace hpic0 := Lib.hid hpic0
       replace hOk := Lib.hid hOk
       replace hgcg := Lib.hid hgcg
       replace hpn0 := Lib.hid hpn0
       replace hsr := Lib.hid hsr
       clear hWl hKA hKb1 hKb2 hKb3 hLWn
       have q1 := (hp_cell Xc.out 1).trans (show _ = some (.int .i64 ly) from rfl)
       as_aux_lemma =>
       go_wp2_with (refine swLdC swAr rfl rfl rfl (Xc.out.range 2 (arC pl ix mk ty sq st so (.slice so_ no co) xb pf (.slice se ne ce) (.slice sp np cp) pd).toList rfl) rfl ?_)
       refine Calls.mono cP.out ?_
       rintro e w6 ⟨hE, H6, C6, T6⟩
       have hS : AllT PTy w4 [gc, g] := .cons E.out.ch (by unfold PTy; decide) (.cons E.out.hp (by unfold PTy; decide) .nil)
       replace Xc := Lib.hid (Xc.out.st T6 (hS.nin Xc.out (by unfold PTy; decide)))
       replace R := Lib.hid (R.out.stP T6 hS)
       replace B := Lib.hid (BW.stP B.out T6 (fun k hk => by rcases (by simpa using hk : k = gc ∨ k = g) with rfl | rfl; exact hgw.out.2.1; exact hgw.out.1))
       replace E := Lib.hid (E.out.setP T6 H6 C6)
       clear cP T6 q1 H6 C6 hS
       rcases hE with ⟨hr, rfl⟩ | ⟨y, n1, n2, vq, hr, rfl, hv0, hv1⟩
       ·replace hr := Lib.hid hr
        have BA : BW w6 (w6.alloc (.cells (snC 0 false 0 0 0 0 (.slice none 0 0) false 0 (.slice none 0 0) (.slice none 0 0) 0 false) 60)) := (BW.refl _).alloc
        have Yn := Lib.hid (HpB.new w6 (.cells (snC 0 false 0 0 0 0 (.slice none 0 0) false 0 (.slice none 0 0) (.slice none 0 0) 0 false) 60))
        have hb := BA
        replace E := Lib.hid (E.out.bw hb)
        replace R := Lib.hid (R.out.bw hb)
        replace B := Lib.hid (B.out.trans hb)
        try replace Xc := Lib.hid (Xc.out.bw hb)
        try replace Ya := Lib.hid (Ya.out.bw hb)
        try replace Yb := Lib.hid (Yb.out.bw hb)
        try replace PV := Lib.hid (PV.out.bw hb)
        try replace QA := Lib.hid (QA.out.bw hb)
        try replace QB := Lib.hid (QB.out.bw hb)
        try replace AV := Lib.hid (AV.out.bw hb)
        clear hb
        have Ya := Yn
        clear Yn
        replace BA := Lib.hid BA
        as_aux_lemma =>
        go_upto_region 19 with (refine swStN swSn rfl rfl rfl rfl rfl rfl (by kernel_rfl) ?_)
        generalize w6.alloc _ = w7 at *
        generalize w6.heap.size = ya at *
        have q1 := (hp_cell Xc.out 1).trans (show _ = some (.int .i64 ly) from rfl)
        have cR := Lib.hid (hsr.out w7 B.out hav R.out)
        go_wp2_with (refine swLdC swAr rfl rfl rfl (Xc.out.range 2 (arC pl ix mk ty sq st so (.slice so_ no co) xb pf (.slice se ne ce) (.slice sp np cp) pd).toList rfl) rfl ?_)
        refine Calls.mono cR.out ?_
        rintro e w8 ⟨hE2, H2, C2, ⟨fol2, a2, b2, v2, LW2, W2, hR2, hl2, -⟩, hT⟩
        have R2 := R.out.setP hT H2 C2 W2
        have hS : AllT RTy w7 (qc :: qw :: v.ownBlock.toList) := .cons R.out.ch (by unfold RTy; decide) (.cons R.out.wr.hp (by unfold RTy; decide) (AllT.own R.out.wr.q (by unfold RTy; decide)))
        have hSw : ∀ k ∈ qc :: qw :: v.ownBlock.toList, w.heap.size ≤ k := fun k' hk' => by
         rcases List.mem_cons.1 hk' with rfl | hk'
         ·exact hqw.out.2.1
         rcases List.mem_cons.1 hk' with rfl | hk'
         ·exact hqw.out.2.2.1
         ·exact R.out.wr.q.ge' k' (by simpa using hk')
        replace Xc := Lib.hid (Xc.out.st hT (hS.nin Xc.out (by unfold RTy; decide)))
        replace Ya := Lib.hid (Ya.out.st hT (hS.nin Ya.out (by unfold RTy; decide)))
        try replace PV := Lib.hid (PayAt.stN PV.out hT (fun k hk => ⟨hSw k hk, by obtain ⟨cs, t, f, e, ht⟩ := hS k hk; exact ⟨_, _, _, e, by rintro rfl; revert ht; unfold RTy; decide⟩⟩))
        replace E := Lib.hid (E.out.stR hT hS)
        replace B := Lib.hid (BW.stP B.out hT hSw)
        replace R := Lib.hid R2
        have hPn := Lib.hid (hP.out.push (goes := gl) (v := v2) hR2 hWN.out hl2)
        have hP2 := Lib.hid (And.intro hP.out.n hP.out.z)
        dsimp only at hPn hP2
        clear cR q1 hT hS hSw R2 hR2 hl2 hP H2 C2 W2
        rcases hE2 with ⟨-, rfl⟩ | ⟨y, n1, n2, vq, hr2, -⟩
        ·have BA : BW w8 (w8.alloc (.cells (snC 0 false 0 0 0 0 (.slice none 0 0) false 0 (.slice none 0 0) (.slice none 0 0) 0 false) 60)) := (BW.refl _).alloc
         have Yn := Lib.hid (HpB.new w8 (.cells (snC 0 false 0 0 0 0 (.slice none 0 0) false 0 (.slice none 0 0) (.slice none 0 0) 0 false) 60))
         have hb := BA
         replace E := Lib.hid (E.out.bw hb)
         replace R := Lib.hid (R.out.bw hb)
         replace B := Lib.hid (B.out.trans hb)
         try replace Xc := Lib.hid (Xc.out.bw hb)
         try replace Ya := Lib.hid (Ya.out.bw hb)
         try replace Yb := Lib.hid (Yb.out.bw hb)
         try replace PV := Lib.hid (PV.out.bw hb)
         try replace QA := Lib.hid (QA.out.bw hb)
         try replace QB := Lib.hid (QB.out.bw hb)
         try replace AV := Lib.hid (AV.out.bw hb)
         clear hb
         have Yb := Yn
         clear Yn
         replace BA := Lib.hid BA
         dsimp only
         go_upto_region 20 with (refine swStN swSn rfl rfl rfl rfl rfl rfl (by kernel_rfl) ?_)
         generalize w8.alloc _ = w9 at *
         generalize w8.heap.size = yb at *
         have cS := Lib.hid (same28 0 false false 0 0 0 0 false 0 none 0 0 none 0 none 0 0 0 [] [] w9 (SlB_nil _) (SlB_nil _) (SlB_nil _))
         go_wp2_with (first | (refine swLdG swSn (by rfl) rfl rfl Ya.out rfl ?_) | (refine swLdG swSn (by rfl) rfl rfl Yb.out rfl ?_))
         refine Calls.mono cS.out ?_
         rintro e wa ⟨rfl, hb⟩
         clear Xc Ya Yb cS
         replace E := Lib.hid (E.out.bw hb)
         replace R := Lib.hid (R.out.bw hb)
         replace B := Lib.hid (B.out.trans hb)
         try replace Xc := Lib.hid (Xc.out.bw hb)
         try replace Ya := Lib.hid (Ya.out.bw hb)
         try replace Yb := Lib.hid (Yb.out.bw hb)
         try replace PV := Lib.hid (PV.out.bw hb)
         try replace QA := Lib.hid (QA.out.bw hb)
         try replace QB := Lib.hid (QB.out.bw hb)
         try replace AV := Lib.hid (AV.out.bw hb)
         clear hb
         dsimp only
         go_wp2_with fail
         go_meet
         exact ⟨⟨wanted, gl, WN, fol2, a2, b2, v2, LW2, vr, LP, vi, vb, M, hav⟩, hPn, E, R, B⟩
        ·exfalso
         rw [hr.out] at hr2
         cases hr2
       ·obtain ⟨sv, nv, cv, L', PV, rfl, hL⟩ := pay_form hby.out SP.out B.out hhas0.out (hpn0.out _ _ _ hr) hv0 hv1
        replace PV := Lib.hid PV
        replace hL := Lib.hid hL
        clear hv0 hv1
        obtain ⟨sy, hsy⟩ : ∃ sy, IntKind.u16.wrap y = sy := ⟨_, rfl⟩
        rw [hsy]
        replace hr := Lib.hid hr
        replace hsy := Lib.hid hsy
        have BA : BW w6 (w6.alloc (.cells (snC y mk ty sy n1 src (.slice none 0 0) xb pf (.slice se ne ce) (.slice sv nv cv) pd tuN) 60)) := (BW.refl _).alloc
        have Yn := Lib.hid (HpB.new w6 (.cells (snC y mk ty sy n1 src (.slice none 0 0) xb pf (.slice se ne ce) (.slice sv nv cv) pd tuN) 60))
        have hb := BA
        replace E := Lib.hid (E.out.bw hb)
        replace R := Lib.hid (R.out.bw hb)
        replace B := Lib.hid (B.out.trans hb)
        try replace Xc := Lib.hid (Xc.out.bw hb)
        try replace Ya := Lib.hid (Ya.out.bw hb)
        try replace Yb := Lib.hid (Yb.out.bw hb)
        try replace PV := Lib.hid (PV.out.bw hb)
        try replace QA := Lib.hid (QA.out.bw hb)
        try replace QB := Lib.hid (QB.out.bw hb)
        try replace AV := Lib.hid (AV.out.bw hb)
        clear hb
        have Ya := Yn
        clear Yn
        replace BA := Lib.hid BA
        as_aux_lemma =>
        go_upto_region 19 with (refine swStN swSn rfl rfl rfl rfl rfl rfl (by kernel_rfl) ?_)
        generalize w6.alloc _ = w7 at *
        generalize w6.heap.size = ya at *
        have q1 := (hp_cell Xc.out 1).trans (show _ = some (.int .i64 ly) from rfl)
        have cR := Lib.hid (hsr.out w7 B.out hav R.out)
        go_wp2_with (refine swLdC swAr rfl rfl rfl (Xc.out.range 2 (arC pl ix mk ty sq st so (.slice so_ no co) xb pf (.slice se ne ce) (.slice sp np cp) pd).toList rfl) rfl ?_)
        refine Calls.mono cR.out ?_
        rintro e w8 ⟨hE2, H2, C2, ⟨fol2, a2, b2, v2, LW2, W2, hR2, hl2, -⟩, hT⟩
        have R2 := R.out.setP hT H2 C2 W2
        have hS : AllT RTy w7 (qc :: qw :: v.ownBlock.toList) := .cons R.out.ch (by unfold RTy; decide) (.cons R.out.wr.hp (by unfold RTy; decide) (AllT.own R.out.wr.q (by unfold RTy; decide)))
        have hSw : ∀ k ∈ qc :: qw :: v.ownBlock.toList, w.heap.size ≤ k := fun k' hk' => by
         rcases List.mem_cons.1 hk' with rfl | hk'
         ·exact hqw.out.2.1
         rcases List.mem_cons.1 hk' with rfl | hk'
         ·exact hqw.out.2.2.1
         ·exact R.out.wr.q.ge' k' (by simpa using hk')
        replace Xc := Lib.hid (Xc.out.st hT (hS.nin Xc.out (by unfold RTy; decide)))
        replace Ya := Lib.hid (Ya.out.st hT (hS.nin Ya.out (by unfold RTy; decide)))
        try replace PV := Lib.hid (PayAt.stN PV.out hT (fun k hk => ⟨hSw k hk, by obtain ⟨cs, t, f, e, ht⟩ := hS k hk; exact ⟨_, _, _, e, by rintro rfl; revert ht; unfold RTy; decide⟩⟩))
        replace E := Lib.hid (E.out.stR hT hS)
        replace B := Lib.hid (BW.stP B.out hT hSw)
        replace R := Lib.hid R2
        have hPn := Lib.hid (hP.out.push (goes := gl) (v := v2) hR2 hWN.out hl2)
        have hP2 := Lib.hid (And.intro hP.out.n hP.out.z)
        dsimp only at hPn hP2
        clear cR q1 hT hS hSw R2 hR2 hl2 hP H2 C2 W2
        rcases hE2 with ⟨hr2, -⟩ | ⟨y', n1', n2', vq2, hr2, rfl, hv0, hv1⟩
        ·exfalso
         rw [hr.out] at hr2
         cases hr2
        obtain ⟨rfl, rfl, rfl⟩ : y = y' ∧ n1 = n1' ∧ n2 = n2' := by
         rw [hr.out] at hr2
         simpa using hr2
        obtain ⟨sv2, nv2, cv2, L2', PV2, rfl, hL2⟩ := pay_form hby.out SP.out B.out hhas0.out (hpn0.out _ _ _ hr.out) hv0 hv1
        have hLL' := pay_same hL.out hL2
        subst hLL'
        have hnv : nv2 = nv := by rw [SlB.len_eq PV2.1, SlB.len_eq PV.out.1]
        subst hnv
        rw [hsy.out]
        clear hv0 hv1 hr2 hL2
        have BA : BW w8 (w8.alloc (.cells (snC y mk ty sy n1 src (.slice none 0 0) xb pf (.slice se ne ce) (.slice sv2 nv2 cv2) pd tuN) 60)) := (BW.refl _).alloc
        have Yn := Lib.hid (HpB.new w8 (.cells (snC y mk ty sy n1 src (.slice none 0 0) xb pf (.slice se ne ce) (.slice sv2 nv2 cv2) pd tuN) 60))
        have cS := Lib.hid (same28 y tuN mk ty sy n1 src xb pf se ne ce sv cv sv2 cv2 nv2 pd (lI le) L' (w8.alloc (.cells (snC y mk ty sy n1 src (.slice none 0 0) xb pf (.slice se ne ce) (.slice sv2 nv2 cv2) pd tuN) 60)) (SlB_of_SB (SE.out.bw (B.out.trans BA))) (PV.out.1.below BA) (PV2.1.below BA))
        clear PV2
        have hb := BA
        replace E := Lib.hid (E.out.bw hb)
        replace R := Lib.hid (R.out.bw hb)
        replace B := Lib.hid (B.out.trans hb)
        try replace Xc := Lib.hid (Xc.out.bw hb)
        try replace Ya := Lib.hid (Ya.out.bw hb)
        try replace Yb := Lib.hid (Yb.out.bw hb)
        try replace PV := Lib.hid (PV.out.bw hb)
        try replace QA := Lib.hid (QA.out.bw hb)
        try replace QB := Lib.hid (QB.out.bw hb)
        try replace AV := Lib.hid (AV.out.bw hb)
        clear hb
        have Yb := Yn
        clear Yn
        replace BA := Lib.hid BA
        dsimp only
        go_upto_region 20 with (refine swStN swSn rfl rfl rfl rfl rfl rfl (by kernel_rfl) ?_)
        generalize w8.alloc _ = w9 at *
        generalize w8.heap.size = yb at *
        go_wp2_with (first | (refine swLdG swSn (by rfl) rfl rfl Ya.out rfl ?_) | (refine swLdG swSn (by rfl) rfl rfl Yb.out rfl ?_))
        refine Calls.mono cS.out ?_
        rintro e wa ⟨rfl, hb⟩
        clear Yb cS
        replace E := Lib.hid (E.out.bw hb)
        replace R := Lib.hid (R.out.bw hb)
        replace B := Lib.hid (B.out.trans hb)
        try replace Xc := Lib.hid (Xc.out.bw hb)
        try replace Ya := Lib.hid (Ya.out.bw hb)
        try replace Yb := Lib.hid (Yb.out.bw hb)
        try replace PV := Lib.hid (PV.out.bw hb)
        try replace QA := Lib.hid (QA.out.bw hb)
        try replace QB := Lib.hid (QB.out.bw hb)
        try replace AV := Lib.hid (AV.out.bw hb)
        clear hb
        dsimp only
        clear PV hL
        as_aux_lemma =>
        have q15 := (hp_cell Xc.out 15).trans (show _ = some (.int .u8 (szn : Nat)) from rfl)
        have mk8 := make_u8 szn (by omega)
        have BC := Lib.hid (show BW wa (wa.alloc (.cells (ivA .u8 (zeros szn)) 5)) from (BW.refl _).alloc)
        have AV := Lib.hid (AvB.new wa 5 (zeros szn))
        have hzl := Lib.hid (zeros_len szn)
        have hzb : Hid (ByL (zeros szn)) := Lib.hid (fun x hx => by simp [zeros] at hx; omega)
        go_upto_region 25 with (fail)
        generalize wa.alloc _ = wb at *
        obtain ⟨gbu, hgbu⟩ : ∃ x, wa.heap.size = x := ⟨_, rfl⟩
        rw [hgbu] at AV ⊢
        replace hgbu := Lib.hid hgbu
        clear Xc q15 mk8
        go_loopg [25] szn (fun m' i wx => ∃ (j : Nat) (lc : List Nat), m' = szn - j ∧ j ≤ szn ∧ i = .int .i64 (j : Nat) ∧ Hid (lc.length = szn) ∧ Hid (ByL lc) ∧ Hid (AvB wx gbu 5 lc) ∧ Hid (BW wa wx))
        case atStart => exact ⟨0, zeros szn, by omega, by omega, rfl, hzl, hzb, AV, BC⟩
        case round =>
         clear AV hzl hzb BC
         obtain ⟨j, lc, rfl, hj, rfl, hlc', hbl, AV, C⟩ := hrel
         by_cases hjn : j < szn
         ·have d5 : decide ((j : Int) < (szn : Int)) = true := by simp; omega
          have ya0 := (hp_cell (Ya.out.bw C.out) 0).trans (show _ = some (.int .i64 y) from rfl)
          have cj := AV.out.cell j (by rw [hlc'.out]; exact hjn)
          have fj := AV.out.frz j
          obtain ⟨yk, hyk⟩ : ∃ yk, IntKind.u8.wrap y = yk := ⟨_, rfl⟩
          have hyr : 0 ≤ yk ∧ yk ≤ 255 := by rw [← hyk, IntKind.wrap_u8]; omega
          replace hyr := Lib.hid hyr
          go_upto_region 26 with (fail)
          obtain ⟨xx, hxx⟩ : ∃ xx : Nat, (yk + (j : Int)) % 256 = (xx : Int) := ⟨((yk + (j : Int)) % 256).toNat, by omega⟩
          rw [hxx]
          have hxl : xx < 256 := by omega
          have AV2 := Lib.hid (AV.out.set j xx)
          have C2 := Lib.hid (BW.stP C.out (still_sc wr gbu j (.int .u8 (xx : Nat))) (fun k' hk' => by obtain rfl := (List.mem_singleton.1 hk'); exact Nat.le_of_eq hgbu.out))
          have hl2 : Hid ((lc.set j xx).length = szn) := Lib.hid (by rw [List.length_set]; exact hlc'.out)
          have hb2 : Hid (ByL (lc.set j xx)) := Lib.hid (fun z hz => by
           rcases List.mem_or_eq_of_mem_set hz with h | h
           ·exact hbl.out z h
           ·rw [h]; exact hxl)
          clear ya0 cj fj hyk hyr AV C hlc' hbl hxx hxl
          generalize wr.setCell _ _ = wc2 at *
          go_wp2_with fail
          go_roundg (szn - (j + 1))
          case measure => omega
          case rel => exact ⟨j + 1, lc.set j xx, rfl, by omega, by first | rfl | (push_cast; rfl), hl2, hb2, AV2, C2⟩
         ·obtain rfl : j = szn := by omega
          have d5 : decide ((j : Int) < (j : Int)) = false := by simp
          have hb := C.out
          replace E := Lib.hid (E.out.bw hb)
          replace R := Lib.hid (R.out.bw hb)
          replace B := Lib.hid (B.out.trans hb)
          replace Ya := Lib.hid (Ya.out.bw hb)
          clear hb C hgbu
          obtain ⟨cd, hcd⟩ : ∃ cd, (putN pk by_ LP y lc).1 = cd := ⟨_, rfl⟩
          have hm2 := hm
          have hpk1 : 1 ≤ pk := by omega
          have hby0 : 0 ≤ by_ := by omega
          have hcd2 := (put_same hPn.out.sp pk by_ y lc hpk1).1
          dsimp only at hcd2
          rw [hcd] at hcd2
          have hlcn : lc.length ≤ 255 := by rw [hlc'.out]; omega
          have hLn1 : LP.length ≤ 1000 := by have := hP2.out.1; omega
          have hLz1 : lensL LP ≤ 1000000 := by have := hP2.out.2; omega
          have hMn1 : M.length ≤ 1000 := by have := hPn.out.sp.len; dsimp only at this; omega
          have hMz1 : lensL M ≤ 1000000 := by have := lensL_perm hPn.out.sp.perm; dsimp only at this; omega
          have hsrt := Lib.hid hPn.out.sp.srtN
          have hPn2 := fun vr vi vb => Lib.hid (hPn.out.keep hP2.out hpk1 hby0 y lc hlcn vr vi vb)
          dsimp only at hPn2 hsrt
          replace hcd := Lib.hid hcd
          replace hcd2 := Lib.hid hcd2.symm
          replace hm2 := Lib.hid hm2
          replace hlcn := Lib.hid hlcn
          clear hPn hP2
          as_aux_lemma =>
          go_upto_region 28 with (fail)
          have ya0 := (hp_cell Ya.out 0).trans (show _ = some (.int .i64 y) from rfl)
          have z4 := (hp_cell R.out.hp 4).trans (show _ = some (.pointer (some ⟨qr, 0, none⟩)) from rfl)
          obtain ⟨Sw, hSw⟩ : ∃ Sw, Sw = gr :: (vr.ownBlock.toList ++ qr :: (vi.ownBlock.toList ++ vb.ownBlock.toList)) := ⟨_, rfl⟩
          have hS : AllT KTy wr Sw := by
           rw [hSw]
           exact .cons E.out.rg.cells (by unfold KTy; decide) (.app (AllT.own E.out.rg.q (by unfold KTy; decide)) (.cons R.out.rg.cells (by unfold KTy; decide) (.app (AllT.own R.out.rg.qi (by unfold KTy; decide)) (AllT.own R.out.rg.qb (by unfold KTy; decide)))))
          have hqS : q ∉ Sw := hS.nin R.out.hp (by unfold KTy; decide)
          have hyS : ya ∉ Sw := hS.nin Ya.out (by unfold KTy; decide)
          have hs1 : ∀ k' ∈ gr :: vr.ownBlock.toList, k' ∈ Sw := fun k' hk' => by
           rw [hSw]
           rcases List.mem_cons.1 hk' with rfl | hk'
           ·exact List.mem_cons_self
           ·exact List.mem_cons_of_mem _ (List.mem_append_left _ hk')
          have hs2 : ∀ k' ∈ qr :: (vi.ownBlock.toList ++ vb.ownBlock.toList), k' ∈ Sw := fun k' hk' => by
           rw [hSw]
           exact List.mem_cons_of_mem _ (List.mem_append_right _ hk')
          have my : ∀ x : LaterS [] wr, _ := fun x => x.bw.cell ya0
          have mys : ∀ x : LaterS Sw wr, _ := fun x => x.cell ya0 hyS
          have mzs : ∀ x : LaterS Sw wr, _ := fun x => x.cell z4 hqS
          replace hS := Lib.hid hS
          replace hqS := Lib.hid hqS
          replace hyS := Lib.hid hyS
          replace hs1 := Lib.hid hs1
          replace hs2 := Lib.hid hs2
          replace hSw := Lib.hid hSw
          clear ya0 z4
          refine wp_region_gg (Sw) [4, 12] [] (by kernel_rfl) ?_
          refine hoist [] [4, 12] (a1 := ?_) 0 rfl (by kernel_rfl) (.inl ⟨rfl, rfl⟩) rfl rfl rfl (fun x K hK => ?_) ?_
          rotate_left
          ·go_big_quiet_op
           exact hK
          refine hoist [] [4, 12] (a1 := ?_) 1 rfl (by kernel_rfl) (.inl ⟨rfl, rfl⟩) rfl rfl rfl (fun x K hK => ?_) ?_
          rotate_left
          ·go_big_quiet_op
           exact hK
          refine hoist [] [4, 12] (a1 := ?_) 2 rfl (by kernel_rfl) (.inl ⟨rfl, rfl⟩) rfl rfl rfl (fun x K hK => ?_) ?_
          rotate_left
          ·go_big_quiet_op
           exact hK
          refine hoist [] [4, 12] (a1 := ?_) 3 rfl (by kernel_rfl) (.inl ⟨rfl, rfl⟩) rfl rfl rfl (fun x K hK => ?_) ?_
          rotate_left
          ·go_big_quiet_op
           exact hK
          refine hoist (Sw) [] (a1 := ?_) 5 rfl (by kernel_rfl) (.inr rfl) rfl rfl rfl (fun x K hK => ?_) ?_
          rotate_left
          ·go_big_quiet_op
           exact hK
          refine hoist (Sw) [] (a1 := ?_) 6 rfl (by kernel_rfl) (.inr rfl) rfl rfl rfl (fun x K hK => ?_) ?_
          rotate_left
          ·go_big_quiet_op
           exact hK
          refine hoist (Sw) [] (a1 := ?_) 7 rfl (by kernel_rfl) (.inr rfl) rfl rfl rfl (fun x K hK => ?_) ?_
          rotate_left
          ·go_big_quiet_op
           exact hK
          refine hoist (Sw) [] (a1 := ?_) 8 rfl (by kernel_rfl) (.inr rfl) rfl rfl rfl (fun x K hK => ?_) ?_
          rotate_left
          ·go_big_quiet_op
           exact hK
          refine hoist (Sw) [] (a1 := ?_) 9 rfl (by kernel_rfl) (.inr rfl) rfl rfl rfl (fun x K hK => ?_) ?_
          rotate_left
          ·go_big_quiet_op
           exact hK
          refine hoist (Sw) [] (a1 := ?_) 10 rfl (by kernel_rfl) (.inr rfl) rfl rfl rfl (fun x K hK => ?_) ?_
          rotate_left
          ·go_big_quiet_op
           exact hK
          refine hoist (Sw) [] (a1 := ?_) 11 rfl (by kernel_rfl) (.inr rfl) rfl rfl rfl (fun x K hK => ?_) ?_
          rotate_left
          ·go_big_quiet_op
           exact hK
          refine effect 4 rfl (by kernel_rfl) (by kernel_rfl) rfl (fun x4 K hK => ?_)
          have hb := x4.bw
          have AV4 := Lib.hid (AV.out.bw hb)
          replace E := Lib.hid (E.out.bw hb)
          replace R := Lib.hid (R.out.bw hb)
          replace B := Lib.hid (B.out.trans hb)
          clear hb
          go_simp
          have cK := keep_x w.heap.size g gc gr gb (fkC c) (fpC c) src many wanted gl first_ WN pk by_ vr LP again burst hav y (.slice (some ⟨gbu, 0, none⟩) j j) lc x4.now E.out B.out.size hsrt.out (by omega) (by omega) (by rw [hlc'.out]; exact AV4.out.sb hbl.out j hlc'.out (by unfold maxLen; omega)) (by have := hlcn.out; omega) hpk1 hpm hby0 hym
          rw [hcd.out] at cK
          refine Calls.mono cK ?_
          rintro e w5 ⟨rfl, ⟨vr2, E5⟩, T5⟩
          refine hK _ _ (T5.weaken hs1.out) ?_
          clear hK K my mys mzs cK Ya
          have hSp : AllT PTy x4.now (gr :: vr.ownBlock.toList) := .cons E.out.rg.cells (by unfold PTy; decide) (AllT.own E.out.rg.q (by unfold PTy; decide))
          replace R := Lib.hid (R.out.stP T5 hSp)
          replace B := Lib.hid (BW.stP B.out T5 (fun k' hk' => by
           rcases List.mem_cons.1 hk' with rfl | hk'
           ·exact hgw.out.2.2.1
           ·exact E.out.rg.q.ge' k' (by simpa using hk')))
          replace AV4 := Lib.hid (AV4.out.still T5 (hSp.nin AV4.out (by unfold PTy; decide)))
          replace E := Lib.hid E5
          clear T5 E5 hSp
          try simp only [Act.put, List.setIfInBounds_toArray, List.set_cons_succ, List.set_cons_zero]
          refine effect 12 rfl (by kernel_rfl) (by kernel_rfl) rfl (fun x12 K hK => ?_)
          have hb := x12.bw
          replace AV4 := Lib.hid (AV4.out.bw hb)
          replace E := Lib.hid (E.out.bw hb)
          replace R := Lib.hid (R.out.bw hb)
          replace B := Lib.hid (B.out.trans hb)
          clear hb
          go_simp
          have cK := rfput_any w.heap.size qr pk by_ vi vb M y (.slice (some ⟨gbu, 0, none⟩) j j) lc x12.now R.out.rg (by omega) (by omega) B.out.size (by rw [hlc'.out]; exact AV4.out.sb hbl.out j hlc'.out (by unfold maxLen; omega)) (by have := hlcn.out; omega) hpk1 hby0 (fun _ k' hk' => by
           have e : gbu = k' := by simpa [Value.ownBlock] using hk'
           subst e
           exact .inr ⟨_, _, AV4.out⟩) hqw.out.2.2.2.1
          unfold RfPost at cK
          rw [hcd2.out] at cK
          refine Calls.mono cK ?_
          rintro e w5 ⟨rfl, ⟨vi2, vb2, G5, -, -⟩, T5⟩
          refine hK _ _ (T5.weaken hs2.out) ?_
          clear hK K cK AV4
          have hSr : AllT RTy x12.now (qr :: (vi.ownBlock.toList ++ vb.ownBlock.toList)) := .cons R.out.rg.cells (by unfold RTy; decide) (.app (AllT.own R.out.rg.qi (by unfold RTy; decide)) (AllT.own R.out.rg.qb (by unfold RTy; decide)))
          replace E := Lib.hid (E.out.stR T5 hSr)
          replace B := Lib.hid (BW.stP B.out T5 (fun k' hk' => by
           rcases List.mem_cons.1 hk' with rfl | hk'
           ·exact hqw.out.2.2.2.1
           rcases List.mem_append.1 hk' with hk' | hk'
           ·exact R.out.rg.qi.ge' k' (by simpa using hk')
           ·exact R.out.rg.qb.ge' k' (by simpa using hk')))
          replace R := Lib.hid (R.out.setR T5 G5)
          clear T5 G5 hSr
          try simp only [Act.put, List.setIfInBounds_toArray, List.set_cons_succ, List.set_cons_zero]
          refine hoist [] [4, 12] (a1 := ?_) 13 rfl (by kernel_rfl) (.inl ⟨rfl, rfl⟩) rfl rfl rfl (fun x K hK => ?_) ?_
          rotate_left
          ·go_big_quiet_op
           exact hK
          refine done (by kernel_rfl) (fun xr => ?_)
          have hb := xr.bw
          replace E := Lib.hid (E.out.bw hb)
          replace R := Lib.hid (R.out.bw hb)
          replace B := Lib.hid (B.out.trans hb)
          clear hb
          generalize xr.now = wz at *
          clear xr
          go_wp2_with fail
          go_meet
          exact ⟨⟨wanted, gl, WN, fol2, a2, b2, v2, LW2, vr2, (putN pk by_ LP y lc).2, vi2, vb2, (rputN pk by_ M y lc).2, hav⟩, hPn2 vr2 vi2 vb2, E, R, B⟩
      clear E R B Xc hP
      obtain ⟨⟨wanted2, goes2, W2, fol2, a2, b2, v2, LW2, vr2, LP2, vi2, vb2, M2, hav2⟩, hP, E, R, B⟩ := hcut
      dsimp only at hP E R
      generalize hwcn : wc = w5 at *
      clear hwcn
      as_aux_lemma =>
      have hlen := hP.out.sp.len
      have hlns := lensL_perm hP.out.sp.perm
      have hlz := hP.out.z
      dsimp only at hlen hlns hlz
      have hlz2 : lensL M2 ≤ 1000000000 := by omega
      obtain ⟨si, ci, rfl, hci1, hci2⟩ := R.out.rg.qi.len
      unfold maxLen at hci2
      have cZ := fun (y : World) z => rsz_any w.heap.size qr pk by_ z vb2 M2 y
      have cK := kept_x _ _ _ _ _ _ _ _ _ _ _ _ _ _ _ _ _ _ _ _ w5 E.out
      rw [hlen, hlns] at cK
      obtain ⟨nM, hnM⟩ : ∃ n, M2.length = n := ⟨_, rfl⟩
      obtain ⟨zM, hzM⟩ : ∃ n, lensL M2 = n := ⟨_, rfl⟩
      rw [hnM] at cK hci1
      rw [hzM] at cK
      have cZ2 : ∀ (y : World), RefV y w.heap.size qr pk by_ (.slice si M2.length ci) vb2 M2 → Calls Try.prog 28 #[.pointer (some ⟨qr, 0, none⟩)] y fun e w' => e = .returned (.int .i64 (zM : Nat)) ∧ y = w' := fun y hy => by rw [← hzM]; exact cZ y _ hy hlz2
      replace cK := Lib.hid cK
      replace cZ2 := Lib.hid cZ2
      replace hnM := Lib.hid hnM
      replace hzM := Lib.hid hzM
      clear cZ hlen hlns hlz hlz2
      go_wp2_with fail
      refine Calls.mono cK.out ?_
      rintro e w6 ⟨rfl, hb⟩
      replace E := Lib.hid (E.out.bw hb)
      replace R := Lib.hid (R.out.bw hb)
      replace B := Lib.hid (B.out.trans hb)
      clear hb
      clear cK
      dsimp only
      go_upto_region 46 with (fail)
      have z4 := (hp_cell R.out.hp 4).trans (show _ = some (.pointer (some ⟨qr, 0, none⟩)) from rfl)
      have z5 := (hp_cell R.out.hp 5).trans (show _ = some (.pointer (some ⟨qb, 0, none⟩)) from rfl)
      have z2 := (hp_cell R.out.hp 2).trans (show _ = some (.pointer (some ⟨qc, 0, none⟩)) from rfl)
      have zc := (hp_cell E.out.hp 0).trans (show _ = some (.pointer (some ⟨gc, 0, none⟩)) from rfl)
      have rv := (hp_cell R.out.rg.cells 2).trans (show _ = some (.slice si nM ci) by rw [hnM.out]; rfl)
      have rb := (hp_cell (show HpB w6 qb (.cells _ _) from R.out.bk) 2).trans (show _ = some (.int .u64 hav2) from rfl)
      have k1 := (hp_cell R.out.ch 1).trans (show _ = some (.int .i64 wanted2) from rfl)
      have k2 := (hp_cell R.out.ch 2).trans (show _ = some (.int .i64 goes2) from rfl)
      have m4 : ∀ x : LaterS [] w6, _ := fun x => x.bw.cell z4
      have m5 : ∀ x : LaterS [] w6, _ := fun x => x.bw.cell z5
      have m2 : ∀ x : LaterS [] w6, _ := fun x => x.bw.cell z2
      have mc : ∀ x : LaterS [] w6, _ := fun x => x.bw.cell zc
      have mv : ∀ x : LaterS [] w6, _ := fun x => x.bw.cell rv
      have mb : ∀ x : LaterS [] w6, _ := fun x => x.bw.cell rb
      have mk1 : ∀ x : LaterS [] w6, _ := fun x => x.bw.cell k1
      have mk2 : ∀ x : LaterS [] w6, _ := fun x => x.bw.cell k2
      clear z4 z5 z2 zc rv rb k1 k2
      try simp only [Act.put, List.setIfInBounds_toArray, List.set_cons_succ, List.set_cons_zero]
      refine wp_region_gg [] [] [] (by kernel_rfl) ?_
      refine hoist [] [] (a1 := ?_) 0 rfl (by kernel_rfl) (.inl ⟨rfl, rfl⟩) rfl rfl rfl (fun x K hK => ?_) ?_
      rotate_left
      ·go_big_quiet_op
       exact hK
      refine hoist [] [] (a1 := ?_) 1 rfl (by kernel_rfl) (.inl ⟨rfl, rfl⟩) rfl rfl rfl (fun x K hK => ?_) ?_
      rotate_left
      ·go_big_quiet_op
       exact hK
      refine hoist [] [] (a1 := ?_) 2 rfl (by kernel_rfl) (.inl ⟨rfl, rfl⟩) rfl rfl rfl (fun x K hK => ?_) ?_
      rotate_left
      ·go_big_quiet_op
       exact hK
      refine hoist [] [] (a1 := ?_) 3 rfl (by kernel_rfl) (.inl ⟨rfl, rfl⟩) rfl rfl rfl (fun x K hK => ?_) ?_
      rotate_left
      ·go_big_quiet_op
       exact hK
      refine hoist [] [] (a1 := ?_) 4 rfl (by kernel_rfl) (.inl ⟨rfl, rfl⟩) rfl rfl rfl (fun x K hK => ?_) ?_
      rotate_left
      ·go_big_quiet_op
       exact hK
      refine hoist [] [] (a1 := ?_) 5 rfl (by kernel_rfl) (.inl ⟨rfl, rfl⟩) rfl rfl rfl (fun x K hK => ?_) ?_
      rotate_left
      ·go_big_quiet_op
       exact hK
      refine hoist [] [] (a1 := ?_) 6 rfl (by kernel_rfl) (.inl ⟨rfl, rfl⟩) rfl rfl rfl (fun x K hK => ?_) ?_
      rotate_left
      ·go_big_quiet_op
       exact hK
      refine hoist [] [] (a1 := ?_) 7 rfl (by kernel_rfl) (.inl ⟨rfl, rfl⟩) rfl rfl rfl (fun x K hK => ?_) ?_
      rotate_left
      ·go_big_quiet_op
       exact hK
      refine hoist [] [] (a1 := ?_) 8 rfl (by kernel_rfl) (.inl ⟨rfl, rfl⟩) rfl rfl rfl (fun x K hK => ?_) ?_
      rotate_left
      ·go_big_quiet_op
       exact hK
      refine hoist [] [] (a1 := ?_) 9 rfl (by kernel_rfl) (.inl ⟨rfl, rfl⟩) rfl rfl rfl (fun x K hK => ?_) ?_
      rotate_left
      ·go_big_quiet_op
       exact hK
      refine hoist [] [] (a1 := ?_) 10 rfl (by kernel_rfl) (.inl ⟨rfl, rfl⟩) rfl rfl rfl (fun x K hK => ?_) ?_
      rotate_left
      ·go_big_quiet_op
       exact hK
      refine hoist [] [] (a1 := ?_) 11 rfl (by kernel_rfl) (.inl ⟨rfl, rfl⟩) rfl rfl rfl (fun x K hK => ?_) ?_
      rotate_left
      ·go_big_quiet_op
       exact hK
      refine hoist [] [] (a1 := ?_) 12 rfl (by kernel_rfl) (.inl ⟨rfl, rfl⟩) rfl rfl rfl (fun x K hK => ?_) ?_
      rotate_left
      ·go_big_quiet_op
       exact hK
      refine hoist [] [] (a1 := ?_) 13 rfl (by kernel_rfl) (.inl ⟨rfl, rfl⟩) rfl rfl rfl (fun x K hK => ?_) ?_
      rotate_left
      ·go_big_quiet_op
       exact hK
      refine hoist [] [] (a1 := ?_) 14 rfl (by kernel_rfl) (.inl ⟨rfl, rfl⟩) rfl rfl rfl (fun x K hK => ?_) ?_
      rotate_left
      ·go_big_quiet_op
       exact hK
      refine hoist [] [] (a1 := ?_) 15 rfl (by kernel_rfl) (.inl ⟨rfl, rfl⟩) rfl rfl rfl (fun x K hK => ?_) ?_
      rotate_left
      ·go_big_quiet_op
       exact hK
      refine effect 16 rfl (by kernel_rfl) (by kernel_rfl) rfl (fun x16 K hK => ?_)
      have hb := x16.bw
      replace E := Lib.hid (E.out.bw hb)
      replace R := Lib.hid (R.out.bw hb)
      replace B := Lib.hid (B.out.trans hb)
      clear hb
      go_simp
      refine Calls.mono (cZ2.out x16.now R.out.rg) ?_
      rintro e wq ⟨rfl, hq⟩
      have hb : BW x16.now wq := by first | exact hq | (rw [← hq]; exact BW.refl _) | (rw [hq]; exact BW.refl _)
      refine hK _ _ (hb.still _) ?_
      clear hK K m4 m5 m2 mc mv mb mk1 mk2 hq
      replace E := Lib.hid (E.out.bw hb)
      replace R := Lib.hid (R.out.bw hb)
      replace B := Lib.hid (B.out.trans hb)
      clear hb
      have z4 := (hp_cell R.out.hp 4).trans (show _ = some (.pointer (some ⟨qr, 0, none⟩)) from rfl)
      have z5 := (hp_cell R.out.hp 5).trans (show _ = some (.pointer (some ⟨qb, 0, none⟩)) from rfl)
      have z2 := (hp_cell R.out.hp 2).trans (show _ = some (.pointer (some ⟨qc, 0, none⟩)) from rfl)
      have zc := (hp_cell E.out.hp 0).trans (show _ = some (.pointer (some ⟨gc, 0, none⟩)) from rfl)
      have rv := (hp_cell R.out.rg.cells 2).trans (show _ = some (.slice si nM ci) by rw [hnM.out]; rfl)
      have rb := (hp_cell (show HpB wq qb (.cells _ _) from R.out.bk) 2).trans (show _ = some (.int .u64 hav2) from rfl)
      have k1 := (hp_cell R.out.ch 1).trans (show _ = some (.int .i64 wanted2) from rfl)
      have k2 := (hp_cell R.out.ch 2).trans (show _ = some (.int .i64 goes2) from rfl)
      have m4 : ∀ x : LaterS [] wq, _ := fun x => x.bw.cell z4
      have m5 : ∀ x : LaterS [] wq, _ := fun x => x.bw.cell z5
      have m2 : ∀ x : LaterS [] wq, _ := fun x => x.bw.cell z2
      have mc : ∀ x : LaterS [] wq, _ := fun x => x.bw.cell zc
      have mv : ∀ x : LaterS [] wq, _ := fun x => x.bw.cell rv
      have mb : ∀ x : LaterS [] wq, _ := fun x => x.bw.cell rb
      have mk1 : ∀ x : LaterS [] wq, _ := fun x => x.bw.cell k1
      have mk2 : ∀ x : LaterS [] wq, _ := fun x => x.bw.cell k2
      clear z4 z5 z2 zc rv rb k1 k2
      try simp only [Act.put, List.setIfInBounds_toArray, List.set_cons_succ, List.set_cons_zero]
      as_aux_lemma =>
      refine hoist [] [] (a1 := ?_) 17 rfl (by kernel_rfl) (.inl ⟨rfl, rfl⟩) rfl rfl rfl (fun x K hK => ?_) ?_
      rotate_left
      ·go_big_quiet_op
       exact hK
      refine hoist [] [] (a1 := ?_) 18 rfl (by kernel_rfl) (.inl ⟨rfl, rfl⟩) rfl rfl rfl (fun x K hK => ?_) ?_
      rotate_left
      ·go_big_quiet_op
       exact hK
      refine hoist [] [] (a1 := ?_) 19 rfl (by kernel_rfl) (.inl ⟨rfl, rfl⟩) rfl rfl rfl (fun x K hK => ?_) ?_
      rotate_left
      ·go_big_quiet_op
       exact hK
      refine hoist [] [] (a1 := ?_) 20 rfl (by kernel_rfl) (.inl ⟨rfl, rfl⟩) rfl rfl rfl (fun x K hK => ?_) ?_
      rotate_left
      ·go_big_quiet_op
       exact hK
      refine hoist [] [] (a1 := ?_) 22 rfl (by kernel_rfl) (.inl ⟨rfl, rfl⟩) rfl rfl rfl (fun x K hK => ?_) ?_
      rotate_left
      ·go_big_quiet_op
       exact hK
      refine hoist [] [] (a1 := ?_) 23 rfl (by kernel_rfl) (.inl ⟨rfl, rfl⟩) rfl rfl rfl (fun x K hK => ?_) ?_
      rotate_left
      ·go_big_quiet_op
       exact hK
      refine hoist [] [] (a1 := ?_) 24 rfl (by kernel_rfl) (.inl ⟨rfl, rfl⟩) rfl rfl rfl (fun x K hK => ?_) ?_
      rotate_left
      ·go_big_quiet_op
       exact hK
      refine hoist [] [] (a1 := ?_) 25 rfl (by kernel_rfl) (.inl ⟨rfl, rfl⟩) rfl rfl rfl (fun x K hK => ?_) ?_
      rotate_left
      ·go_big_quiet_op
       exact hK
      refine hoist [] [] (a1 := ?_) 26 rfl (by kernel_rfl) (.inl ⟨rfl, rfl⟩) rfl rfl rfl (fun x K hK => ?_) ?_
      rotate_left
      ·go_big_quiet_op
       exact hK
      refine hoist [] [] (a1 := ?_) 27 rfl (by kernel_rfl) (.inl ⟨rfl, rfl⟩) rfl rfl rfl (fun x K hK => ?_) ?_
      rotate_left
      ·go_big_quiet_op
       exact hK
      refine hoist [] [] (a1 := ?_) 28 rfl (by kernel_rfl) (.inl ⟨rfl, rfl⟩) rfl rfl rfl (fun x K hK => ?_) ?_
      rotate_left
      ·go_big_quiet_op
       exact hK
      refine effect 21 rfl (by kernel_rfl) (by kernel_rfl) rfl (fun x21 K hK => ?_)
      have hb := x21.bw
      replace E := Lib.hid (E.out.bw hb)
      replace R := Lib.hid (R.out.bw hb)
      replace B := Lib.hid (B.out.trans hb)
      clear hb
      go_simp
      refine Calls.mono (again_x _ _ _ _ _ _ _ _ _ _ _ _ _ _ _ _ _ _ _ _ x21.now E.out) ?_
      rintro e wq ⟨rfl, hq⟩
      have hb : BW x21.now wq := by first | exact hq | (rw [← hq]; exact BW.refl _) | (rw [hq]; exact BW.refl _)
      refine hK _ _ (hb.still _) ?_
      clear hK K m4 m5 m2 mc mv mb mk1 mk2 hq
      replace E := Lib.hid (E.out.bw hb)
      replace R := Lib.hid (R.out.bw hb)
      replace B := Lib.hid (B.out.trans hb)
      clear hb
      have z4 := (hp_cell R.out.hp 4).trans (show _ = some (.pointer (some ⟨qr, 0, none⟩)) from rfl)
      have z5 := (hp_cell R.out.hp 5).trans (show _ = some (.pointer (some ⟨qb, 0, none⟩)) from rfl)
      have z2 := (hp_cell R.out.hp 2).trans (show _ = some (.pointer (some ⟨qc, 0, none⟩)) from rfl)
      have zc := (hp_cell E.out.hp 0).trans (show _ = some (.pointer (some ⟨gc, 0, none⟩)) from rfl)
      have rv := (hp_cell R.out.rg.cells 2).trans (show _ = some (.slice si nM ci) by rw [hnM.out]; rfl)
      have rb := (hp_cell (show HpB wq qb (.cells _ _) from R.out.bk) 2).trans (show _ = some (.int .u64 hav2) from rfl)
      have k1 := (hp_cell R.out.ch 1).trans (show _ = some (.int .i64 wanted2) from rfl)
      have k2 := (hp_cell R.out.ch 2).trans (show _ = some (.int .i64 goes2) from rfl)
      have m4 : ∀ x : LaterS [] wq, _ := fun x => x.bw.cell z4
      have m5 : ∀ x : LaterS [] wq, _ := fun x => x.bw.cell z5
      have m2 : ∀ x : LaterS [] wq, _ := fun x => x.bw.cell z2
      have mc : ∀ x : LaterS [] wq, _ := fun x => x.bw.cell zc
      have mv : ∀ x : LaterS [] wq, _ := fun x => x.bw.cell rv
      have mb : ∀ x : LaterS [] wq, _ := fun x => x.bw.cell rb
      have mk1 : ∀ x : LaterS [] wq, _ := fun x => x.bw.cell k1
      have mk2 : ∀ x : LaterS [] wq, _ := fun x => x.bw.cell k2
      clear z4 z5 z2 zc rv rb k1 k2
      try simp only [Act.put, List.setIfInBounds_toArray, List.set_cons_succ, List.set_cons_zero]
      as_aux_lemma =>
      refine hoist [] [] (a1 := ?_) 29 rfl (by kernel_rfl) (.inl ⟨rfl, rfl⟩) rfl rfl rfl (fun x K hK => ?_) ?_
      rotate_left
      ·go_big_quiet_op
       exact hK
      refine hoist [] [] (a1 := ?_) 30 rfl (by kernel_rfl) (.inl ⟨rfl, rfl⟩) rfl rfl rfl (fun x K hK => ?_) ?_
      rotate_left
      ·go_big_quiet_op
       exact hK
      refine hoist [] [] (a1 := ?_) 31 rfl (by kernel_rfl) (.inl ⟨rfl, rfl⟩) rfl rfl rfl (fun x K hK => ?_) ?_
      rotate_left
      ·go_big_quiet_op
       exact hK
      refine hoist [] [] (a1 := ?_) 32 rfl (by kernel_rfl) (.inl ⟨rfl, rfl⟩) rfl rfl rfl (fun x K hK => ?_) ?_
      rotate_left
      ·go_big_quiet_op
       exact hK
      refine hoist [] [] (a1 := ?_) 33 rfl (by kernel_rfl) (.inl ⟨rfl, rfl⟩) rfl rfl rfl (fun x K hK => ?_) ?_
      rotate_left
      ·go_big_quiet_op
       exact hK
      refine hoist [] [] (a1 := ?_) 34 rfl (by kernel_rfl) (.inl ⟨rfl, rfl⟩) rfl rfl rfl (fun x K hK => ?_) ?_
      rotate_left
      ·go_big_quiet_op
       exact hK
      refine hoist [] [] (a1 := ?_) 35 rfl (by kernel_rfl) (.inl ⟨rfl, rfl⟩) rfl rfl rfl (fun x K hK => ?_) ?_
      rotate_left
      ·go_big_quiet_op
       exact hK
      refine hoist [] [] (a1 := ?_) 37 rfl (by kernel_rfl) (.inl ⟨rfl, rfl⟩) rfl rfl rfl (fun x K hK => ?_) ?_
      rotate_left
      ·go_big_quiet_op
       exact hK
      refine hoist [] [] (a1 := ?_) 38 rfl (by kernel_rfl) (.inl ⟨rfl, rfl⟩) rfl rfl rfl (fun x K hK => ?_) ?_
      rotate_left
      ·go_big_quiet_op
       exact hK
      refine hoist [] [] (a1 := ?_) 39 rfl (by kernel_rfl) (.inl ⟨rfl, rfl⟩) rfl rfl rfl (fun x K hK => ?_) ?_
      rotate_left
      ·go_big_quiet_op
       exact hK
      refine hoist [] [] (a1 := ?_) 40 rfl (by kernel_rfl) (.inl ⟨rfl, rfl⟩) rfl rfl rfl (fun x K hK => ?_) ?_
      rotate_left
      ·go_big_quiet_op
       exact hK
      refine hoist [] [] (a1 := ?_) 41 rfl (by kernel_rfl) (.inl ⟨rfl, rfl⟩) rfl rfl rfl (fun x K hK => ?_) ?_
      rotate_left
      ·go_big_quiet_op
       exact hK
      refine hoist [] [] (a1 := ?_) 42 rfl (by kernel_rfl) (.inl ⟨rfl, rfl⟩) rfl rfl rfl (fun x K hK => ?_) ?_
      rotate_left
      ·go_big_quiet_op
       exact hK
      refine hoist [] [] (a1 := ?_) 43 rfl (by kernel_rfl) (.inl ⟨rfl, rfl⟩) rfl rfl rfl (fun x K hK => ?_) ?_
      rotate_left
      ·go_big_quiet_op
       exact hK
      refine effect 36 rfl (by kernel_rfl) (by kernel_rfl) rfl (fun x36 K hK => ?_)
      have hb := x36.bw
      replace E := Lib.hid (E.out.bw hb)
      replace R := Lib.hid (R.out.bw hb)
      replace B := Lib.hid (B.out.trans hb)
      clear hb
      go_simp
      refine Calls.mono (wanted_x gc many wanted2 goes2 x36.now E.out.ch) ?_
      rintro e wq ⟨rfl, hq⟩
      have hb : BW x36.now wq := by first | exact hq | (rw [← hq]; exact BW.refl _) | (rw [hq]; exact BW.refl _)
      refine hK _ _ (hb.still _) ?_
      clear hK K m4 m5 m2 mc mv mb mk1 mk2 hq
      replace E := Lib.hid (E.out.bw hb)
      replace R := Lib.hid (R.out.bw hb)
      replace B := Lib.hid (B.out.trans hb)
      clear hb
      have z4 := (hp_cell R.out.hp 4).trans (show _ = some (.pointer (some ⟨qr, 0, none⟩)) from rfl)
      have z5 := (hp_cell R.out.hp 5).trans (show _ = some (.pointer (some ⟨qb, 0, none⟩)) from rfl)
      have z2 := (hp_cell R.out.hp 2).trans (show _ = some (.pointer (some ⟨qc, 0, none⟩)) from rfl)
      have zc := (hp_cell E.out.hp 0).trans (show _ = some (.pointer (some ⟨gc, 0, none⟩)) from rfl)
      have rv := (hp_cell R.out.rg.cells 2).trans (show _ = some (.slice si nM ci) by rw [hnM.out]; rfl)
      have rb := (hp_cell (show HpB wq qb (.cells _ _) from R.out.bk) 2).trans (show _ = some (.int .u64 hav2) from rfl)
      have k1 := (hp_cell R.out.ch 1).trans (show _ = some (.int .i64 wanted2) from rfl)
      have k2 := (hp_cell R.out.ch 2).trans (show _ = some (.int .i64 goes2) from rfl)
      have m4 : ∀ x : LaterS [] wq, _ := fun x => x.bw.cell z4
      have m5 : ∀ x : LaterS [] wq, _ := fun x => x.bw.cell z5
      have m2 : ∀ x : LaterS [] wq, _ := fun x => x.bw.cell z2
      have mc : ∀ x : LaterS [] wq, _ := fun x => x.bw.cell zc
      have mv : ∀ x : LaterS [] wq, _ := fun x => x.bw.cell rv
      have mb : ∀ x : LaterS [] wq, _ := fun x => x.bw.cell rb
      have mk1 : ∀ x : LaterS [] wq, _ := fun x => x.bw.cell k1
      have mk2 : ∀ x : LaterS [] wq, _ := fun x => x.bw.cell k2
      clear z4 z5 z2 zc rv rb k1 k2
      try simp only [Act.put, List.setIfInBounds_toArray, List.set_cons_succ, List.set_cons_zero]
      as_aux_lemma =>
      refine hoist [] [] (a1 := ?_) 44 rfl (by kernel_rfl) (.inl ⟨rfl, rfl⟩) rfl rfl rfl (fun x K hK => ?_) ?_
      rotate_left
      ·go_big_quiet_op
       exact hK
      refine hoist [] [] (a1 := ?_) 45 rfl (by kernel_rfl) (.inl ⟨rfl, rfl⟩) rfl rfl rfl (fun x K hK => ?_) ?_
      rotate_left
      ·go_big_quiet_op
       exact hK
      refine hoist [] [] (a1 := ?_) 46 rfl (by kernel_rfl) (.inl ⟨rfl, rfl⟩) rfl rfl rfl (fun x K hK => ?_) ?_
      rotate_left
      ·go_big_quiet_op
       exact hK
      refine hoist [] [] (a1 := ?_) 47 rfl (by kernel_rfl) (.inl ⟨rfl, rfl⟩) rfl rfl rfl (fun x K hK => ?_) ?_
      rotate_left
      ·go_big_quiet_op
       exact hK
      refine hoist [] [] (a1 := ?_) 48 rfl (by kernel_rfl) (.inl ⟨rfl, rfl⟩) rfl rfl rfl (fun x K hK => ?_) ?_
      rotate_left
      ·go_big_quiet_op
       exact hK
      refine hoist [] [] (a1 := ?_) 49 rfl (by kernel_rfl) (.inl ⟨rfl, rfl⟩) rfl rfl rfl (fun x K hK => ?_) ?_
      rotate_left
      ·go_big_quiet_op
       exact hK
      refine hoist [] [] (a1 := ?_) 50 rfl (by kernel_rfl) (.inl ⟨rfl, rfl⟩) rfl rfl rfl (fun x K hK => ?_) ?_
      rotate_left
      ·go_big_quiet_op
       exact hK
      refine hoist [] [] (a1 := ?_) 52 rfl (by kernel_rfl) (.inl ⟨rfl, rfl⟩) rfl rfl rfl (fun x K hK => ?_) ?_
      rotate_left
      ·go_big_quiet_op
       exact hK
      refine hoist [] [] (a1 := ?_) 53 rfl (by kernel_rfl) (.inl ⟨rfl, rfl⟩) rfl rfl rfl (fun x K hK => ?_) ?_
      rotate_left
      ·go_big_quiet_op
       exact hK
      refine hoist [] [] (a1 := ?_) 54 rfl (by kernel_rfl) (.inl ⟨rfl, rfl⟩) rfl rfl rfl (fun x K hK => ?_) ?_
      rotate_left
      ·go_big_quiet_op
       exact hK
      refine hoist [] [] (a1 := ?_) 55 rfl (by kernel_rfl) (.inl ⟨rfl, rfl⟩) rfl rfl rfl (fun x K hK => ?_) ?_
      rotate_left
      ·go_big_quiet_op
       exact hK
      refine hoist [] [] (a1 := ?_) 56 rfl (by kernel_rfl) (.inl ⟨rfl, rfl⟩) rfl rfl rfl (fun x K hK => ?_) ?_
      rotate_left
      ·go_big_quiet_op
       exact hK
      refine hoist [] [] (a1 := ?_) 57 rfl (by kernel_rfl) (.inl ⟨rfl, rfl⟩) rfl rfl rfl (fun x K hK => ?_) ?_
      rotate_left
      ·go_big_quiet_op
       exact hK
      refine hoist [] [] (a1 := ?_) 58 rfl (by kernel_rfl) (.inl ⟨rfl, rfl⟩) rfl rfl rfl (fun x K hK => ?_) ?_
      rotate_left
      ·go_big_quiet_op
       exact hK
      refine effect 51 rfl (by kernel_rfl) (by kernel_rfl) rfl (fun x51 K hK => ?_)
      have hb := x51.bw
      replace E := Lib.hid (E.out.bw hb)
      replace R := Lib.hid (R.out.bw hb)
      replace B := Lib.hid (B.out.trans hb)
      clear hb
      go_simp
      refine Calls.mono (goes_w gc many wanted2 goes2 x51.now E.out.ch) ?_
      rintro e wq ⟨rfl, hq⟩
      have hb : BW x51.now wq := by first | exact hq | (rw [← hq]; exact BW.refl _) | (rw [hq]; exact BW.refl _)
      refine hK _ _ (hb.still _) ?_
      clear hK K m4 m5 m2 mc mv mb mk1 mk2 hq
      replace E := Lib.hid (E.out.bw hb)
      replace R := Lib.hid (R.out.bw hb)
      replace B := Lib.hid (B.out.trans hb)
      clear hb
      have z4 := (hp_cell R.out.hp 4).trans (show _ = some (.pointer (some ⟨qr, 0, none⟩)) from rfl)
      have z5 := (hp_cell R.out.hp 5).trans (show _ = some (.pointer (some ⟨qb, 0, none⟩)) from rfl)
      have z2 := (hp_cell R.out.hp 2).trans (show _ = some (.pointer (some ⟨qc, 0, none⟩)) from rfl)
      have zc := (hp_cell E.out.hp 0).trans (show _ = some (.pointer (some ⟨gc, 0, none⟩)) from rfl)
      have rv := (hp_cell R.out.rg.cells 2).trans (show _ = some (.slice si nM ci) by rw [hnM.out]; rfl)
      have rb := (hp_cell (show HpB wq qb (.cells _ _) from R.out.bk) 2).trans (show _ = some (.int .u64 hav2) from rfl)
      have k1 := (hp_cell R.out.ch 1).trans (show _ = some (.int .i64 wanted2) from rfl)
      have k2 := (hp_cell R.out.ch 2).trans (show _ = some (.int .i64 goes2) from rfl)
      have m4 : ∀ x : LaterS [] wq, _ := fun x => x.bw.cell z4
      have m5 : ∀ x : LaterS [] wq, _ := fun x => x.bw.cell z5
      have m2 : ∀ x : LaterS [] wq, _ := fun x => x.bw.cell z2
      have mc : ∀ x : LaterS [] wq, _ := fun x => x.bw.cell zc
      have mv : ∀ x : LaterS [] wq, _ := fun x => x.bw.cell rv
      have mb : ∀ x : LaterS [] wq, _ := fun x => x.bw.cell rb
      have mk1 : ∀ x : LaterS [] wq, _ := fun x => x.bw.cell k1
      have mk2 : ∀ x : LaterS [] wq, _ := fun x => x.bw.cell k2
      clear z4 z5 z2 zc rv rb k1 k2
      try simp only [Act.put, List.setIfInBounds_toArray, List.set_cons_succ, List.set_cons_zero]
      as_aux_lemma =>
      refine hoist [] [] (a1 := ?_) 59 rfl (by kernel_rfl) (.inl ⟨rfl, rfl⟩) rfl rfl rfl (fun x K hK => ?_) ?_
      rotate_left
      ·go_big_quiet_op
       exact hK
      refine hoist [] [] (a1 := ?_) 60 rfl (by kernel_rfl) (.inl ⟨rfl, rfl⟩) rfl rfl rfl (fun x K hK => ?_) ?_
      rotate_left
      ·go_big_quiet_op
       exact hK
      refine hoist [] [] (a1 := ?_) 61 rfl (by kernel_rfl) (.inl ⟨rfl, rfl⟩) rfl rfl rfl (fun x K hK => ?_) ?_
      rotate_left
      ·go_big_quiet_op
       exact hK
      refine hoist [] [] (a1 := ?_) 62 rfl (by kernel_rfl) (.inl ⟨rfl, rfl⟩) rfl rfl rfl (fun x K hK => ?_) ?_
      rotate_left
      ·go_big_quiet_op
       exact hK
      refine hoist [] [] (a1 := ?_) 63 rfl (by kernel_rfl) (.inl ⟨rfl, rfl⟩) rfl rfl rfl (fun x K hK => ?_) ?_
      rotate_left
      ·go_big_quiet_op
       exact hK
      refine hoist [] [] (a1 := ?_) 64 rfl (by kernel_rfl) (.inl ⟨rfl, rfl⟩) rfl rfl rfl (fun x K hK => ?_) ?_
      rotate_left
      ·go_big_quiet_op
       exact hK
      refine hoist [] [] (a1 := ?_) 65 rfl (by kernel_rfl) (.inl ⟨rfl, rfl⟩) rfl rfl rfl (fun x K hK => ?_) ?_
      rotate_left
      ·go_big_quiet_op
       exact hK
      refine hoist [] [] (a1 := ?_) 67 rfl (by kernel_rfl) (.inl ⟨rfl, rfl⟩) rfl rfl rfl (fun x K hK => ?_) ?_
      rotate_left
      ·go_big_quiet_op
       exact hK
      refine hoist [] [] (a1 := ?_) 68 rfl (by kernel_rfl) (.inl ⟨rfl, rfl⟩) rfl rfl rfl (fun x K hK => ?_) ?_
      rotate_left
      ·go_big_quiet_op
       exact hK
      refine hoist [] [] (a1 := ?_) 69 rfl (by kernel_rfl) (.inl ⟨rfl, rfl⟩) rfl rfl rfl (fun x K hK => ?_) ?_
      rotate_left
      ·go_big_quiet_op
       exact hK
      refine hoist [] [] (a1 := ?_) 70 rfl (by kernel_rfl) (.inl ⟨rfl, rfl⟩) rfl rfl rfl (fun x K hK => ?_) ?_
      rotate_left
      ·go_big_quiet_op
       exact hK
      refine hoist [] [] (a1 := ?_) 71 rfl (by kernel_rfl) (.inl ⟨rfl, rfl⟩) rfl rfl rfl (fun x K hK => ?_) ?_
      rotate_left
      ·go_big_quiet_op
       exact hK
      refine hoist [] [] (a1 := ?_) 72 rfl (by kernel_rfl) (.inl ⟨rfl, rfl⟩) rfl rfl rfl (fun x K hK => ?_) ?_
      rotate_left
      ·go_big_quiet_op
       exact hK
      refine hoist [] [] (a1 := ?_) 73 rfl (by kernel_rfl) (.inl ⟨rfl, rfl⟩) rfl rfl rfl (fun x K hK => ?_) ?_
      rotate_left
      ·go_big_quiet_op
       exact hK
      refine hoist [] [] (a1 := ?_) 74 rfl (by kernel_rfl) (.inl ⟨rfl, rfl⟩) rfl rfl rfl (fun x K hK => ?_) ?_
      rotate_left
      ·go_big_quiet_op
       exact hK
      refine hoist [] [] (a1 := ?_) 75 rfl (by kernel_rfl) (.inl ⟨rfl, rfl⟩) rfl rfl rfl (fun x K hK => ?_) ?_
      rotate_left
      ·go_big_quiet_op
       exact hK
      refine hoist [] [] (a1 := ?_) 76 rfl (by kernel_rfl) (.inl ⟨rfl, rfl⟩) rfl rfl rfl (fun x K hK => ?_) ?_
      rotate_left
      ·go_big_quiet_op
       exact hK
      refine hoist [] [] (a1 := ?_) 77 rfl (by kernel_rfl) (.inl ⟨rfl, rfl⟩) rfl rfl rfl (fun x K hK => ?_) ?_
      rotate_left
      ·go_big_quiet_op
       exact hK
      refine hoist [] [] (a1 := ?_) 78 rfl (by kernel_rfl) (.inl ⟨rfl, rfl⟩) rfl rfl rfl (fun x K hK => ?_) ?_
      rotate_left
      ·go_big_quiet_op
       exact hK
      refine hoist [] [] (a1 := ?_) 79 rfl (by kernel_rfl) (.inl ⟨rfl, rfl⟩) rfl rfl rfl (fun x K hK => ?_) ?_
      rotate_left
      ·go_big_quiet_op
       exact hK
      refine hoist [] [] (a1 := ?_) 80 rfl (by kernel_rfl) (.inl ⟨rfl, rfl⟩) rfl rfl rfl (fun x K hK => ?_) ?_
      rotate_left
      ·go_big_quiet_op
       exact hK
      refine hoist [] [] (a1 := ?_) 81 rfl (by kernel_rfl) (.inl ⟨rfl, rfl⟩) rfl rfl rfl (fun x K hK => ?_) ?_
      rotate_left
      ·go_big_quiet_op
       exact hK
      refine effect 66 rfl (by kernel_rfl) (by kernel_rfl) rfl (fun x66 K hK => ?_)
      have hb := x66.bw
      replace E := Lib.hid (E.out.bw hb)
      replace R := Lib.hid (R.out.bw hb)
      replace B := Lib.hid (B.out.trans hb)
      clear hb
      go_simp
      refine Calls.mono (needs_x gc many wanted2 goes2 x66.now E.out.ch) ?_
      rintro e wq ⟨rfl, hq⟩
      have hb : BW x66.now wq := by first | exact hq | (rw [← hq]; exact BW.refl _) | (rw [hq]; exact BW.refl _)
      refine hK _ _ (hb.still _) ?_
      clear hK K m4 m5 m2 mc mv mb mk1 mk2 hq
      replace E := Lib.hid (E.out.bw hb)
      replace R := Lib.hid (R.out.bw hb)
      replace B := Lib.hid (B.out.trans hb)
      clear hb
      have z4 := (hp_cell R.out.hp 4).trans (show _ = some (.pointer (some ⟨qr, 0, none⟩)) from rfl)
      have z5 := (hp_cell R.out.hp 5).trans (show _ = some (.pointer (some ⟨qb, 0, none⟩)) from rfl)
      have z2 := (hp_cell R.out.hp 2).trans (show _ = some (.pointer (some ⟨qc, 0, none⟩)) from rfl)
      have zc := (hp_cell E.out.hp 0).trans (show _ = some (.pointer (some ⟨gc, 0, none⟩)) from rfl)
      have rv := (hp_cell R.out.rg.cells 2).trans (show _ = some (.slice si nM ci) by rw [hnM.out]; rfl)
      have rb := (hp_cell (show HpB wq qb (.cells _ _) from R.out.bk) 2).trans (show _ = some (.int .u64 hav2) from rfl)
      have k1 := (hp_cell R.out.ch 1).trans (show _ = some (.int .i64 wanted2) from rfl)
      have k2 := (hp_cell R.out.ch 2).trans (show _ = some (.int .i64 goes2) from rfl)
      have m4 : ∀ x : LaterS [] wq, _ := fun x => x.bw.cell z4
      have m5 : ∀ x : LaterS [] wq, _ := fun x => x.bw.cell z5
      have m2 : ∀ x : LaterS [] wq, _ := fun x => x.bw.cell z2
      have mc : ∀ x : LaterS [] wq, _ := fun x => x.bw.cell zc
      have mv : ∀ x : LaterS [] wq, _ := fun x => x.bw.cell rv
      have mb : ∀ x : LaterS [] wq, _ := fun x => x.bw.cell rb
      have mk1 : ∀ x : LaterS [] wq, _ := fun x => x.bw.cell k1
      have mk2 : ∀ x : LaterS [] wq, _ := fun x => x.bw.cell k2
      clear z4 z5 z2 zc rv rb k1 k2
      try simp only [Act.put, List.setIfInBounds_toArray, List.set_cons_succ, List.set_cons_zero]
      as_aux_lemma =>
      refine hoist [] [] (a1 := ?_) 82 rfl (by kernel_rfl) (.inl ⟨rfl, rfl⟩) rfl rfl rfl (fun x K hK => ?_) ?_
      rotate_left
      ·go_big_quiet_op
       exact hK
      refine hoist [] [] (a1 := ?_) 83 rfl (by kernel_rfl) (.inl ⟨rfl, rfl⟩) rfl rfl rfl (fun x K hK => ?_) ?_
      rotate_left
      ·go_big_quiet_op
       exact hK
      refine done (by kernel_rfl) (fun xr => ?_)
      have hb := xr.bw
      replace E := Lib.hid (E.out.bw hb)
      replace R := Lib.hid (R.out.bw hb)
      replace B := Lib.hid (B.out.trans hb)
      clear hb
      clear m4 m5 m2 mc mv mb mk1 mk2
      generalize xr.now = w7 at *
      clear xr
      go_wp2_with fail
      go_roundg (ln - (k + 1))
      case measure => omega
      case rel => exact ⟨k + 1, ⟨wanted2, goes2, W2, fol2, a2, b2, v2, LW2, vr2, LP2, .slice si M2.length ci, vb2, M2, hav2⟩, rfl, by omega, by omega, by first | rfl | (push_cast; rfl), hP, E, R, B⟩
    ·obtain rfl : k = 40 := by omega
     have d3 : decide (((40 : Nat) : Int) < 40) = false := by decide
     go_wp2_with fail
     go_ret
     exact ⟨rfl, B.out⟩
   ·obtain rfl : k = ln := by omega
    have d2 : decide ((k : Int) < (k : Int)) = false := by simp
    go_wp2_with fail
    go_ret
    exact ⟨rfl, B.out⟩
end Go.Proofs.Ytojedpahaifjgaa
