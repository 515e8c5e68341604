/- An egress: Nack, what is sent again, for certain. No condition but the numbers' bounds. The reference's egress (tenailleref28): Nack, by the program's plain functions. No condition but the numbers' bounds. -/
import Derived.Test.YtojedpahaifjgaaEpU
import Derived.Test.YtojedpahaifjgaaGEh
import Derived.Test.YtojedpahaifjgaaGEc
namespace Go.Proofs.Ytojedpahaifjgaa
open Go.RowKit
def BR : Elt (List Nat) where
 size := 1
 R := fun w base a c => ∃ v, c = [v] ∧ OB w base 5 v a.length a
 Ok := NoB
 pos := by decide
 len := fun ⟨v, e, _⟩ => by rw [e]; rfl
 one := fun ⟨v, e, hv⟩ u hu => by
  rw [e] at hu
  obtain ⟨s, c, rfl, _, _⟩ := hv.len
  simp at hu
  rcases hu with rfl
  rfl
 bw := fun ⟨v, e, hv⟩ hb => ⟨v, e, hv.bw hb⟩
 up := fun ⟨v, e, hv⟩ hb => ⟨v, e, hv.up hb⟩
 still := fun ⟨v, e, hv⟩ hs hS => ⟨v, e, hv.still hs (NoB.ob hv hS)⟩
 old := fun ⟨v, e, hv⟩ hs hS => ⟨v, e, hv.still hs (fun k hk hm => by have := hv.ge' k hk; have := hS k hm; omega)⟩
theorem slBR : SlTy Try.prog 72 34 1 24 := SlTy.mk' Try.underlying72 (by kernel_rfl) (by decide)
theorem br_form {T : TypeId} {w : World} {base : Nat} {sv : Option Addr} {n cap : Nat} {L : List (List Nat)} (h : EQ BR T w base (.slice sv n cap) n L) (h0 : 0 < n) :
  ∃ g o, sv = some ⟨g, o, none⟩ ∧ ∀ i (hi : i < L.length), ∃ u, w.cell? ⟨g, o + i, none⟩ = some u ∧ OB w base 5 u (L[i]).length L[i] := by
 obtain ⟨g, o, cap', hsl, _, _, _, _, hce⟩ := h.form h0
 simp only [Value.slice.injEq] at hsl
 refine ⟨g, o, hsl.1, fun i hi => ?_⟩
 obtain ⟨c, ⟨u, hc, hu⟩, hcc⟩ := hce i hi
 have z0 := hcc 0 (by decide)
 have e2 : BR.size = 1 := rfl
 rw [hc, e2, Nat.mul_one] at z0
 exact ⟨u, z0, hu⟩
def nackStep (R : PL) (h : Int) (p : List (List Nat) × Int) (s : Nat) : List (List Nat) × Int :=
 if isAt R (idxN h s) = true ∧ ((getN R (idxN h s)).length : Int) ≤ p.2 then (p.1 ++ [getN R (idxN h s)], p.2 - (getN R (idxN h s)).length) else p
def ansN (R : PL) (h : Int) (l : List Nat) (hav : Int) : List (List Nat) × Int := l.foldl (nackStep R h) ([], hav)
theorem ansN_take (R : PL) (h : Int) (l : List Nat) (hav : Int) (k : Nat) (hk : k < l.length) : ansN R h (l.take (k + 1)) hav = nackStep R h (ansN R h (l.take k) hav) l[k] := by
 unfold ansN
 rw [List.take_add_one, List.getElem?_eq_getElem hk, List.foldl_append]
 rfl
theorem ansN_ok (R : PL) (h : Int) (l : List Nat) (hav : Int) (h0 : 0 ≤ hav) : 0 ≤ (ansN R h l hav).2 ∧ (ansN R h l hav).2 ≤ hav := by
 unfold ansN
 have : ∀ (l : List Nat) (p : List (List Nat) × Int), 0 ≤ p.2 → 0 ≤ (l.foldl (nackStep R h) p).2 ∧ (l.foldl (nackStep R h) p).2 ≤ p.2 := by
  intro l
  induction l with
  | nil => intro p hp; exact ⟨hp, Int.le_refl _⟩
  | cons s l ih =>
   intro p hp
   have hs : 0 ≤ (nackStep R h p s).2 ∧ (nackStep R h p s).2 ≤ p.2 := by
    unfold nackStep
    split
    ·rename_i hc
     have := hc.2
     constructor
     ·show 0 ≤ p.2 - _; omega
     ·show p.2 - _ ≤ p.2; omega
    ·exact ⟨hp, Int.le_refl _⟩
   have := ih _ hs.1
   exact ⟨this.1, Int.le_trans this.2 hs.2⟩
 exact this l _ h0
theorem EsI.st {w w' : World} {base g gc gr gb : Nat} {fk fp : FuncId} {src many wanted goes first : Int} {W : Wr} {pk by_ : Int} {v : Value} {L : PL} {rate burst hav : Int} (h : EsI w base g gc gr gb fk fp src many wanted goes first W pk by_ v L rate burst hav) {S : List Nat} (hs : Still S w w') (hS : ∀ k ∈ S, NoB w k) (h1 : g ∉ S) (h2 : gc ∉ S) (h3 : gr ∉ S) (h4 : gb ∉ S) (h5 : ∀ k, v.ownBlock = some k → k ∉ S) : EsI w' base g gc gr gb fk fp src many wanted goes first W pk by_ v L rate burst hav :=
 ⟨h.hp.st hs h1, h.ch.st hs h2, h.rg.still hs hS h3 h5, HpB.st (o := .cells _ _) h.bk hs h4⟩
theorem EsI.setB {w : World} {base g gc gr gb : Nat} {fk fp : FuncId} {src many wanted goes first : Int} {W : Wr} {pk by_ : Int} {v : Value} {L : PL} {rate burst hav : Int} (h : EsI w base g gc gr gb fk fp src many wanted goes first W pk by_ v L rate burst hav) (x : Int) : EsI (w.setCell ⟨gb, 2, none⟩ (.int .u64 x)) base g gc gr gb fk fp src many wanted goes first W pk by_ v L rate burst x := by
 have T4 := still_sc w gb 2 (.int .u64 x)
 have hne : ∀ {k : Nat} {cs : Array Value} {t : TypeId} {f : Nat × Nat}, w.heap[k]? = some (.cells cs t f) → t ≠ 142 → k ∉ [gb] := fun {k cs t f} hk t1 hm => by
  obtain rfl : k = gb := by simpa using hm
  exact hp_ne hk (show HpB w k (.cells _ _) from h.bk) t1 rfl
 exact ⟨h.hp.st T4 (hne h.hp (by decide)), h.ch.st T4 (hne h.ch (by decide)), h.rg.still T4 (fun k hk => by obtain rfl : k = gb := (by simpa using hk); exact .inr ⟨_, _, _, h.bk, by decide⟩) (hne h.rg.cells (by decide)) (fun k hk hm => by obtain rfl : k = gb := (by simpa using hm); exact h.rg.q.ne h.bk (by decide) _ hk rfl), h.bk.set x⟩
def hiW (W : Wr) : Int := if W.out = true then W.l0 else -1
theorem idx_range (x : Nat) (hx : x < 65536) : 0 ≤ (x : Int) ∧ (x : Int) ≤ 65535 := by omega
set_option maxRecDepth 100000 in
set_option maxHeartbeats 8000000 in
theorem nack_x (base g gc gr gb : Nat) (fk fp : FuncId) (src many wanted goes first : Int) (W : Wr) (pk by_ : Int) (v : Value) (L : PL) (rate burst hav : Int) (b0 nl : Nat) (lv : Value) (LL : List (Nat × Nat)) (hnl : nl ≤ 1000) (hLL : ∀ p ∈ LL, p.1 < 65536 ∧ p.2 < 65536) (w : World) (h : EsI w base g gc gr gb fk fp src many wanted goes first W pk by_ v L rate burst hav) (hs : Srt L) (hn : L.length ≤ 100000) (hl : lensL L ≤ 100000000) (hh : 0 ≤ hav ∧ hav ≤ 18446744073709551615) (hl0 : W.l0 ≤ 1152921504606846976) (hsq : ∀ x ∈ nackN LL, x < 65536) (hX : SQ EO w b0 lv nl LL) (A : List (List Nat) × Int) (hA : ansN L (hiW W) (nackN LL) hav = A) :
  Calls Try.prog 16 #[.pointer (some ⟨g, 0, none⟩), lv] w fun e w' => ∃ so n co, e = .returned (.slice so n co) ∧ EQ BR 34 w' w.heap.size (.slice so n co) n A.1 ∧ EsI w' base g gc gr gb fk fp src many wanted goes first W pk by_ v L rate burst A.2 ∧ Still [gb] w w' := by
 have cN := Lib.hid (nacked_ok b0 nl lv LL hnl hLL w hX)
 have hE := Lib.hid h
 have hlen17 : (nackN LL).length ≤ 17 * 1000 := by
  have h1 := nackN_length LL
  have h2 := hX.1
  omega
 have hAk := ansN_take L (hiW W) (nackN LL) hav
 have hA0 := ansN_ok L (hiW W)
 replace hs := Lib.hid hs
 replace hn := Lib.hid hn
 replace hl := Lib.hid hl
 replace hh := Lib.hid hh
 replace hAk := Lib.hid hAk
 replace hA0 := Lib.hid hA0
 replace hLL := Lib.hid hLL
 replace hsq := Lib.hid hsq
 clear h hX hnl
 obtain ⟨Q0, hQ0⟩ : ∃ Q0, nackN LL = Q0 := ⟨_, rfl⟩
 rw [hQ0] at cN hlen17 hAk hA hsq
 clear hQ0
 go_enter Try.func16, Try.ntmps16
 go_upto_region 2 with (fail)
 go_wp2_with fail
 refine Calls.mono cN.out ?_
 rintro e w1 ⟨s1, n1, c1, rfl, QN, hb⟩
 have E1 := Lib.hid (hE.out.bw hb)
 have T1 := Lib.hid (hb.still [gb])
 obtain ⟨_, _, hq1, hc1, hm1⟩ := QN.len
 simp only [Value.slice.injEq, true_and] at hq1
 obtain ⟨-, hq1⟩ := hq1
 rw [← hq1] at hc1 hm1
 unfold maxLen at hm1
 have hn1 : n1 ≤ 17000 := by have := QN.1; omega
 replace QN := Lib.hid QN
 clear hq1 hb cN hE
 dsimp only
 go_upto_region 3 with (fail)
 go_loopg [5, 13] n1 (fun m' out_ i wx => ∃ (k n : Nat) (so : Option Addr) (co : Nat) (Ls : List (List Nat)) (hv : Int), m' = n1 - k ∧ k ≤ n1 ∧ i = .int .i64 (k : Nat) ∧ out_ = .slice so n co ∧ co ≤ 9223372036854775807 ∧ n ≤ k ∧ Hid (ansN L (hiW W) (Q0.take k) hav = (Ls, hv)) ∧ Hid (EQ BR 34 wx w.heap.size (.slice so n co) n Ls) ∧ Hid (EQ U1N 32 wx w.heap.size (.slice s1 n1 c1) n1 Q0) ∧ Hid (EsI wx base g gc gr gb fk fp src many wanted goes first W pk by_ v L rate burst hv) ∧ Hid (Still [gb] w wx))
 case atStart => exact ⟨0, 0, none, 0, [], hav, rfl, by omega, rfl, rfl, by omega, by omega, Lib.hid rfl, EQ.nil _ _ _ _, QN, E1, T1⟩
 case round =>
  clear QN E1 T1
  obtain ⟨k, n, so, co, Ls, hv, rfl, hk, rfl, rfl, hco, hnk, hP, Q, QN, E, T⟩ := hrel
  by_cases hkn : k < n1
  ·have d : decide ((k : Int) < (n1 : Int)) = true := by simp; omega
   have hL1 : Q0.length = n1 := QN.out.1
   have hkq : k < Q0.length := by omega
   obtain ⟨ga, oa, hsa, hcells⟩ := sqU_form QN.out.sq (by omega)
   have hx := hcells k hkq
   have hxr := hsq.out _ (List.getElem_mem hkq)
   have hAs := hAk.out k hkq
   have hhv : 0 ≤ hv ∧ hv ≤ hav := by
    have := hA0.out (Q0.take k) hav hh.out.1
    rw [hP.out] at this
    exact this
   rw [hP.out] at hAs
   generalize Q0[k] = x at *
   have hs1 := Lib.hid hsa
   subst hsa
   clear hcells hs1
   obtain ⟨hp, ch, rg, bk⟩ := E.out
   have hE := Lib.hid E.out
   clear E
   have z16 := (hp_cell hp 16).trans (show _ = some (.pointer (some ⟨gr, 0, none⟩)) from rfl)
   replace hp := Lib.hid hp
   replace ch := Lib.hid ch
   replace rg := Lib.hid rg
   replace bk := Lib.hid bk
   replace hAs := Lib.hid hAs
   replace hxr := Lib.hid hxr
   replace hkq := Lib.hid hkq
   replace hL1 := Lib.hid hL1
   go_upto_region 5 with (fail)
   have m16 : ∀ y : LaterS [] wr, _ := fun y => y.bw.cell z16
   clear z16 hx
   refine wp_region_gg [] [] [] (by kernel_rfl) ?_
   refine hoist [] [] (a1 := ?_) 0 rfl (by kernel_rfl) (.inl ⟨rfl, rfl⟩) rfl rfl rfl (fun x K hK => ?_) ?_
   rotate_left
   ·go_big_quiet_op
    exact hK
   refine hoist [] [] (a1 := ?_) 1 rfl (by kernel_rfl) (.inl ⟨rfl, rfl⟩) rfl rfl rfl (fun x K hK => ?_) ?_
   rotate_left
   ·go_big_quiet_op
    exact hK
   refine hoist [] [] (a1 := ?_) 2 rfl (by kernel_rfl) (.inl ⟨rfl, rfl⟩) rfl rfl rfl (fun x K hK => ?_) ?_
   rotate_left
   ·go_big_quiet_op
    exact hK
   refine hoist [] [] (a1 := ?_) 3 rfl (by kernel_rfl) (.inl ⟨rfl, rfl⟩) rfl rfl rfl (fun x K hK => ?_) ?_
   rotate_left
   ·go_big_quiet_op
    exact hK
   refine hoist [] [] (a1 := ?_) 4 rfl (by kernel_rfl) (.inl ⟨rfl, rfl⟩) rfl rfl rfl (fun x K hK => ?_) ?_
   rotate_left
   ·go_big_quiet_op
    exact hK
   refine hoist [] [] (a1 := ?_) 5 rfl (by kernel_rfl) (.inl ⟨rfl, rfl⟩) rfl rfl rfl (fun x K hK => ?_) ?_
   rotate_left
   ·go_big_quiet_op
    exact hK
   refine hoist [] [] (a1 := ?_) 6 rfl (by kernel_rfl) (.inl ⟨rfl, rfl⟩) rfl rfl rfl (fun x K hK => ?_) ?_
   rotate_left
   ·go_big_quiet_op
    exact hK
   refine hoist [] [] (a1 := ?_) 8 rfl (by kernel_rfl) (.inl ⟨rfl, rfl⟩) rfl rfl rfl (fun x K hK => ?_) ?_
   rotate_left
   ·go_big_quiet_op
    exact hK
   refine effect 7 rfl (by kernel_rfl) (by kernel_rfl) rfl (fun x7 K hK => ?_)
   go_simp
   refine Calls.mono (high_any g gc gr gb _ _ src first W.fol W.a0 W.a1 W.a2 W.b0 W.b1 W.b2 W.out W.l0 W.l1 W.l2 x7.now (hp.out.bw x7.bw)) ?_
   rintro e w2 ⟨rfl, rfl⟩
   refine hK _ _ ((BW.refl _).still _) ?_
   clear hK K
   have b7 := Lib.hid x7.bw
   have hhi : (if W.out = true then W.l0 else -1) ≤ 1152921504606846976 := by split <;> omega
   replace hAs := Lib.hid (show ansN L (hiW W) (Q0.take (k + 1)) hav = nackStep L (if W.out = true then W.l0 else -1) (Ls, hv) x from hAs.out)
   generalize (if W.out = true then W.l0 else -1) = hi_ at *
   try simp only [Act.put, List.setIfInBounds_toArray, List.set_cons_succ, List.set_cons_zero]
   refine effect 9 rfl (by kernel_rfl) (by kernel_rfl) rfl (fun x9 K hK => ?_)
   go_simp
   refine Calls.mono (pidx_any hi_ (x : Nat) hhi (idx_range x hxr.out) x9.now) ?_
   rintro e w2 ⟨rfl, rfl⟩
   refine hK _ _ ((BW.refl _).still _) ?_
   clear hK K
   have b9 := Lib.hid (b7.out.trans x9.bw)
   replace hAs := Lib.hid (show ansN L (hiW W) (Q0.take (k + 1)) hav = (if isAt L (idxN hi_ x) = true ∧ ((getN L (idxN hi_ x)).length : Int) ≤ hv then (Ls ++ [getN L (idxN hi_ x)], hv - (getN L (idxN hi_ x)).length) else (Ls, hv)) from hAs.out)
   generalize idxN hi_ x = r at *
   clear hhi
   try simp only [Act.put, List.setIfInBounds_toArray, List.set_cons_succ, List.set_cons_zero]
   refine effect 10 rfl (by kernel_rfl) (by kernel_rfl) rfl (fun x10 K hK => ?_)
   go_simp
   have B10 := b9.out.trans x10.bw
   refine Calls.mono (get_any base gr pk by_ v L r x10.now (rg.out.bw B10) hs.out (Nat.le_trans hn.out (by decide)) (Nat.le_trans hl.out (by decide))) ?_
   rintro e w2 ⟨u, rfl, O2, hb⟩
   refine hK _ _ (hb.still []) ?_
   clear hK K m16
   have BG := Lib.hid (B10.trans hb)
   replace O2 := O2.up (Nat.le_trans T.out.size B10.size)
   obtain ⟨su, cu, rfl, hcu, hmu⟩ := O2.len
   unfold maxLen at hmu
   replace O2 := Lib.hid O2
   clear hb B10 b9
   generalize getN L r = bs at *
   generalize hn2 : bs.length = n2 at *
   generalize isAt L r = okb at *
   replace hn2 := Lib.hid hn2
   try simp only [Act.put, List.setIfInBounds_toArray, List.set_cons_succ, List.set_cons_zero]
   refine hoist [] [] (a1 := ?_) 11 rfl (by kernel_rfl) (.inl ⟨rfl, rfl⟩) rfl rfl rfl (fun x K hK => ?_) ?_
   rotate_left
   ·go_big_quiet_op
    exact hK
   refine hoist [] [] (a1 := ?_) 12 rfl (by kernel_rfl) (.inl ⟨rfl, rfl⟩) rfl rfl rfl (fun x K hK => ?_) ?_
   rotate_left
   ·go_big_quiet_op
    exact hK
   refine hoist [] [] (a1 := ?_) 13 rfl (by kernel_rfl) (.inl ⟨rfl, rfl⟩) rfl rfl rfl (fun x K hK => ?_) ?_
   rotate_left
   ·go_big_quiet_op
    exact hK
   refine hoist [] [] (a1 := ?_) 14 rfl (by kernel_rfl) (.inl ⟨rfl, rfl⟩) rfl rfl rfl (fun x K hK => ?_) ?_
   rotate_left
   ·go_big_quiet_op
    exact hK
   refine hoist [] [] (a1 := ?_) 15 rfl (by kernel_rfl) (.inl ⟨rfl, rfl⟩) rfl rfl rfl (fun x K hK => ?_) ?_
   rotate_left
   ·go_big_quiet_op
    exact hK
   refine done (by kernel_rfl) (fun xr => ?_)
   have BG2 := Lib.hid (BG.out.trans xr.bw)
   have O3 := Lib.hid (O2.out.bw xr.bw)
   clear BG b7 O2
   have Q2 := Lib.hid (Q.out.bw BG2.out)
   have N2 := Lib.hid (QN.out.bw BG2.out)
   have E2 := Lib.hid (hE.out.bw BG2.out)
   have T2 := Lib.hid (T.out.trans (BG2.out.still [gb]))
   clear Q QN hE T hp ch rg bk BG2
   generalize xr.now = w3 at *
   cases okb with
   | false =>
    rw [if_neg (by simp)] at hAs
    go_wp2_with fail
    go_roundg (n1 - (k + 1))
    case measure => omega
    case rel => exact ⟨k + 1, n, so, co, Ls, hv, rfl, by omega, by first | rfl | (congr 1; omega), rfl, hco, by omega, hAs, Q2, N2, E2, T2⟩
   | true =>
    have z17 := (hp_cell E2.out.hp 17).trans (show _ = some (.pointer (some ⟨gb, 0, none⟩)) from rfl)
    by_cases hpay : (n2 : Int) ≤ hv
    ·rw [if_pos ⟨rfl, hpay⟩] at hAs
     have cT := Lib.hid (take_yes gb rate burst hv (n2 : Int) w3 E2.out.bk hpay (by omega) (by have := hh.out.2; omega))
     go_wp2_with fail
     refine Calls.mono cT.out ?_
     rintro e w4 ⟨rfl, rfl⟩
     have T4 := still_sc w3 gb 2 (.int .u64 (hv - n2))
     have hNb : ∀ k ∈ [gb], NoB w3 k := fun k hk => by obtain rfl : k = gb := (by simpa using hk); exact .inr ⟨_, _, _, E2.out.bk, by decide⟩
     have E4 := Lib.hid (E2.out.setB (hv - n2))
     have Q4 := Lib.hid (Q2.out.still T4 hNb (fun k hk hm => by obtain rfl : k = gb := (by simpa using hm); exact Q2.out.ne E2.out.bk (by decide) _ hk rfl))
     have N4 := Lib.hid (N2.out.still T4 (fun _ _ => trivial) (fun k hk hm => by obtain rfl : k = gb := (by simpa using hm); exact N2.out.ne E2.out.bk (by decide) _ hk rfl))
     have O4 := Lib.hid (O3.out.still T4 (fun k hk => NoB.ob O3.out hNb k hk))
     have T5 := Lib.hid (T2.out.trans T4)
     clear T4 Q2 N2 E2 T2 O3 z17 cT hNb
     generalize w3.setCell ⟨gb, 2, none⟩ (.int .u64 (hv - n2)) = w4 at *
     dsimp only
     have BC : BW w4 (w4.alloc (.cells #[.slice su n2 cu] 34)) := (BW.refl _).alloc
     have L5 := Lib.hid (Sls.new1 (E := BR) w4 34 [.slice su n2 cu] rfl)
     have Q5 := Lib.hid (Q4.out.bw BC)
     have N5 := Lib.hid (N4.out.bw BC)
     have E5 := Lib.hid (E4.out.bw BC)
     have O5 := Lib.hid (O4.out.bw BC)
     have S5 := Nat.le_trans T5.out.size BC.size
     have T6 := Lib.hid (T5.out.trans (BC.still [gb]))
     clear Q4 N4 E4 T5 O4
     replace BC := Lib.hid BC
     go_upto_region 8 with (at_builtin; go_must (refine wpList_apEQ slBR rfl _ _ rfl w.heap.size (.slice so n co) n Ls rfl Q5.out _ rfl 1 [bs] [.slice su n2 cu] L5.out (EL.single ⟨_, rfl, by rw [hn2.out]; exact O5.out⟩) rfl (by omega) S5 (Q5.out.noB (by decide)) ?_; intro s6 c6 w6 hc6 hm6 Q6 T7 hb6 G6; unfold maxLen at hm6; replace Q6 := Lib.hid Q6; replace T7 := Lib.hid T7; replace G6 := Lib.hid G6; clear hb6))
     have N6 := Lib.hid (N5.out.still T7.out (fun _ _ => trivial) (fun k hk hm => by obtain ⟨cs, hcs⟩ := N5.out.row k hk; exact Q5.out.ne hcs (by decide) k (by simpa using hm) rfl))
     have E6 : Hid (EsI w6 base g gc gr gb fk fp src many wanted goes first W pk by_ v L rate burst (hv - n2)) := by
      have hne : ∀ {k : Nat} {cs : Array Value} {t : TypeId} {f : Nat × Nat}, (w4.alloc (.cells #[.slice su n2 cu] 34)).heap[k]? = some (.cells cs t f) → t ≠ 34 → k ∉ (Value.slice so n co).ownBlock.toList := fun {k cs t f} hk t1 hm => Q5.out.ne hk t1 k (by simpa using hm) rfl
      have E := E5.out
      exact E.st T7.out (Q5.out.noB (by decide)) (hne E.hp (by decide)) (hne E.ch (by decide)) (hne E.rg.cells (by decide)) (hne E.bk (by decide)) (fun k hk hm => by obtain ⟨cs, hcs⟩ := E.rg.q.row k hk; exact hne hcs (by decide) hm)
     have T8 := Lib.hid (Still.stNew T6.out T7.out (fun j hj => Q5.out.ge' j (by simpa using hj)))
     clear Q5 N5 E5 T6 T7 G6 L5 O5
     go_wp2_with fail
     go_roundg (n1 - (k + 1))
     case measure => omega
     case rel => exact ⟨k + 1, n + 1, s6, c6, _, hv - n2, rfl, by omega, by first | rfl | (congr 1; omega), rfl, by omega, by omega, hAs, Q6, N6, E6, T8⟩
    ·rw [if_neg (fun h => hpay h.2)] at hAs
     have cT := Lib.hid (take_no gb rate burst hv (n2 : Int) w3 E2.out.bk (by omega))
     go_wp2_with fail
     refine Calls.mono cT.out ?_
     rintro e w4 ⟨rfl, rfl⟩
     clear cT
     dsimp only
     go_wp2_with fail
     go_roundg (n1 - (k + 1))
     case measure => omega
     case rel => exact ⟨k + 1, n, so, co, Ls, hv, rfl, by omega, by first | rfl | (congr 1; omega), rfl, hco, by omega, hAs, Q2, N2, E2, T2⟩
  ·obtain rfl : k = n1 := by omega
   have d : decide (((k : Nat) : Int) < (k : Int)) = false := by simp
   have hL1 : Q0.length = k := QN.out.1
   have hP2 : A = (Ls, hv) := by
    rw [← hA, ← hP.out, ← hL1, List.take_length]
   subst hP2
   go_wp2_with fail
   go_ret
   exact ⟨so, n, co, rfl, Q.out, E.out, T.out⟩
end Go.Proofs.Ytojedpahaifjgaa

namespace Go.Proofs.Ytojedpahaifjgaa
open Go.RowKit
theorem RefV.stA {w w' : World} {base g : Nat} {pk by_ : Int} {vi vb : Value} {M : PL} (h : RefV w base g pk by_ vi vb M) {S : List Nat} (hs : Still S w w') (hg : g ∉ S) (hi : ∀ k, vi.ownBlock = some k → k ∉ S) (hb : ∀ k, vb.ownBlock = some k → k ∉ S) : RefV w' base g pk by_ vi vb M :=
 ⟨h.cells.st hs hg, h.qi.still hs (fun _ _ => trivial) hi, h.qb.still hs (fun _ _ => trivial) hb⟩
theorem RefV.stT {w w' : World} {base g : Nat} {pk by_ : Int} {vi vb : Value} {M : PL} (h : RefV w base g pk by_ vi vb M) {k : Nat} {cs : Array Value} {t : TypeId} (hs : Still [k] w w') (hk : HpB w k (.cells cs t)) (t1 : 99 ≠ t) (t2 : t ≠ 2) (t3 : t ≠ 9) : RefV w' base g pk by_ vi vb M :=
 h.stA hs (by simpa using hp_ne h.cells hk t1) (fun j hj hm => by
  obtain rfl : j = k := by simpa using hm
  exact h.qi.ne hk t2 _ hj rfl) (fun j hj hm => by
  obtain rfl : j = k := by simpa using hm
  exact h.qb.ne hk t3 _ hj rfl)
theorem WrR.hiW {W : Wr} {fol : Bool} {a b : Mpd} {L : List Mpd} {K : Int} (h : WrR W fol a b L K) : hiN L = hiW W := h.high
set_option maxRecDepth 100000 in
set_option maxHeartbeats 8000000 in
theorem rnack28 (base q qc qw qr qb c : Nat) (src first : Int) (W : Wr) (fol : Bool) (a b : Mpd) (v : Value) (LW : List Mpd) (KA : Int) (pk by_ : Int) (vi vb : Value) (L M : PL) (rate burst hav : Int) (b0 nl : Nat) (lv : Value) (LL : List (Nat × Nat)) (hR : WrR W fol a b LW KA) (hSP : SP L M) (hnl : nl ≤ 1000) (hLL : ∀ p ∈ LL, p.1 < 65536 ∧ p.2 < 65536) (w : World) (He : HpB w q (.cells #[.int .u32 src, .int .i64 (c : Nat), .pointer (some ⟨qc, 0, none⟩), .pointer (some ⟨qw, 0, none⟩), .pointer (some ⟨qr, 0, none⟩), .pointer (some ⟨qb, 0, none⟩)] 86)) (Wc : W22 w base qw first fol a b v LW) (Rc : RefV w base qr pk by_ vi vb M) (Kc : Rb w qb rate burst hav) (hl : lensL L ≤ 100000000) (hh : 0 ≤ hav ∧ hav ≤ 18446744073709551615) (hl0 : W.l0 ≤ 1152921504606846976) (hsq : ∀ x ∈ nackN LL, x < 65536) (hX : SQ EO w b0 lv nl LL) (A : List (List Nat) × Int) (hA : ansN L (hiW W) (nackN LL) hav = A) :
  Calls Try.prog 22 #[.pointer (some ⟨q, 0, none⟩), lv] w fun e w' => ∃ so n co, e = .returned (.slice so n co) ∧ EQ S1 9 w' w.heap.size (.slice so n co) n A.1 ∧ Rb w' qb rate burst A.2 ∧ Still [qb] w w' := by
 have cN := Lib.hid (rnacked_ok b0 nl lv LL hnl hLL w hX)
 have hlen17 : (nackN LL).length ≤ 17 * 1000 := by
  have h1 := nackN_length LL
  have h2 := hX.1
  omega
 have hAk := ansN_take L (hiW W) (nackN LL) hav
 have hA0 := ansN_ok L (hiW W)
 have hhi : hiW W ≤ 1152921504606846976 := by unfold hiW; split <;> omega
 have hhN := hR.hiW
 have hlM : ∀ (k : Nat) (hk : k < M.length), (M[k]).2.length ≤ 100000000 := fun k hk => by
  have h1 := lensL_get M k hk
  have h2 := lensL_perm hSP.perm
  omega
 obtain ⟨si, ci, rfl, hnci, hmci⟩ := Rc.qi.len
 obtain ⟨sb, cb, rfl, hncb, hmcb⟩ := Rc.qb.len
 have hbo : Hid (∀ j, (Value.slice sb M.length cb).ownBlock = some j → j < w.heap.size) := Lib.hid (fun j hj => Rc.qb.lt' j hj)
 unfold maxLen at hmci hmcb
 obtain ⟨nm, hnm⟩ : ∃ nm, M.length = nm := ⟨_, rfl⟩
 replace He := Lib.hid He
 replace Wc := Lib.hid Wc
 replace Rc := Lib.hid Rc
 replace Kc := Lib.hid Kc
 replace hSP := Lib.hid hSP
 replace hl := Lib.hid hl
 replace hh := Lib.hid hh
 replace hAk := Lib.hid hAk
 replace hA0 := Lib.hid hA0
 replace hLL := Lib.hid hLL
 replace hsq := Lib.hid hsq
 replace hhN := Lib.hid hhN
 replace hlM := Lib.hid hlM
 clear hX hnl hR hnci hmci
 obtain ⟨Q0, hQ0⟩ : ∃ Q0, nackN LL = Q0 := ⟨_, rfl⟩
 rw [hQ0] at cN hlen17 hAk hA hsq
 clear hQ0
 generalize hiW W = hi_ at *
 go_enter Try.func22, Try.ntmps22
 go_upto_region 2 with (fail)
 go_wp2_with fail
 refine Calls.mono cN.out ?_
 rintro e w1 ⟨s1, n1, c1, rfl, QN, hb⟩
 replace He := Lib.hid (He.out.bw hb)
 replace Wc := Lib.hid (Wc.out.bw hb)
 replace Rc := Lib.hid (Rc.out.bw hb)
 replace Kc := Lib.hid (Kc.out.bw hb)
 have T1 := Lib.hid (hb.still [qb])
 obtain ⟨_, _, hq1, hc1, hm1⟩ := QN.len
 simp only [Value.slice.injEq, true_and] at hq1
 obtain ⟨-, hq1⟩ := hq1
 rw [← hq1] at hc1 hm1
 unfold maxLen at hm1
 have hn1 : n1 ≤ 17000 := by have := QN.1; omega
 replace QN := Lib.hid QN
 clear hq1 hb cN
 dsimp only
 go_upto_region 4 with (fail)
 go_loopg [5, 7] n1 (fun m' out_ i wx => ∃ (k n : Nat) (so : Option Addr) (co : Nat) (Ls : List (List Nat)) (hv : Int), m' = n1 - k ∧ k ≤ n1 ∧ i = .int .i64 (k : Nat) ∧ out_ = .slice so n co ∧ co ≤ 9223372036854775807 ∧ n ≤ k ∧ Hid (ansN L hi_ (Q0.take k) hav = (Ls, hv)) ∧ Hid (EQ S1 9 wx w.heap.size (.slice so n co) n Ls) ∧ Hid (EQ U1N 32 wx w.heap.size (.slice s1 n1 c1) n1 Q0) ∧ Hid (HpB wx q (.cells #[.int .u32 src, .int .i64 (c : Nat), .pointer (some ⟨qc, 0, none⟩), .pointer (some ⟨qw, 0, none⟩), .pointer (some ⟨qr, 0, none⟩), .pointer (some ⟨qb, 0, none⟩)] 86)) ∧ Hid (W22 wx base qw first fol a b v LW) ∧ Hid (RefV wx base qr pk by_ (.slice si M.length ci) (.slice sb M.length cb) M) ∧ Hid (Rb wx qb rate burst hv) ∧ Hid (Still [qb] w wx))
 case atStart => exact ⟨0, 0, none, 0, [], hav, rfl, by omega, rfl, rfl, by omega, by omega, Lib.hid rfl, EQ.nil _ _ _ _, QN, He, Wc, Rc, Kc, T1⟩
 case round =>
  clear QN He Wc Rc Kc T1
  obtain ⟨k, n, so, co, Ls, hv, rfl, hk, rfl, rfl, hco, hnk, hP, Q, QN, He, Wc, Rc, Kc, T⟩ := hrel
  by_cases hkn : k < n1
  ·have d : decide ((k : Int) < (n1 : Int)) = true := by simp; omega
   have hL1 : Q0.length = n1 := QN.out.1
   have hkq : k < Q0.length := by omega
   obtain ⟨ga, oa, hsa, hcells⟩ := sqU_form QN.out.sq (by omega)
   have hx := hcells k hkq
   have hxr := hsq.out _ (List.getElem_mem hkq)
   have hAs := hAk.out k hkq
   have hhv : 0 ≤ hv ∧ hv ≤ hav := by
    have := hA0.out (Q0.take k) hav hh.out.1
    rw [hP.out] at this
    exact this
   rw [hP.out] at hAs
   generalize Q0[k] = x at *
   have hs1 := Lib.hid hsa
   subst hsa
   clear hcells hs1
   have z3 := (hp_cell He.out 3).trans (show _ = some (.pointer (some ⟨qw, 0, none⟩)) from rfl)
   have z4 := (hp_cell He.out 4).trans (show _ = some (.pointer (some ⟨qr, 0, none⟩)) from rfl)
   replace hAs := Lib.hid (show ansN L hi_ (Q0.take (k + 1)) hav = (if isAt L (idxN hi_ x) = true ∧ ((getN L (idxN hi_ x)).length : Int) ≤ hv then (Ls ++ [getN L (idxN hi_ x)], hv - (getN L (idxN hi_ x)).length) else (Ls, hv)) from hAs)
   replace hxr := Lib.hid hxr
   replace hkq := Lib.hid hkq
   replace hL1 := Lib.hid hL1
   go_upto_region 6 with (fail)
   have m3 : ∀ y : LaterS [] wr, _ := fun y => y.bw.cell z3
   have m4 : ∀ y : LaterS [] wr, _ := fun y => y.bw.cell z4
   have mx : ∀ y : LaterS [] wr, _ := fun y => y.bw.cell hx
   clear z3 z4 hx
   refine wp_region_gg [] [] [] (by kernel_rfl) ?_
   refine hoist [] [] (a1 := ?_) 0 rfl (by kernel_rfl) (.inl ⟨rfl, rfl⟩) rfl rfl rfl (fun x K hK => ?_) ?_
   rotate_left
   ·go_big_quiet_op
    exact hK
   refine hoist [] [] (a1 := ?_) 1 rfl (by kernel_rfl) (.inl ⟨rfl, rfl⟩) rfl rfl rfl (fun x K hK => ?_) ?_
   rotate_left
   ·go_big_quiet_op
    exact hK
   refine hoist [] [] (a1 := ?_) 2 rfl (by kernel_rfl) (.inl ⟨rfl, rfl⟩) rfl rfl rfl (fun x K hK => ?_) ?_
   rotate_left
   ·go_big_quiet_op
    exact hK
   refine hoist [] [] (a1 := ?_) 3 rfl (by kernel_rfl) (.inl ⟨rfl, rfl⟩) rfl rfl rfl (fun x K hK => ?_) ?_
   rotate_left
   ·go_big_quiet_op
    exact hK
   refine hoist [] [] (a1 := ?_) 4 rfl (by kernel_rfl) (.inl ⟨rfl, rfl⟩) rfl rfl rfl (fun x K hK => ?_) ?_
   rotate_left
   ·go_big_quiet_op
    exact hK
   refine hoist [] [] (a1 := ?_) 5 rfl (by kernel_rfl) (.inl ⟨rfl, rfl⟩) rfl rfl rfl (fun x K hK => ?_) ?_
   rotate_left
   ·go_big_quiet_op
    exact hK
   refine hoist [] [] (a1 := ?_) 6 rfl (by kernel_rfl) (.inl ⟨rfl, rfl⟩) rfl rfl rfl (fun x K hK => ?_) ?_
   rotate_left
   ·go_big_quiet_op
    exact hK
   refine hoist [] [] (a1 := ?_) 7 rfl (by kernel_rfl) (.inl ⟨rfl, rfl⟩) rfl rfl rfl (fun x K hK => ?_) ?_
   rotate_left
   ·go_big_quiet_op
    exact hK
   refine hoist [] [] (a1 := ?_) 9 rfl (by kernel_rfl) (.inl ⟨rfl, rfl⟩) rfl rfl rfl (fun x K hK => ?_) ?_
   rotate_left
   ·go_big_quiet_op
    exact hK
   refine hoist [] [] (a1 := ?_) 10 rfl (by kernel_rfl) (.inl ⟨rfl, rfl⟩) rfl rfl rfl (fun x K hK => ?_) ?_
   rotate_left
   ·go_big_quiet_op
    exact hK
   refine hoist [] [] (a1 := ?_) 11 rfl (by kernel_rfl) (.inl ⟨rfl, rfl⟩) rfl rfl rfl (fun x K hK => ?_) ?_
   rotate_left
   ·go_big_quiet_op
    exact hK
   refine hoist [] [] (a1 := ?_) 12 rfl (by kernel_rfl) (.inl ⟨rfl, rfl⟩) rfl rfl rfl (fun x K hK => ?_) ?_
   rotate_left
   ·go_big_quiet_op
    exact hK
   refine effect 8 rfl (by kernel_rfl) (by kernel_rfl) rfl (fun x8 K hK => ?_)
   have hb := x8.bw
   replace He := Lib.hid (He.out.bw hb)
   replace Wc := Lib.hid (Wc.out.bw hb)
   replace Rc := Lib.hid (Rc.out.bw hb)
   replace Kc := Lib.hid (Kc.out.bw hb)
   replace Q := Lib.hid (Q.out.bw hb)
   replace QN := Lib.hid (QN.out.bw hb)
   replace T := Lib.hid (T.out.trans (hb.still [qb]))
   clear hb
   go_simp
   refine Calls.mono (high22_any base qw first fol a b v LW x8.now Wc.out) ?_
   rintro e w2 ⟨rfl, hb⟩
   refine hK _ _ (hb.still _) ?_
   clear hK K m3 m4 mx
   replace He := Lib.hid (He.out.bw hb)
   replace Wc := Lib.hid (Wc.out.bw hb)
   replace Rc := Lib.hid (Rc.out.bw hb)
   replace Kc := Lib.hid (Kc.out.bw hb)
   replace Q := Lib.hid (Q.out.bw hb)
   replace QN := Lib.hid (QN.out.bw hb)
   replace T := Lib.hid (T.out.trans (hb.still [qb]))
   clear hb
   rw [hhN.out]
   try simp only [Act.put, List.setIfInBounds_toArray, List.set_cons_succ, List.set_cons_zero]
   refine effect 13 rfl (by kernel_rfl) (by kernel_rfl) rfl (fun x13 K hK => ?_)
   have hb := x13.bw
   replace He := Lib.hid (He.out.bw hb)
   replace Wc := Lib.hid (Wc.out.bw hb)
   replace Rc := Lib.hid (Rc.out.bw hb)
   replace Kc := Lib.hid (Kc.out.bw hb)
   replace Q := Lib.hid (Q.out.bw hb)
   replace QN := Lib.hid (QN.out.bw hb)
   replace T := Lib.hid (T.out.trans (hb.still [qb]))
   clear hb
   go_simp
   refine Calls.mono (ridx_any hi_ (x : Nat) hhi (idx_range x hxr.out) x13.now) ?_
   rintro e w2 ⟨rfl, rfl⟩
   refine hK _ _ ((BW.refl _).still _) ?_
   clear hK K
   generalize idxN hi_ x = r at *
   try simp only [Act.put, List.setIfInBounds_toArray, List.set_cons_succ, List.set_cons_zero]
   refine effect 14 rfl (by kernel_rfl) (by kernel_rfl) rfl (fun x14 K hK => ?_)
   have hb := x14.bw
   replace He := Lib.hid (He.out.bw hb)
   replace Wc := Lib.hid (Wc.out.bw hb)
   replace Rc := Lib.hid (Rc.out.bw hb)
   replace Kc := Lib.hid (Kc.out.bw hb)
   replace Q := Lib.hid (Q.out.bw hb)
   replace QN := Lib.hid (QN.out.bw hb)
   replace T := Lib.hid (T.out.trans (hb.still [qb]))
   clear hb
   go_simp
   refine Calls.mono (rat_any base qr pk by_ _ _ M r x14.now Rc.out) ?_
   rintro e w2 ⟨rfl, rfl⟩
   refine hK _ _ ((BW.refl _).still _) ?_
   clear hK K
   try simp only [Act.put, List.setIfInBounds_toArray, List.set_cons_succ, List.set_cons_zero]
   refine hoist [] [] (a1 := ?_) 15 rfl (by kernel_rfl) (.inl ⟨rfl, rfl⟩) rfl rfl rfl (fun x K hK => ?_) ?_
   rotate_left
   ·go_big_quiet_op
    exact hK
   refine done (by kernel_rfl) (fun xr => ?_)
   have hb := xr.bw
   replace He := Lib.hid (He.out.bw hb)
   replace Wc := Lib.hid (Wc.out.bw hb)
   replace Rc := Lib.hid (Rc.out.bw hb)
   replace Kc := Lib.hid (Kc.out.bw hb)
   replace Q := Lib.hid (Q.out.bw hb)
   replace QN := Lib.hid (QN.out.bw hb)
   replace T := Lib.hid (T.out.trans (hb.still [qb]))
   clear hb
   generalize xr.now = w3 at *
   clear xr
   have hat := at_same hSP.out r
   cases hk2 : atN M r with
   | none =>
    rw [hk2] at hat
    rw [show atI none = -1 from rfl]
    have hAs := hAs.out
    rw [if_neg (by rw [hat]; simp)] at hAs
    clear hat
    replace hAs := Lib.hid hAs
    replace hk2 := Lib.hid hk2
    go_upto_region 7 with (fail)
    refine wp_region_gg [] [] [] (by kernel_rfl) ?_
    refine hoist [] [] (a1 := ?_) 0 rfl (by kernel_rfl) (.inl ⟨rfl, rfl⟩) rfl rfl rfl (fun x K hK => ?_) ?_
    rotate_left
    ·go_big_quiet_op
     exact hK
    refine hoist [] [] (a1 := ?_) 1 rfl (by kernel_rfl) (.inl ⟨rfl, rfl⟩) rfl rfl rfl (fun x K hK => ?_) ?_
    rotate_left
    ·go_big_quiet_op
     exact hK
    refine hoist [] [] (a1 := ?_) 2 rfl (by kernel_rfl) (.inl ⟨rfl, rfl⟩) rfl rfl rfl (fun x K hK => ?_) ?_
    rotate_left
    ·go_big_quiet_op
     exact hK
    refine hoist_skip [] [] 3 rfl (by kernel_rfl) (.inl ⟨rfl, rfl⟩) rfl (a1 := ?_) ?_ ?_
    rotate_left
    ·simp only [Act.put, List.setIfInBounds_toArray, List.set_cons_succ, List.set_cons_zero]; rfl
    refine hoist_skip [] [] 4 rfl (by kernel_rfl) (.inl ⟨rfl, rfl⟩) rfl (a1 := ?_) ?_ ?_
    rotate_left
    ·simp only [Act.put, List.setIfInBounds_toArray, List.set_cons_succ, List.set_cons_zero]; rfl
    refine hoist_skip [] [] 5 rfl (by kernel_rfl) (.inl ⟨rfl, rfl⟩) rfl (a1 := ?_) ?_ ?_
    rotate_left
    ·simp only [Act.put, List.setIfInBounds_toArray, List.set_cons_succ, List.set_cons_zero]; rfl
    refine hoist_skip [] [] 6 rfl (by kernel_rfl) (.inl ⟨rfl, rfl⟩) rfl (a1 := ?_) ?_ ?_
    rotate_left
    ·simp only [Act.put, List.setIfInBounds_toArray, List.set_cons_succ, List.set_cons_zero]; rfl
    refine hoist_skip [] [] 7 rfl (by kernel_rfl) (.inl ⟨rfl, rfl⟩) rfl (a1 := ?_) ?_ ?_
    rotate_left
    ·simp only [Act.put, List.setIfInBounds_toArray, List.set_cons_succ, List.set_cons_zero]; rfl
    refine hoist_skip [] [] 8 rfl (by kernel_rfl) (.inl ⟨rfl, rfl⟩) rfl (a1 := ?_) ?_ ?_
    rotate_left
    ·simp only [Act.put, List.setIfInBounds_toArray, List.set_cons_succ, List.set_cons_zero]; rfl
    refine hoist_skip [] [] 9 rfl (by kernel_rfl) (.inl ⟨rfl, rfl⟩) rfl (a1 := ?_) ?_ ?_
    rotate_left
    ·simp only [Act.put, List.setIfInBounds_toArray, List.set_cons_succ, List.set_cons_zero]; rfl
    refine hoist_skip [] [] 10 rfl (by kernel_rfl) (.inl ⟨rfl, rfl⟩) rfl (a1 := ?_) ?_ ?_
    rotate_left
    ·simp only [Act.put, List.setIfInBounds_toArray, List.set_cons_succ, List.set_cons_zero]; rfl
    refine hoist_skip [] [] 11 rfl (by kernel_rfl) (.inl ⟨rfl, rfl⟩) rfl (a1 := ?_) ?_ ?_
    rotate_left
    ·simp only [Act.put, List.setIfInBounds_toArray, List.set_cons_succ, List.set_cons_zero]; rfl
    refine hoist_skip [] [] 12 rfl (by kernel_rfl) (.inl ⟨rfl, rfl⟩) rfl (a1 := ?_) ?_ ?_
    rotate_left
    ·simp only [Act.put, List.setIfInBounds_toArray, List.set_cons_succ, List.set_cons_zero]; rfl
    refine hoist_skip [] [] 13 rfl (by kernel_rfl) (.inl ⟨rfl, rfl⟩) rfl (a1 := ?_) ?_ ?_
    rotate_left
    ·simp only [Act.put, List.setIfInBounds_toArray, List.set_cons_succ, List.set_cons_zero]; rfl
    refine hoist_skip [] [] 14 rfl (by kernel_rfl) (.inl ⟨rfl, rfl⟩) rfl (a1 := ?_) ?_ ?_
    rotate_left
    ·simp only [Act.put, List.setIfInBounds_toArray, List.set_cons_succ, List.set_cons_zero]; rfl
    refine hoist_skip [] [] 15 rfl (by kernel_rfl) (.inl ⟨rfl, rfl⟩) rfl (a1 := ?_) ?_ ?_
    rotate_left
    ·simp only [Act.put, List.setIfInBounds_toArray, List.set_cons_succ, List.set_cons_zero]; rfl
    refine hoist_skip [] [] 16 rfl (by kernel_rfl) (.inl ⟨rfl, rfl⟩) rfl (a1 := ?_) ?_ ?_
    rotate_left
    ·simp only [Act.put, List.setIfInBounds_toArray, List.set_cons_succ, List.set_cons_zero]; rfl
    refine hoist_skip [] [] 17 rfl (by kernel_rfl) (.inl ⟨rfl, rfl⟩) rfl (a1 := ?_) ?_ ?_
    rotate_left
    ·simp only [Act.put, List.setIfInBounds_toArray, List.set_cons_succ, List.set_cons_zero]; rfl
    refine hoist_skip [] [] 18 rfl (by kernel_rfl) (.inl ⟨rfl, rfl⟩) rfl (a1 := ?_) ?_ ?_
    rotate_left
    ·simp only [Act.put, List.setIfInBounds_toArray, List.set_cons_succ, List.set_cons_zero]; rfl
    refine hoist_skip [] [] 19 rfl (by kernel_rfl) (.inl ⟨rfl, rfl⟩) rfl (a1 := ?_) ?_ ?_
    rotate_left
    ·simp only [Act.put, List.setIfInBounds_toArray, List.set_cons_succ, List.set_cons_zero]; rfl
    refine hoist [] [] (a1 := ?_) 20 rfl (by kernel_rfl) (.inl ⟨rfl, rfl⟩) rfl rfl rfl (fun x K hK => ?_) ?_
    rotate_left
    ·go_big_quiet_op
     exact hK
    refine done (by kernel_rfl) (fun xr => ?_)
    have hb := xr.bw
    replace He := Lib.hid (He.out.bw hb)
    replace Wc := Lib.hid (Wc.out.bw hb)
    replace Rc := Lib.hid (Rc.out.bw hb)
    replace Kc := Lib.hid (Kc.out.bw hb)
    replace Q := Lib.hid (Q.out.bw hb)
    replace QN := Lib.hid (QN.out.bw hb)
    replace T := Lib.hid (T.out.trans (hb.still [qb]))
    clear hb
    generalize xr.now = w4 at *
    go_wp2_with fail
    go_roundg (n1 - (k + 1))
    case measure => omega
    case rel => exact ⟨k + 1, n, so, co, Ls, hv, rfl, by omega, by first | rfl | (congr 1; omega), rfl, hco, by omega, hAs, Q, QN, He, Wc, Rc, Kc, T⟩
   | some aq =>
    rw [hk2] at hat
    rw [show atI (some aq) = (aq : Nat) from rfl]
    obtain ⟨haM, hget⟩ := get_same hSP.out hk2
    have hlb := hlM.out aq haM
    obtain ⟨gb', ob', hsb, hcb⟩ := Rc.out.b_form rfl (by omega)
    have y0 := hcb aq haM
    rw [← hget] at y0 hlb
    clear hcb hget
    subst hsb
    have hAs := hAs.out
    have d7 : decide ((0 : Int) ≤ (aq : Int)) = true := by simp
    have hsz : (bstr (getN L r)).size = (getN L r).length := bstr_size _
    generalize getN L r = bs at *
    obtain ⟨str, hstr⟩ : ∃ str, bstr bs = str := ⟨_, rfl⟩
    rw [hstr] at y0 hsz
    obtain ⟨n2, hn2⟩ : ∃ n2, bs.length = n2 := ⟨_, rfl⟩
    rw [hn2] at hAs hlb hsz
    rw [hnm] at haM hncb
    replace y0 := Lib.hid y0
    clear hk2
    replace hn2 := Lib.hid hn2
    replace hstr := Lib.hid hstr
    have hAt : isAt L r = true := by rw [hat]; rfl
    clear hat
    by_cases hpay : (n2 : Int) ≤ hv
    ·rw [if_pos ⟨hAt, hpay⟩] at hAs
     clear hAt
     replace hAs := Lib.hid hAs
     go_upto_region 7 with (fail)
     have z4 := (hp_cell He.out 4).trans (show _ = some (.pointer (some ⟨qr, 0, none⟩)) from rfl)
     have z5 := (hp_cell He.out 5).trans (show _ = some (.pointer (some ⟨qb, 0, none⟩)) from rfl)
     have Rc3 := Rc.out.cells
     rw [hnm] at Rc3
     have v3 := (hp_cell Rc3 3).trans (show _ = some (.slice (some ⟨gb', ob', none⟩) nm cb) from rfl)
     have m4 : ∀ y : LaterS [] w3, _ := fun y => y.bw.cell z4
     have m5 : ∀ y : LaterS [] w3, _ := fun y => y.bw.cell z5
     have mv : ∀ y : LaterS [] w3, _ := fun y => y.bw.cell v3
     have my : ∀ y : LaterS [] w3, _ := fun y => y.bw.cell y0.out
     clear z4 z5 v3 Rc3
     refine wp_region_gg ([qb]) [19] [] (by kernel_rfl) ?_
     refine hoist [] [19] (a1 := ?_) 0 rfl (by kernel_rfl) (.inl ⟨rfl, rfl⟩) rfl rfl rfl (fun x K hK => ?_) ?_
     rotate_left
     ·go_big_quiet_op
      exact hK
     refine hoist [] [19] (a1 := ?_) 1 rfl (by kernel_rfl) (.inl ⟨rfl, rfl⟩) rfl rfl rfl (fun x K hK => ?_) ?_
     rotate_left
     ·go_big_quiet_op
      exact hK
     refine hoist [] [19] (a1 := ?_) 2 rfl (by kernel_rfl) (.inl ⟨rfl, rfl⟩) rfl rfl rfl (fun x K hK => ?_) ?_
     rotate_left
     ·go_big_quiet_op
      exact hK
     refine hoist [] [19] (a1 := ?_) 3 rfl (by kernel_rfl) (.inl ⟨rfl, rfl⟩) rfl rfl rfl (fun x K hK => ?_) ?_
     rotate_left
     ·go_big_quiet_op
      exact hK
     refine hoist [] [19] (a1 := ?_) 4 rfl (by kernel_rfl) (.inl ⟨rfl, rfl⟩) rfl rfl rfl (fun x K hK => ?_) ?_
     rotate_left
     ·go_big_quiet_op
      exact hK
     refine hoist [] [19] (a1 := ?_) 5 rfl (by kernel_rfl) (.inl ⟨rfl, rfl⟩) rfl rfl rfl (fun x K hK => ?_) ?_
     rotate_left
     ·go_big_quiet_op
      exact hK
     refine hoist [] [19] (a1 := ?_) 6 rfl (by kernel_rfl) (.inl ⟨rfl, rfl⟩) rfl rfl rfl (fun x K hK => ?_) ?_
     rotate_left
     ·go_big_quiet_op
      exact hK
     refine hoist [] [19] (a1 := ?_) 7 rfl (by kernel_rfl) (.inl ⟨rfl, rfl⟩) rfl rfl rfl (fun x K hK => ?_) ?_
     rotate_left
     ·go_big_quiet_op
      exact hK
     refine hoist [] [19] (a1 := ?_) 8 rfl (by kernel_rfl) (.inl ⟨rfl, rfl⟩) rfl rfl rfl (fun x K hK => ?_) ?_
     rotate_left
     ·go_big_quiet_op
      exact hK
     refine hoist [] [19] (a1 := ?_) 9 rfl (by kernel_rfl) (.inl ⟨rfl, rfl⟩) rfl rfl rfl (fun x K hK => ?_) ?_
     rotate_left
     ·go_big_quiet_op
      exact hK
     refine hoist [] [19] (a1 := ?_) 10 rfl (by kernel_rfl) (.inl ⟨rfl, rfl⟩) rfl rfl rfl (fun x K hK => ?_) ?_
     rotate_left
     ·go_big_quiet_op
      exact hK
     refine hoist [] [19] (a1 := ?_) 11 rfl (by kernel_rfl) (.inl ⟨rfl, rfl⟩) rfl rfl rfl (fun x K hK => ?_) ?_
     rotate_left
     ·go_big_quiet_op
      exact hK
     refine hoist [] [19] (a1 := ?_) 12 rfl (by kernel_rfl) (.inl ⟨rfl, rfl⟩) rfl rfl rfl (fun x K hK => ?_) ?_
     rotate_left
     ·go_big_quiet_op
      exact hK
     refine hoist [] [19] (a1 := ?_) 13 rfl (by kernel_rfl) (.inl ⟨rfl, rfl⟩) rfl rfl rfl (fun x K hK => ?_) ?_
     rotate_left
     ·go_big_quiet_op
      exact hK
     refine hoist [] [19] (a1 := ?_) 14 rfl (by kernel_rfl) (.inl ⟨rfl, rfl⟩) rfl rfl rfl (fun x K hK => ?_) ?_
     rotate_left
     ·go_big_quiet_op
      exact hK
     refine hoist [] [19] (a1 := ?_) 15 rfl (by kernel_rfl) (.inl ⟨rfl, rfl⟩) rfl rfl rfl (fun x K hK => ?_) ?_
     rotate_left
     ·go_big_quiet_op
      exact hK
     refine hoist [] [19] (a1 := ?_) 16 rfl (by kernel_rfl) (.inl ⟨rfl, rfl⟩) rfl rfl rfl (fun x K hK => ?_) ?_
     rotate_left
     ·go_big_quiet_op
      exact hK
     refine hoist [] [19] (a1 := ?_) 17 rfl (by kernel_rfl) (.inl ⟨rfl, rfl⟩) rfl rfl rfl (fun x K hK => ?_) ?_
     rotate_left
     ·go_big_quiet_op
      exact hK
     refine hoist [] [19] (a1 := ?_) 18 rfl (by kernel_rfl) (.inl ⟨rfl, rfl⟩) rfl rfl rfl (fun x K hK => ?_) ?_
     rotate_left
     ·go_big_quiet_op
      exact hK
     refine effect 19 rfl (by kernel_rfl) (by kernel_rfl) rfl (fun x19 K hK => ?_)
     have hb := x19.bw
     have y1 := hb.cell y0.out
     replace He := Lib.hid (He.out.bw hb)
     replace Wc := Lib.hid (Wc.out.bw hb)
     replace Rc := Lib.hid (Rc.out.bw hb)
     replace Kc := Lib.hid (Kc.out.bw hb)
     replace Q := Lib.hid (Q.out.bw hb)
     replace QN := Lib.hid (QN.out.bw hb)
     replace T := Lib.hid (T.out.trans (hb.still [qb]))
     clear hb
     go_simp
     refine Calls.mono (rtake_yes qb rate burst hv (n2 : Int) x19.now Kc.out hpay (by omega) (by have := hh.out.2; omega)) ?_
     rintro e w4 ⟨rfl, rfl⟩
     have T4 := still_sc x19.now qb 2 (.int .u64 (hv - n2))
     refine hK _ _ T4 ?_
     clear hK K m4 m5 mv my y0
     have hne : ∀ {k : Nat} {cs : Array Value} {t : TypeId} {f : Nat × Nat}, x19.now.heap[k]? = some (.cells cs t f) → t ≠ 92 → k ∉ [qb] := fun {k cs t f} hk t1 hm => by
      obtain rfl : k = qb := by simpa using hm
      exact hp_ne hk (show HpB x19.now k (.cells _ _) from Kc.out) t1 rfl
     have y0 := Lib.hid ((T4.cellN y1 (by obtain ⟨cs, hcs⟩ := Rc.out.qb.row gb' rfl; exact hne hcs (by decide))))
     replace He := Lib.hid (He.out.st T4 (hne He.out (by decide)))
     replace Wc := Lib.hid (Wc.out.stT T4 (show HpB x19.now qb (.cells _ _) from Kc.out) (by decide) (by decide))
     replace Rc := Lib.hid (Rc.out.stT T4 (show HpB x19.now qb (.cells _ _) from Kc.out) (by decide) (by decide) (by decide))
     replace Q := Lib.hid (Q.out.still T4 (fun _ _ => trivial) (fun k hk hm => by obtain ⟨cs, hcs⟩ := Q.out.row k hk; exact hne hcs (by decide) hm))
     replace QN := Lib.hid (QN.out.still T4 (fun _ _ => trivial) (fun k hk hm => by obtain ⟨cs, hcs⟩ := QN.out.row k hk; exact hne hcs (by decide) hm))
     replace T := Lib.hid (T.out.trans T4)
     replace Kc := Lib.hid (Kc.out.set (hv - n2))
     clear T4 hne y1
     generalize x19.now.setCell ⟨qb, 2, none⟩ (.int .u64 (hv - n2)) = w4 at *
     try simp only [Act.put, List.setIfInBounds_toArray, List.set_cons_succ, List.set_cons_zero]
     refine hoist [] [19] (a1 := ?_) 20 rfl (by kernel_rfl) (.inl ⟨rfl, rfl⟩) rfl rfl rfl (fun x K hK => ?_) ?_
     rotate_left
     ·go_big_quiet_op
      exact hK
     refine done (by kernel_rfl) (fun xr => ?_)
     have y1 := Lib.hid (xr.bw.cell y0.out)
     have hb := xr.bw
     replace He := Lib.hid (He.out.bw hb)
     replace Wc := Lib.hid (Wc.out.bw hb)
     replace Rc := Lib.hid (Rc.out.bw hb)
     replace Kc := Lib.hid (Kc.out.bw hb)
     replace Q := Lib.hid (Q.out.bw hb)
     replace QN := Lib.hid (QN.out.bw hb)
     replace T := Lib.hid (T.out.trans (hb.still [qb]))
     clear hb
     clear y0
     generalize xr.now = w5 at *
     clear xr
     have y0 := y1.out
     have BC : BW w5 (w5.alloc (.cells #[.string str] 9)) := (BW.refl _).alloc
     have L5 := Lib.hid (Sls.new1 (E := S1) w5 9 [.string str] rfl)
     have z4 := (hp_cell He.out 4).trans (show _ = some (.pointer (some ⟨qr, 0, none⟩)) from rfl)
     have Rc3 := Rc.out.cells
     rw [hnm] at Rc3
     have v3 := (hp_cell Rc3 3).trans (show _ = some (.slice (some ⟨gb', ob', none⟩) nm cb) from rfl)
     have hb := BC
     replace He := Lib.hid (He.out.bw hb)
     replace Wc := Lib.hid (Wc.out.bw hb)
     replace Rc := Lib.hid (Rc.out.bw hb)
     replace Kc := Lib.hid (Kc.out.bw hb)
     replace Q := Lib.hid (Q.out.bw hb)
     replace QN := Lib.hid (QN.out.bw hb)
     replace T := Lib.hid (T.out.trans (hb.still [qb]))
     clear hb
     have S5 := T.out.size
     clear Rc3 y1
     replace BC := Lib.hid BC
     go_upto_region 5 with (at_builtin; go_must (refine wpList_apEQ slStr rfl _ _ rfl w.heap.size (.slice so n co) n Ls rfl Q.out _ rfl 1 [bs] [.string str] L5.out (EL.single (by rw [← hstr.out]; rfl)) rfl (by omega) S5 (fun _ _ => trivial) ?_; intro s6 c6 w6 hc6 hm6 Q6 T7 hb6 G6; unfold maxLen at hm6; replace Q6 := Lib.hid Q6; replace T7 := Lib.hid T7; replace G6 := Lib.hid G6; clear hb6))
     have hne : ∀ {k : Nat} {cs : Array Value} {t : TypeId} {f : Nat × Nat}, (w5.alloc (.cells #[.string str] 9)).heap[k]? = some (.cells cs t f) → t ≠ 9 → k ∉ (Value.slice so n co).ownBlock.toList := fun {k cs t f} hk t1 hm => Q.out.ne hk t1 k (by simpa using hm) rfl
     have N6 := Lib.hid (QN.out.still T7.out (fun _ _ => trivial) (fun k hk hm => by obtain ⟨cs, hcs⟩ := QN.out.row k hk; exact hne hcs (by decide) hm))
     have He6 := Lib.hid (He.out.st T7.out (hne He.out (by decide)))
     have Wc6 := Lib.hid (Wc.out.st T7.out (hne Wc.out.hp (by decide)) (fun k hk => by obtain ⟨cs, hcs⟩ := Wc.out.q.row k hk; exact hne hcs (by decide)))
     have Rc6 := Lib.hid (Rc.out.stA T7.out (hne Rc.out.cells (by decide)) (fun k hk => by obtain ⟨cs, hcs⟩ := Rc.out.qi.row k hk; exact hne hcs (by decide)) (fun k hk hm => by
      have h1 := hbo.out k hk
      have h2 := Q.out.ge' k (by simpa using hm)
      omega))
     have Kc6 : Hid (Rb w6 qb rate burst (hv - n2)) := Lib.hid (HpB.st (o := .cells _ _) Kc.out T7.out (hne Kc.out (by decide)))
     have T8 := Lib.hid (Still.stNew T.out T7.out (fun j hj => Q.out.ge' j (by simpa using hj)))
     clear Q QN He Wc Rc Kc T T7 G6 L5 y0 z4 v3 hne
     go_wp2_with fail
     go_roundg (n1 - (k + 1))
     case measure => omega
     case rel => exact ⟨k + 1, n + 1, s6, c6, _, hv - n2, rfl, by omega, by first | rfl | (congr 1; omega), rfl, by omega, by omega, hAs, Q6, N6, He6, Wc6, Rc6, Kc6, T8⟩
    ·rw [if_neg (fun h => hpay h.2)] at hAs
     clear hAt
     replace hAs := Lib.hid hAs
     go_upto_region 7 with (fail)
     have z4 := (hp_cell He.out 4).trans (show _ = some (.pointer (some ⟨qr, 0, none⟩)) from rfl)
     have z5 := (hp_cell He.out 5).trans (show _ = some (.pointer (some ⟨qb, 0, none⟩)) from rfl)
     have Rc3 := Rc.out.cells
     rw [hnm] at Rc3
     have v3 := (hp_cell Rc3 3).trans (show _ = some (.slice (some ⟨gb', ob', none⟩) nm cb) from rfl)
     have m4 : ∀ y : LaterS [] w3, _ := fun y => y.bw.cell z4
     have m5 : ∀ y : LaterS [] w3, _ := fun y => y.bw.cell z5
     have mv : ∀ y : LaterS [] w3, _ := fun y => y.bw.cell v3
     have my : ∀ y : LaterS [] w3, _ := fun y => y.bw.cell y0.out
     clear z4 z5 v3 Rc3
     refine wp_region_gg [] [] [] (by kernel_rfl) ?_
     refine hoist [] [] (a1 := ?_) 0 rfl (by kernel_rfl) (.inl ⟨rfl, rfl⟩) rfl rfl rfl (fun x K hK => ?_) ?_
     rotate_left
     ·go_big_quiet_op
      exact hK
     refine hoist [] [] (a1 := ?_) 1 rfl (by kernel_rfl) (.inl ⟨rfl, rfl⟩) rfl rfl rfl (fun x K hK => ?_) ?_
     rotate_left
     ·go_big_quiet_op
      exact hK
     refine hoist [] [] (a1 := ?_) 2 rfl (by kernel_rfl) (.inl ⟨rfl, rfl⟩) rfl rfl rfl (fun x K hK => ?_) ?_
     rotate_left
     ·go_big_quiet_op
      exact hK
     refine hoist [] [] (a1 := ?_) 3 rfl (by kernel_rfl) (.inl ⟨rfl, rfl⟩) rfl rfl rfl (fun x K hK => ?_) ?_
     rotate_left
     ·go_big_quiet_op
      exact hK
     refine hoist [] [] (a1 := ?_) 4 rfl (by kernel_rfl) (.inl ⟨rfl, rfl⟩) rfl rfl rfl (fun x K hK => ?_) ?_
     rotate_left
     ·go_big_quiet_op
      exact hK
     refine hoist [] [] (a1 := ?_) 5 rfl (by kernel_rfl) (.inl ⟨rfl, rfl⟩) rfl rfl rfl (fun x K hK => ?_) ?_
     rotate_left
     ·go_big_quiet_op
      exact hK
     refine hoist [] [] (a1 := ?_) 6 rfl (by kernel_rfl) (.inl ⟨rfl, rfl⟩) rfl rfl rfl (fun x K hK => ?_) ?_
     rotate_left
     ·go_big_quiet_op
      exact hK
     refine hoist [] [] (a1 := ?_) 7 rfl (by kernel_rfl) (.inl ⟨rfl, rfl⟩) rfl rfl rfl (fun x K hK => ?_) ?_
     rotate_left
     ·go_big_quiet_op
      exact hK
     refine hoist [] [] (a1 := ?_) 8 rfl (by kernel_rfl) (.inl ⟨rfl, rfl⟩) rfl rfl rfl (fun x K hK => ?_) ?_
     rotate_left
     ·go_big_quiet_op
      exact hK
     refine hoist [] [] (a1 := ?_) 9 rfl (by kernel_rfl) (.inl ⟨rfl, rfl⟩) rfl rfl rfl (fun x K hK => ?_) ?_
     rotate_left
     ·go_big_quiet_op
      exact hK
     refine hoist [] [] (a1 := ?_) 10 rfl (by kernel_rfl) (.inl ⟨rfl, rfl⟩) rfl rfl rfl (fun x K hK => ?_) ?_
     rotate_left
     ·go_big_quiet_op
      exact hK
     refine hoist [] [] (a1 := ?_) 11 rfl (by kernel_rfl) (.inl ⟨rfl, rfl⟩) rfl rfl rfl (fun x K hK => ?_) ?_
     rotate_left
     ·go_big_quiet_op
      exact hK
     refine hoist [] [] (a1 := ?_) 12 rfl (by kernel_rfl) (.inl ⟨rfl, rfl⟩) rfl rfl rfl (fun x K hK => ?_) ?_
     rotate_left
     ·go_big_quiet_op
      exact hK
     refine hoist [] [] (a1 := ?_) 13 rfl (by kernel_rfl) (.inl ⟨rfl, rfl⟩) rfl rfl rfl (fun x K hK => ?_) ?_
     rotate_left
     ·go_big_quiet_op
      exact hK
     refine hoist [] [] (a1 := ?_) 14 rfl (by kernel_rfl) (.inl ⟨rfl, rfl⟩) rfl rfl rfl (fun x K hK => ?_) ?_
     rotate_left
     ·go_big_quiet_op
      exact hK
     refine hoist [] [] (a1 := ?_) 15 rfl (by kernel_rfl) (.inl ⟨rfl, rfl⟩) rfl rfl rfl (fun x K hK => ?_) ?_
     rotate_left
     ·go_big_quiet_op
      exact hK
     refine hoist [] [] (a1 := ?_) 16 rfl (by kernel_rfl) (.inl ⟨rfl, rfl⟩) rfl rfl rfl (fun x K hK => ?_) ?_
     rotate_left
     ·go_big_quiet_op
      exact hK
     refine hoist [] [] (a1 := ?_) 17 rfl (by kernel_rfl) (.inl ⟨rfl, rfl⟩) rfl rfl rfl (fun x K hK => ?_) ?_
     rotate_left
     ·go_big_quiet_op
      exact hK
     refine hoist [] [] (a1 := ?_) 18 rfl (by kernel_rfl) (.inl ⟨rfl, rfl⟩) rfl rfl rfl (fun x K hK => ?_) ?_
     rotate_left
     ·go_big_quiet_op
      exact hK
     refine effect 19 rfl (by kernel_rfl) (by kernel_rfl) rfl (fun x19 K hK => ?_)
     have hb := x19.bw
     replace He := Lib.hid (He.out.bw hb)
     replace Wc := Lib.hid (Wc.out.bw hb)
     replace Rc := Lib.hid (Rc.out.bw hb)
     replace Kc := Lib.hid (Kc.out.bw hb)
     replace Q := Lib.hid (Q.out.bw hb)
     replace QN := Lib.hid (QN.out.bw hb)
     replace T := Lib.hid (T.out.trans (hb.still [qb]))
     clear hb
     go_simp
     refine Calls.mono (rtake_no qb rate burst hv (n2 : Int) x19.now Kc.out (by omega)) ?_
     rintro e w4 ⟨rfl, rfl⟩
     refine hK _ _ ((BW.refl _).still _) ?_
     clear hK K m4 m5 mv my y0
     try simp only [Act.put, List.setIfInBounds_toArray, List.set_cons_succ, List.set_cons_zero]
     refine hoist [] [] (a1 := ?_) 20 rfl (by kernel_rfl) (.inl ⟨rfl, rfl⟩) rfl rfl rfl (fun x K hK => ?_) ?_
     rotate_left
     ·go_big_quiet_op
      exact hK
     refine done (by kernel_rfl) (fun xr => ?_)
     have hb := xr.bw
     replace He := Lib.hid (He.out.bw hb)
     replace Wc := Lib.hid (Wc.out.bw hb)
     replace Rc := Lib.hid (Rc.out.bw hb)
     replace Kc := Lib.hid (Kc.out.bw hb)
     replace Q := Lib.hid (Q.out.bw hb)
     replace QN := Lib.hid (QN.out.bw hb)
     replace T := Lib.hid (T.out.trans (hb.still [qb]))
     clear hb
     generalize xr.now = w5 at *
     clear xr
     go_wp2_with fail
     go_roundg (n1 - (k + 1))
     case measure => omega
     case rel => exact ⟨k + 1, n, so, co, Ls, hv, rfl, by omega, by first | rfl | (congr 1; omega), rfl, hco, by omega, hAs, Q, QN, He, Wc, Rc, Kc, T⟩
  ·obtain rfl : k = n1 := by omega
   have d : decide (((k : Nat) : Int) < (k : Int)) = false := by simp
   have hL1 : Q0.length = k := QN.out.1
   have hP2 : A = (Ls, hv) := by
    rw [← hA, ← hP.out, ← hL1, List.take_length]
   subst hP2
   go_wp2_with fail
   go_ret
   exact ⟨so, n, co, rfl, Q.out, Kc.out, T.out⟩
end Go.Proofs.Ytojedpahaifjgaa
