/- Frames as values and as elements; about, publish, subscribe, and the reference's pub, sub (printed by wip/gen/genOfT.py). No condition but the sizes'. -/
import Derived.Test.YtafhnlnhflehhaaDoorOfQ
import Derived.Test.YtafhnlnhflehhaaDoorSwh
import Derived.Lib.Hide
namespace Go.Proofs.YtafhnlnhflehhaaDoor
open Go.RowKit
structure FrD where
 kind : Int
 seat : Int
 nonce : Nat
 room : Int
 track : Int
 owner : Int
 layer : Int
 srcs : List Nat
def frC (k s : Int) (n : Nat) (r t o l : Int) (sv : Value) : Array Value := #[.int .i64 k, .int .i64 s, .int .u64 (n : Nat), .int .i64 r, .int .i64 t, .int .i64 o, .int .i64 l, sv]
def FrV (w : World) (c : Array Value) (d : FrD) : Prop := ∃ s n cp, c = frC d.kind d.seat d.nonce d.room d.track d.owner d.layer (.slice s n cp) ∧ SQ EU4 w 0 (.slice s n cp) n d.srcs
theorem FrV.bw {w w' : World} {c : Array Value} {d : FrD} (h : FrV w c d) (hb : BW w w') : FrV w' c d := by
 obtain ⟨s, n, cp, e, h1⟩ := h
 exact ⟨s, n, cp, e, h1.bw hb⟩
def NoU (w : World) (k : Nat) : Prop := w.heap.size ≤ k ∨ ∃ cs t f, w.heap[k]? = some (.cells cs t f) ∧ t ≠ 36
theorem NoU.eq {w : World} {base : Nat} {v : Value} {n : Nat} {b : List Nat} (h : EQ EU4 36 w base v n b) {S : List Nat} (hS : ∀ k ∈ S, NoU w k) : ∀ g, v.ownBlock = some g → g ∉ S := fun g hg hm => by
 rcases hS g hm with h1 | ⟨cs, t, f, h1, h2⟩
 ·have := h.lt' g hg; omega
 ·exact h.ne h1 h2 g hg rfl
theorem EQ.noU {α : Type} {E : Elt α} {T : TypeId} {w : World} {base : Nat} {v : Value} {n : Nat} {l : List α} (h : EQ E T w base v n l) (hT : T ≠ 36) : ∀ k ∈ v.ownBlock.toList, NoU w k := fun k hk => by
 obtain ⟨cs, hh⟩ := h.row k (by simpa using hk)
 exact .inr ⟨_, _, _, hh, hT⟩
theorem SQ.u0 {w : World} {b : Nat} {v : Value} {n : Nat} {l : List Nat} (h : SQ EU4 w b v n l) : SQ EU4 w 0 v n l := by
 obtain ⟨h1, xs, h2, h3⟩ := h
 exact ⟨h1, xs, h2, EL.mono (E := EU4) (w := w) (w' := w) (base := b) (base' := 0) (fun _ _ h => h) h3⟩
def SrcR (w0 w : World) (b : Nat) (v : Value) (n : Nat) (l : List Nat) : Prop := SQ EU4 w0 0 v n l ∨ EQ EU4 36 w b v n l
def frR (w0 w : World) (b : Nat) (d : FrD) (c : List Value) : Prop := ∃ (s : Option Addr) (n cp : Nat), c = (frC d.kind d.seat d.nonce d.room d.track d.owner d.layer (.slice s n cp)).toList ∧ SrcR w0 w b (.slice s n cp) n d.srcs
def EFm (w0 : World) : Elt FrD where
 size := 8
 R := frR w0
 Ok := NoU
 pos := by decide
 len := fun ⟨s, n, cp, e, _⟩ => by rw [e]; rfl
 one := fun ⟨s, n, cp, e, _⟩ u hu => by
  rw [e] at hu
  simp only [frC, List.mem_cons, List.not_mem_nil, or_false] at hu
  rcases hu with rfl | rfl | rfl | rfl | rfl | rfl | rfl | rfl <;> rfl
 bw := fun ⟨s, n, cp, e, h⟩ hb => ⟨s, n, cp, e, h.imp_right (fun h => h.bw hb)⟩
 up := fun ⟨s, n, cp, e, h⟩ hb => ⟨s, n, cp, e, h.imp_right (fun h => h.up hb)⟩
 still := fun ⟨s, n, cp, e, h⟩ hs hS => ⟨s, n, cp, e, h.imp_right (fun h => h.still hs (fun _ _ => trivial) (NoU.eq h hS))⟩
 old := fun ⟨s, n, cp, e, h⟩ hs hS => ⟨s, n, cp, e, h.imp_right (fun h => h.old hs hS)⟩
theorem EFm.size {w0 : World} : (EFm w0).size = 8 := rfl
theorem frR.v {w0 w : World} {b : Nat} {d : FrD} {c : List Value} (h : frR w0 w b d c) (hb : BW w0 w) : FrV w c.toArray d := by
 obtain ⟨s, n, cp, e, h⟩ := h
 refine ⟨s, n, cp, by rw [e], ?_⟩
 rcases h with h | h
 ·exact h.bw hb
 ·exact h.sq.u0
theorem SrcR.nil (w0 w : World) (b : Nat) : SrcR w0 w b (.slice none 0 0) 0 [] := .inr (EQ.nil _ _ _ _)
theorem swHe : SwT 41 3 := ⟨⟨_, Tryd.underlying41, rfl, rfl⟩, by kernel_rfl⟩
theorem swFr : SwT 43 8 := ⟨⟨_, Tryd.underlying43, rfl, rfl⟩, by kernel_rfl⟩
theorem slFr : SlTy Tryd.prog 29 43 8 80 := SlTy.mk' Tryd.underlying29 (by kernel_rfl) (by decide)
theorem hp_new2 (w : World) (o o2 : Obj) : HpB ((w.alloc o).alloc o2) (w.heap.size + 1) o2 := by
 have := HpB.new (w.alloc o) o2
 rwa [show (w.alloc o).heap.size = w.heap.size + 1 from by simp] at this
abbrev heC (x : HearD) : Array Value := #[.int .i64 x.o, .int .i64 x.t, .int .i64 x.l]
abbrev frZ : Array Value := frC 0 0 0 0 0 0 0 (.slice none 0 0)
def frN (k s t o l : Int) : Array Value := frC k s 0 0 t o l (.slice none 0 0)
set_option maxRecDepth 100000 in
set_option maxHeartbeats 8000000 in
theorem about_any (kd st ly : Int) (x : HearD) (w : World) :
  Calls Tryd.prog 27 #[.int .i64 kd, .int .i64 st, .agg (heC x), .int .i64 ly] w fun e w' => e = .returned (.agg (frN kd st x.t x.o ly)) ∧ BW w w' := by
 obtain ⟨xo, xt, xl⟩ := x
 unfold frN frC heC
 dsimp only
 have B := ((BW.refl w).alloc (o := .cells #[.int .i64 xo, .int .i64 xt, .int .i64 xl] 41)).alloc (o := .cells frZ 43)
 have P1 := Lib.hid ((HpB.new w (.cells #[.int .i64 xo, .int .i64 xt, .int .i64 xl] 41)).bw ((BW.refl _).alloc (o := .cells frZ 43)))
 have P2 : Hid (HpB ((w.alloc (.cells #[.int .i64 xo, .int .i64 xt, .int .i64 xl] 41)).alloc (.cells frZ 43)) (w.heap.size + 1) (.cells frZ 43)) := hp_new2 ..
 have hg2 : w.heap.size ≤ w.heap.size + 1 := Nat.le_succ _
 unfold frZ frC at *
 replace B := Lib.hid B
 replace hg2 := Lib.hid hg2
 go_enter Tryd.func27, Tryd.ntmps27
 go_upto_region 1 with (fail)
 generalize (w.alloc _).alloc _ = w1 at *
 generalize w.heap.size + 1 = g2 at *
 generalize hg1 : w.heap.size = g1 at *
 have z0 := hp_cell (P1.out) 0
 have z1 := hp_cell (P1.out) 1
 have z2 := hp_cell (P1.out) 2
 simp only [List.getElem?_toArray, List.getElem?_cons_zero, List.getElem?_cons_succ] at z0 z1 z2
 go_wp2_with (refine swSt swFr rfl rfl rfl rfl P2.out rfl rfl (by kernel_rfl) ?_)
 exact bodyPost_ret (results_cell_row (p := 8) rfl _ _ g2 _ _ _ _ rfl (setRow_get _ _ _ _ _ _ P2.out) Tryd.underlying43 rfl (by kernel_rfl)) rfl ⟨rfl, B.out.stP (still_rowS _ _ _) (fun k hk => by obtain rfl : k = g2 := (by simpa using hk); rw [hg1]; exact hg2.out)⟩
set_option maxRecDepth 100000 in
set_option maxHeartbeats 8000000 in
theorem clu32 (base n c : Nat) (sa : Option Addr) (l : List Nat) (w : World) (h : SQ EU4 w base (.slice sa n c) n l) (hn : n ≤ 1000000) :
  Calls Tryd.prog 26 #[.slice sa n c] w fun e w' => ∃ s' c', e = .returned (.slice s' n c') ∧ EQ EU4 36 w' w.heap.size (.slice s' n c') n l ∧ BW w w' := by
 cases sa with
 | none =>
  have hn0 : n = 0 := by
   by_cases h0 : n = 0
   ·exact h0
   ·obtain ⟨g, o, cap, e, -⟩ := h.form (by omega)
    cases e
  subst hn0
  have hl : l = [] := List.eq_nil_of_length_eq_zero h.1
  have hc : c = 0 := by
   obtain ⟨-, xs, ⟨-, -, ⟨-, sa', cp', e, k, -⟩ | ⟨b, o, cap, e, -⟩⟩, -⟩ := h
   ·cases e; exact k rfl
   ·cases e
  subst hl hc
  have heq := fun (w : World) => Lib.run_eql_slice_nil (P := Tryd.prog) w 37 36 none 0 0 0 0 Tryd.underlying37
  clear h
  go_enter Tryd.func26, Tryd.ntmps26
  go_wp2_with fail
  go_ret
  exact ⟨_, _, rfl, EQ.nil _ _ _ _, BW.refl _⟩
 | some ad =>
  have heq := fun (w : World) => Lib.run_eql_slice_nil (P := Tryd.prog) w 37 36 (some ad) n c 0 0 Tryd.underlying37
  obtain ⟨_, _, he, hnc, hcm⟩ := h.len
  cases he
  unfold maxLen at hcm
  obtain ⟨hl, xs, hS, hE⟩ := h
  have V1 := Lib.hid (hS.bw (b := w.alloc (.cells #[] 36)) (BW.refl w).alloc)
  have hE1 : Hid (EL EU4 (w.alloc (.cells #[] 36)) w.heap.size l xs) := Lib.hid (EL.mono (w := w) (base := base) (w' := w.alloc (.cells #[] 36)) (base' := w.heap.size) (fun _ _ k => k) hE)
  have O1 : Hid (EQ EU4 36 (w.alloc (.cells #[] 36)) w.heap.size (.slice (some ⟨w.heap.size, 0, none⟩) 0 0) 0 []) := Lib.hid ⟨rfl, [], Ows.new w w.heap.size 36 _ #[] [] 0 (Nat.le_refl _) (by simp) (by decide) rfl, rfl⟩
  have B1 := Lib.hid (show BW w (w.alloc (.cells #[] 36)) from (BW.refl w).alloc)
  have hz1 := Lib.hid B1.out.size
  clear hS hE
  replace hl := Lib.hid hl
  go_enter Tryd.func26, Tryd.ntmps26
  go_wp2_with (at_builtin; go_must (refine wpList_apEQ slU4 rfl _ _ rfl w.heap.size _ 0 [] rfl O1.out _ rfl n l xs V1.out hE1.out hl.out (by omega) hz1.out (fun _ _ => trivial) ?_; intro s4 c4 w4 hc4 hm4 O4 T4 B4 G4; simp only [Nat.zero_add, List.nil_append] at O4; replace O4 := Lib.hid O4; replace B4 := Lib.hid (show BW w w4 from (B1.out.up (Nat.le_refl _)).trans B4); clear T4 G4))
  go_ret
  exact ⟨_, _, by simp only [Nat.zero_add]; rfl, O4.out, B4.out⟩
abbrev wiC (t c : Int) (s : Option Addr) (n cp : Nat) : Array Value := #[.int .i64 t, .int .i64 c, .slice s n cp]
set_option maxRecDepth 100000 in
set_option maxHeartbeats 8000000 in
theorem pub_any (st t c : Int) (s : Option Addr) (n cp : Nat) (w : World) :
  Calls Tryd.prog 16 #[.int .i64 st, .agg (wiC t c s n cp)] w fun e w' => e = .returned (.agg (frC 3 st 0 0 t 0 c (.slice s n cp))) ∧ BW w w' := by
 unfold wiC
 have B := ((BW.refl w).alloc (o := .cells #[.int .i64 t, .int .i64 c, .slice s n cp] 39)).alloc (o := .cells frZ 43)
 have P1 := Lib.hid ((HpB.new w (.cells #[.int .i64 t, .int .i64 c, .slice s n cp] 39)).bw ((BW.refl _).alloc (o := .cells frZ 43)))
 have P2 : Hid (HpB ((w.alloc (.cells #[.int .i64 t, .int .i64 c, .slice s n cp] 39)).alloc (.cells frZ 43)) (w.heap.size + 1) (.cells frZ 43)) := hp_new2 ..
 have hg2 : w.heap.size ≤ w.heap.size + 1 := Nat.le_succ _
 unfold frZ at *
 unfold frC at *
 replace B := Lib.hid B
 replace hg2 := Lib.hid hg2
 go_enter Tryd.func16, Tryd.ntmps16
 go_upto_region 1 with (fail)
 generalize (w.alloc _).alloc _ = w1 at *
 generalize w.heap.size + 1 = g2 at *
 generalize hg1 : w.heap.size = g1 at *
 have z0 := hp_cell (P1.out) 0
 have z1 := hp_cell (P1.out) 1
 have z2 := hp_cell (P1.out) 2
 simp only [List.getElem?_toArray, List.getElem?_cons_zero, List.getElem?_cons_succ] at z0 z1 z2
 go_wp2_with (refine swSt swFr rfl rfl rfl rfl P2.out rfl rfl (by kernel_rfl) ?_)
 exact bodyPost_ret (results_cell_row (p := 4) rfl _ _ g2 _ _ _ _ rfl (setRow_get _ _ _ _ _ _ P2.out) Tryd.underlying43 rfl (by kernel_rfl)) rfl ⟨rfl, B.out.stP (still_rowS _ _ _) (fun k hk => by obtain rfl : k = g2 := (by simpa using hk); rw [hg1]; exact hg2.out)⟩
set_option maxRecDepth 100000 in
set_option maxHeartbeats 8000000 in
theorem publish_any (st t c : Int) (s : Option Addr) (n cp : Nat) (l : List Nat) (w : World) (h : SQ EU4 w 0 (.slice s n cp) n l) (hn : n ≤ 1000000) :
  Calls Tryd.prog 12 #[.int .i64 st, .agg (wiC t c s n cp)] w fun e w' => ∃ s' c', e = .returned (.agg (frC 3 st 0 0 t 0 c (.slice s' n c'))) ∧ EQ EU4 36 w' w.heap.size (.slice s' n c') n l ∧ BW w w' := by
 unfold wiC
 have B := ((BW.refl w).alloc (o := .cells #[.int .i64 t, .int .i64 c, .slice s n cp] 39)).alloc (o := .cells frZ 43)
 have P1 := Lib.hid ((HpB.new w (.cells #[.int .i64 t, .int .i64 c, .slice s n cp] 39)).bw ((BW.refl _).alloc (o := .cells frZ 43)))
 have P2 : Hid (HpB ((w.alloc (.cells #[.int .i64 t, .int .i64 c, .slice s n cp] 39)).alloc (.cells frZ 43)) (w.heap.size + 1) (.cells frZ 43)) := hp_new2 ..
 have hg2 : w.heap.size ≤ w.heap.size + 1 := Nat.le_succ _
 unfold frZ at *
 have cC := fun wx (hb : BW w wx) => clu32 0 n cp s l wx (h.bw hb) hn
 clear h
 unfold frC at *
 replace B := Lib.hid B
 replace hg2 := Lib.hid hg2
 replace cC := Lib.hid cC
 go_enter Tryd.func12, Tryd.ntmps12
 go_upto_region 1 with (fail)
 generalize (w.alloc _).alloc _ = w1 at *
 generalize w.heap.size + 1 = g2 at *
 generalize hg1 : w.heap.size = g1 at *
 have m0 : ∀ y : LaterS [] w1, _ := fun y => y.bw.cell ((hp_cell P1.out 0).trans (show _ = some (.int .i64 t) from rfl))
 have m1 : ∀ y : LaterS [] w1, _ := fun y => y.bw.cell ((hp_cell P1.out 1).trans (show _ = some (.int .i64 c) from rfl))
 have m2 : ∀ y : LaterS [] w1, _ := fun y => y.bw.cell ((hp_cell P1.out 2).trans (show _ = some (.slice s n cp) from rfl))
 refine wp_region_gg [] [] [8] (by kernel_rfl) ?_
 refine hoist [] [] (a1 := ?_) 0 rfl (by kernel_rfl) (.inl ⟨rfl, rfl⟩) rfl rfl rfl (fun x K hK => ?_) ?_
 rotate_left
 ·go_big_quiet_op
  exact hK
 refine hoist [] [] (a1 := ?_) 1 rfl (by kernel_rfl) (.inl ⟨rfl, rfl⟩) rfl rfl rfl (fun x K hK => ?_) ?_
 rotate_left
 ·go_big_quiet_op
  exact hK
 refine hoist [] [] (a1 := ?_) 2 rfl (by kernel_rfl) (.inl ⟨rfl, rfl⟩) rfl rfl rfl (fun x K hK => ?_) ?_
 rotate_left
 ·go_big_quiet_op
  exact hK
 refine hoist [] [] (a1 := ?_) 3 rfl (by kernel_rfl) (.inl ⟨rfl, rfl⟩) rfl rfl rfl (fun x K hK => ?_) ?_
 rotate_left
 ·go_big_quiet_op
  exact hK
 refine hoist [] [] (a1 := ?_) 4 rfl (by kernel_rfl) (.inl ⟨rfl, rfl⟩) rfl rfl rfl (fun x K hK => ?_) ?_
 rotate_left
 ·go_big_quiet_op
  exact hK
 refine hoist [] [] (a1 := ?_) 5 rfl (by kernel_rfl) (.inl ⟨rfl, rfl⟩) rfl rfl rfl (fun x K hK => ?_) ?_
 rotate_left
 ·go_big_quiet_op
  exact hK
 refine hoist [] [] (a1 := ?_) 6 rfl (by kernel_rfl) (.inl ⟨rfl, rfl⟩) rfl rfl rfl (fun x K hK => ?_) ?_
 rotate_left
 ·go_big_quiet_op
  exact hK
 refine effect 7 rfl (by kernel_rfl) (by kernel_rfl) rfl (fun x7 K hK => ?_)
 go_simp
 refine Calls.mono (cC.out x7.now (B.out.trans x7.bw)) ?_
 rintro e w2 ⟨s', c', rfl, hq, hb⟩
 refine hK _ _ (hb.still []) ?_
 clear hK K m0 m1 m2
 have Q2 := Lib.hid (hq.up (base' := g1) (by rw [← hg1]; exact (B.out.trans x7.bw).size))
 replace B := Lib.hid (B.out.trans (x7.bw.trans hb))
 replace P2 := Lib.hid (P2.out.bw (x7.bw.trans hb))
 clear hb hq
 try simp only [Act.put, List.setIfInBounds_toArray, List.set_cons_succ, List.set_cons_zero]
 refine tail 8 rfl (by kernel_rfl) rfl (fun xr => ?_)
 simp only [List.drop_succ_cons, List.drop_zero]
 replace Q2 := Lib.hid (Q2.out.bw xr.bw)
 replace B := Lib.hid (B.out.trans xr.bw)
 replace P2 := Lib.hid (P2.out.bw xr.bw)
 generalize xr.now = w5 at *
 go_wp2_with (refine swSt swFr rfl rfl rfl rfl P2.out rfl rfl (by kernel_rfl) ?_)
 exact bodyPost_ret (results_cell_row (p := 4) rfl _ _ g2 _ _ _ _ rfl (setRow_get _ _ _ _ _ _ P2.out) Tryd.underlying43 rfl (by kernel_rfl)) rfl ⟨_, _, rfl, by rw [hg1]; exact Q2.out.still (still_rowS _ _ _) (fun _ _ => trivial) (fun k hk hm => by
  obtain rfl : k = g2 := (by simpa using hm)
  exact Q2.out.ne P2.out (by decide) _ hk rfl), B.out.stP (still_rowS _ _ _) (fun k hk => by obtain rfl : k = g2 := (by simpa using hk); rw [hg1]; exact hg2.out)⟩
def frS (k st t o l : Int) : FrD := ⟨k, st, 0, 0, t, o, l, []⟩
def subL (st : Int) (x : HearD) (p : Bool) : List FrD := frS 5 st x.t x.o (-1) :: (if p then [frS 7 st x.t x.o x.l] else [])
theorem frR.s (w0 w : World) (b : Nat) (k st t o l : Int) : (EFm w0).R w b (frS k st t o l) (frN k st t o l).toList := ⟨none, 0, 0, rfl, SrcR.nil w0 w b⟩
set_option maxRecDepth 100000 in
set_option maxHeartbeats 8000000 in
theorem subscribe_any (w0 : World) (st : Int) (x : HearD) (p : Bool) (hp : (x.l != -1) = p) (w : World) :
  Calls Tryd.prog 13 #[.int .i64 st, .agg (heC x)] w fun e w' => ∃ s n cp, e = .returned (.slice s n cp) ∧ n ≤ 2 ∧ EQ (EFm w0) 43 w' w.heap.size (.slice s n cp) n (subL st x p) ∧ BW w w' := by
 obtain ⟨xo, xt, xl⟩ := x
 unfold heC
 dsimp only at hp ⊢
 have B := (BW.refl w).alloc (o := .cells #[.int .i64 xo, .int .i64 xt, .int .i64 xl] 41)
 have P1 := HpB.new w (.cells #[.int .i64 xo, .int .i64 xt, .int .i64 xl] 41)
 obtain ⟨base, hbase⟩ : ∃ b, w.heap.size = b := ⟨_, rfl⟩
 have hb0 := Lib.hid hbase
 rw [hbase]
 clear hbase
 replace B := Lib.hid B
 replace P1 := Lib.hid P1
 go_enter Tryd.func13, Tryd.ntmps13
 go_upto_region 1 with (fail)
 generalize w.alloc _ = w1 at *
 generalize hg1 : w.heap.size = g1 at *
 have hbb : Hid (w.heap.size = base) := Lib.hid (hg1.trans hb0.out)
 clear hg1 hb0
 have z2 := (hp_cell P1.out 2).trans (show _ = some (.int .i64 xl) from rfl)
 go_wp2_with (refine swLd swHe rfl rfl rfl P1.out rfl ?_)
 refine Calls.mono (about_any 5 st (-1) ⟨xo, xt, xl⟩ w1) ?_
 rintro e w2 ⟨rfl, hb⟩
 replace B := Lib.hid (B.out.trans hb)
 replace P1 := Lib.hid (P1.out.bw hb)
 clear hb z2
 have hz : Hid (base ≤ w2.heap.size) := Lib.hid (by rw [← hbb.out]; exact B.out.size)
 have Q := Lib.hid (EQ.new1 (E := EFm w0) w2 43 base (frS 5 st xt xo (-1)) (frN 5 st xt xo (-1)).toList (frR.s w0 _ base 5 st xt xo (-1)) hz.out)
 have hb := (BW.refl w2).alloc (o := .cells (frN 5 st xt xo (-1)).toList.toArray 43)
 unfold frN frC at Q hb
 unfold frN frC
 dsimp only
 replace B := Lib.hid (B.out.trans hb)
 replace P1 := Lib.hid (P1.out.bw hb)
 clear hb hz
 go_upto_region 2 with (fail)
 generalize w2.alloc _ = w3 at *
 generalize w2.heap.size = g3 at *
 have z2 := (hp_cell P1.out 2).trans (show _ = some (.int .i64 xl) from rfl)
 cases p with
 | true =>
  go_wp2_with (refine swLd swHe rfl rfl rfl P1.out rfl ?_)
  refine Calls.mono (about_any 7 st xl ⟨xo, xt, xl⟩ w3) ?_
  rintro e w4 ⟨rfl, hb⟩
  replace B := Lib.hid (B.out.trans hb)
  replace Q := Lib.hid (Q.out.bw hb)
  clear hb z2 hp
  have L := Sls.new1 (E := EFm w0) w4 43 (frN 7 st xt xo xl).toList rfl
  have hb := (BW.refl w4).alloc (o := .cells (frN 7 st xt xo xl).toList.toArray 43)
  replace B := Lib.hid (B.out.trans hb)
  replace Q := Lib.hid (Q.out.bw hb)
  have hz : Hid (base ≤ (w4.alloc (.cells (frN 7 st xt xo xl).toList.toArray 43)).heap.size) := Lib.hid (by rw [← hbb.out]; exact B.out.size)
  clear hb
  unfold frN frC at L B Q hz
  unfold frN frC
  replace L := Lib.hid L
  dsimp only
  go_upto_region 4 with (at_builtin; go_must (refine wpList_apEQ slFr rfl _ _ rfl base _ 1 _ rfl Q.out _ rfl 1 [frS 7 st xt xo xl] _ L.out (EL.single (frR.s w0 _ base 7 st xt xo xl)) rfl (by omega) hz.out (Q.out.noU (by decide)) ?_; intro s7 c7 w7 hc7 hm7 E7 T7 B7 G7; unfold maxLen at hm7; replace E7 := Lib.hid E7; replace T7 := Lib.hid T7; replace B := Lib.hid (B.out.step B7 (Nat.le_of_eq hbb.out)); clear B7 G7 hz L))
  try simp only [Act.put, List.setIfInBounds_toArray, List.set_cons_succ, List.set_cons_zero]
  go_wp2_with fail
  go_ret
  exact ⟨_, _, _, rfl, by decide, E7.out, B.out⟩
 | false =>
  go_wp2_with fail
  go_ret
  exact ⟨_, _, _, rfl, by decide, Q.out, B.out⟩
set_option maxRecDepth 100000 in
set_option maxHeartbeats 8000000 in
theorem sub_any (w0 : World) (st : Int) (x : HearD) (p : Bool) (hp : decide (0 ≤ x.l) = p) (w : World) :
  Calls Tryd.prog 17 #[.int .i64 st, .agg (heC x)] w fun e w' => ∃ s n cp, e = .returned (.slice s n cp) ∧ n ≤ 2 ∧ EQ (EFm w0) 43 w' w.heap.size (.slice s n cp) n (subL st x p) ∧ BW w w' := by
 obtain ⟨xo, xt, xl⟩ := x
 unfold heC
 dsimp only at hp ⊢
 have B := (BW.refl w).alloc (o := .cells #[.int .i64 xo, .int .i64 xt, .int .i64 xl] 41)
 have P1 := HpB.new w (.cells #[.int .i64 xo, .int .i64 xt, .int .i64 xl] 41)
 obtain ⟨base, hbase⟩ : ∃ b, w.heap.size = b := ⟨_, rfl⟩
 have hb0 := Lib.hid hbase
 rw [hbase]
 clear hbase
 replace B := Lib.hid B
 replace P1 := Lib.hid P1
 go_enter Tryd.func17, Tryd.ntmps17
 go_upto_region 1 with (fail)
 generalize w.alloc _ = w2 at *
 generalize hg1 : w.heap.size = g1 at *
 have hbb : Hid (w.heap.size = base) := Lib.hid (hg1.trans hb0.out)
 clear hg1 hb0
 have z0 := hp_cell (P1.out) 0
 have z1 := hp_cell (P1.out) 1
 have z2 := hp_cell (P1.out) 2
 simp only [List.getElem?_toArray, List.getElem?_cons_zero, List.getElem?_cons_succ] at z0 z1 z2
 have hz : Hid (base ≤ w2.heap.size) := Lib.hid (by rw [← hbb.out]; exact B.out.size)
 have Q := Lib.hid (EQ.new1 (E := EFm w0) w2 43 base (frS 5 st xt xo (-1)) (frN 5 st xt xo (-1)).toList (frR.s w0 _ base 5 st xt xo (-1)) hz.out)
 have hb := (BW.refl w2).alloc (o := .cells (frN 5 st xt xo (-1)).toList.toArray 43)
 unfold frN frC at Q hb
 replace B := Lib.hid (B.out.trans hb)
 replace P1 := Lib.hid (P1.out.bw hb)
 clear hb hz
 go_upto_region 2 with (fail)
 generalize w2.alloc _ = w3 at *
 generalize w2.heap.size = g3 at *
 clear z0 z1 z2
 have z0 := hp_cell (P1.out) 0
 have z1 := hp_cell (P1.out) 1
 have z2 := hp_cell (P1.out) 2
 simp only [List.getElem?_toArray, List.getElem?_cons_zero, List.getElem?_cons_succ] at z0 z1 z2
 cases p with
 | true =>
  go_upto_region 3 with (fail)
  have L := Sls.new1 (E := EFm w0) w3 43 (frN 7 st xt xo xl).toList rfl
  have hb := (BW.refl w3).alloc (o := .cells (frN 7 st xt xo xl).toList.toArray 43)
  replace B := Lib.hid (B.out.trans hb)
  replace Q := Lib.hid (Q.out.bw hb)
  have hz : Hid (base ≤ (w3.alloc (.cells (frN 7 st xt xo xl).toList.toArray 43)).heap.size) := Lib.hid (by rw [← hbb.out]; exact B.out.size)
  clear hb
  unfold frN frC at L B Q hz
  replace L := Lib.hid L
  go_upto_region 4 with (at_builtin; go_must (refine wpList_apEQ slFr rfl _ _ rfl base _ 1 _ rfl Q.out _ rfl 1 [frS 7 st xt xo xl] _ L.out (EL.single (frR.s w0 _ base 7 st xt xo xl)) rfl (by omega) hz.out (Q.out.noU (by decide)) ?_; intro s7 c7 w7 hc7 hm7 E7 T7 B7 G7; unfold maxLen at hm7; replace E7 := Lib.hid E7; replace T7 := Lib.hid T7; replace B := Lib.hid (B.out.step B7 (Nat.le_of_eq hbb.out)); clear B7 G7 hz L))
  try simp only [Act.put, List.setIfInBounds_toArray, List.set_cons_succ, List.set_cons_zero]
  go_wp2_with fail
  go_ret
  exact ⟨_, _, _, rfl, by decide, E7.out, B.out⟩
 | false =>
  go_wp2_with fail
  go_ret
  exact ⟨_, _, _, rfl, by decide, Q.out, B.out⟩
end Go.Proofs.YtafhnlnhflehhaaDoor
