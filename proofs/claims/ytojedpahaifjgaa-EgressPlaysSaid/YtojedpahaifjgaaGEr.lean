/- An egress and the reference's: what the law asks of both at each op, over their whole states; are two packets the same? No condition but the numbers' bounds. What the law EgressPlays needs of plain data: both states side by side, its arguments. No condition. -/
import Derived.Test.YtojedpahaifjgaaGEq
import Derived.Test.YtojedpahaifjgaaStr
namespace Go.Proofs.Ytojedpahaifjgaa
open Go.RowKit
theorem EsI.up {w : World} {base base' g gc gr gb : Nat} {fk fp : FuncId} {src many wanted goes first : Int} {W : Wr} {pk by_ : Int} {v : Value} {L : PL} {rate burst hav : Int} (h : EsI w base g gc gr gb fk fp src many wanted goes first W pk by_ v L rate burst hav) (hb : base' ≤ base) : EsI w base' g gc gr gb fk fp src many wanted goes first W pk by_ v L rate burst hav :=
 ⟨h.hp, h.ch, ⟨h.rg.cells, h.rg.q.up hb⟩, h.bk⟩
def RTy (t : TypeId) : Prop := t = 86 ∨ t = 102 ∨ t = 129 ∨ t = 51 ∨ t = 99 ∨ t = 2 ∨ t = 9 ∨ t = 92
def PTy (t : TypeId) : Prop := t = 57 ∨ t = 112 ∨ t = 140 ∨ t = 158 ∨ t = 142
def AllT (φ : TypeId → Prop) (w : World) (S : List Nat) : Prop := ∀ k ∈ S, ∃ cs t f, w.heap[k]? = some (.cells cs t f) ∧ φ t
theorem AllT.cons {φ : TypeId → Prop} {w : World} {S : List Nat} {k : Nat} {cs : Array Value} {t : TypeId} (hk : HpB w k (.cells cs t)) (ht : φ t) (h : AllT φ w S) : AllT φ w (k :: S) := fun j hj => by
 rcases List.mem_cons.1 hj with rfl | hj
 ·exact ⟨_, _, _, hk, ht⟩
 ·exact h j hj
theorem AllT.nil {φ : TypeId → Prop} {w : World} : AllT φ w [] := fun j hj => by cases hj
theorem AllT.own {α : Type} {E : Elt α} {T : TypeId} {φ : TypeId → Prop} {w : World} {base : Nat} {v : Value} {n : Nat} {l : List α} (h : EQ E T w base v n l) (ht : φ T) : AllT φ w v.ownBlock.toList := fun j hj => by
 obtain ⟨cs, e⟩ := h.row j (by simpa using hj)
 exact ⟨_, _, _, e, ht⟩
theorem AllT.app {φ : TypeId → Prop} {w : World} {S S' : List Nat} (h : AllT φ w S) (h' : AllT φ w S') : AllT φ w (S ++ S') := fun j hj => by
 rcases List.mem_append.1 hj with hj | hj
 ·exact h j hj
 ·exact h' j hj
theorem AllT.nin {φ : TypeId → Prop} {w : World} {S : List Nat} (h : AllT φ w S) {k : Nat} {cs : Array Value} {t : TypeId} {f : Nat × Nat} (hk : w.heap[k]? = some (.cells cs t f)) (ht : ¬ φ t) : k ∉ S := fun hm => by
 obtain ⟨cs', t', f', e, h'⟩ := h k hm
 rw [hk] at e
 cases e
 exact ht h'
theorem EsI.stR {w w' : World} {base g gc gr gb : Nat} {fk fp : FuncId} {src many wanted goes first : Int} {W : Wr} {pk by_ : Int} {v : Value} {L : PL} {rate burst hav : Int} (h : EsI w base g gc gr gb fk fp src many wanted goes first W pk by_ v L rate burst hav) {S : List Nat} (hs : Still S w w') (hS : AllT RTy w S) : EsI w' base g gc gr gb fk fp src many wanted goes first W pk by_ v L rate burst hav :=
 h.st hs (fun k hk => by
  obtain ⟨cs, t, f, e, ht⟩ := hS k hk
  exact .inr ⟨_, _, _, e, by rintro rfl; revert ht; unfold RTy; decide⟩) (hS.nin h.hp (by unfold RTy; decide)) (hS.nin h.ch (by unfold RTy; decide)) (hS.nin h.rg.cells (by unfold RTy; decide)) (hS.nin h.bk (by unfold RTy; decide)) (fun k hk => by
  obtain ⟨cs, e⟩ := h.rg.q.row k hk
  exact hS.nin e (by unfold RTy; decide))
theorem R28.bw {w w' : World} {base q qc qw qr qb : Nat} {src c many wanted goes first : Int} {fol : Bool} {a b : Mpd} {v : Value} {L : List Mpd} {pk by_ : Int} {vi vb : Value} {M : PL} {rate burst hav : Int} (h : R28 w base q qc qw qr qb src c many wanted goes first fol a b v L pk by_ vi vb M rate burst hav) (hb : BW w w') : R28 w' base q qc qw qr qb src c many wanted goes first fol a b v L pk by_ vi vb M rate burst hav :=
 ⟨h.hp.bw hb, h.ch.bw hb, h.wr.bw hb, h.rg.bw hb, h.bk.bw hb⟩
theorem R28.stP {w w' : World} {base q qc qw qr qb : Nat} {src c many wanted goes first : Int} {fol : Bool} {a b : Mpd} {v : Value} {L : List Mpd} {pk by_ : Int} {vi vb : Value} {M : PL} {rate burst hav : Int} (h : R28 w base q qc qw qr qb src c many wanted goes first fol a b v L pk by_ vi vb M rate burst hav) {S : List Nat} (hs : Still S w w') (hS : AllT PTy w S) : R28 w' base q qc qw qr qb src c many wanted goes first fol a b v L pk by_ vi vb M rate burst hav :=
 ⟨h.hp.st hs (hS.nin h.hp (by unfold PTy; decide)), h.ch.st hs (hS.nin h.ch (by unfold PTy; decide)), h.wr.st hs (hS.nin h.wr.hp (by unfold PTy; decide)) (fun k hk => by obtain ⟨cs, e⟩ := h.wr.q.row k hk; exact hS.nin e (by unfold PTy; decide)), h.rg.stA hs (hS.nin h.rg.cells (by unfold PTy; decide)) (fun k hk => by obtain ⟨cs, e⟩ := h.rg.qi.row k hk; exact hS.nin e (by unfold PTy; decide)) (fun k hk => by obtain ⟨cs, e⟩ := h.rg.qb.row k hk; exact hS.nin e (by unfold PTy; decide)), HpB.st (o := .cells _ _) h.bk hs (hS.nin h.bk (by unfold PTy; decide))⟩
set_option maxRecDepth 100000 in
set_option maxHeartbeats 8000000 in
theorem keep_x (base g gc gr gb : Nat) (fk fp : FuncId) (src many wanted goes first : Int) (W : Wr) (pk by_ : Int) (v : Value) (L : PL) (rate burst hav x : Int) (bv : Value) (b : List Nat) (w : World) (h : EsI w base g gc gr gb fk fp src many wanted goes first W pk by_ v L rate burst hav) (hbase : base ≤ w.heap.size) (hs : Srt L) (hn : L.length ≤ 100000) (hl : lensL L ≤ 100000000)
  (hv : SB w bv b.length b) (hbn : b.length ≤ 100000) (p0 : 1 ≤ pk) (p1 : pk ≤ 9223372036854775807) (y0 : 0 ≤ by_) (y1 : by_ ≤ 9223372036854775807) :
  Calls Try.prog 15 #[.pointer (some ⟨g, 0, none⟩), .int .i64 x, bv] w fun e w' => e = .returned (.int .i64 ((putN pk by_ L x b).1 : Nat)) ∧ (∃ v', EsI w' base g gc gr gb fk fp src many wanted goes first W pk by_ v' (putN pk by_ L x b).2 rate burst hav) ∧ Still (gr :: v.ownBlock.toList) w w' := by
 obtain ⟨hp, ch, rg, bk⟩ := h
 have cP := Lib.hid (put_any base gr pk by_ v L x bv b w rg hs hn hl hbase hv hbn p0 p1 y0 y1)
 unfold RPutPost at cP
 obtain ⟨sb, cb, rfl, hbc, hbm⟩ := hv.len
 have z16 := (hp_cell hp 16).trans (show _ = some (.pointer (some ⟨gr, 0, none⟩)) from rfl)
 generalize hR : putN pk by_ L x b = R at *
 replace hR := Lib.hid hR
 replace hp := Lib.hid hp
 replace ch := Lib.hid ch
 replace rg := Lib.hid rg
 replace bk := Lib.hid bk
 replace hs := Lib.hid hs
 replace hv := Lib.hid hv
 go_enter Try.func15, Try.ntmps15
 go_wp2_with fail
 refine Calls.mono cP.out ?_
 rintro e w1 ⟨rfl, ⟨v', R1, hG⟩, T1⟩
 have hne : ∀ {k : Nat} {cs : Array Value} {t : TypeId} {f : Nat × Nat}, w.heap[k]? = some (.cells cs t f) → t ≠ 140 → t ≠ 158 → k ∉ gr :: v.ownBlock.toList := fun {k cs t f} hk t1 t2 hm => by
  rcases List.mem_cons.1 hm with rfl | hm
  ·exact hp_ne hk rg.out.cells t1 rfl
  ·exact rg.out.q.ne hk t2 k (by simpa using hm) rfl
 have H1 := Lib.hid (hp.out.st T1 (hne hp.out (by decide) (by decide)))
 have C1 := Lib.hid (ch.out.st T1 (hne ch.out (by decide) (by decide)))
 have K1 := Lib.hid (HpB.st (o := .cells _ _) bk.out T1 (hne bk.out (by decide) (by decide)))
 replace R1 := Lib.hid R1
 replace T1 := Lib.hid T1
 clear hne hG
 try dsimp only
 go_wp2_with fail
 go_ret
 exact ⟨rfl, ⟨v', H1.out, C1.out, R1.out, K1.out⟩, T1.out⟩
set_option maxRecDepth 100000 in
set_option maxHeartbeats 8000000 in
theorem tick_x (base g gc gr gb : Nat) (fk fp : FuncId) (src many wanted goes first : Int) (W : Wr) (pk by_ : Int) (v : Value) (L : PL) (rate burst hav : Int) (w : World) (h : EsI w base g gc gr gb fk fp src many wanted goes first W pk by_ v L rate burst hav) (hr : 0 ≤ rate) (hh : 0 ≤ hav ∧ hav ≤ 18446744073709551615) :
  Calls Try.prog 17 #[.pointer (some ⟨g, 0, none⟩)] w fun e w' => e = .returned (.tuple #[]) ∧ EsI w' base g gc gr gb fk fp src many wanted goes first W pk by_ v L rate burst (giveN burst hav rate) ∧ Still [gb] w w' := by
 have hE := Lib.hid h
 obtain ⟨hp, ch, rg, bk⟩ := h
 have cT := Lib.hid (tick_any gb rate burst hav w bk hr hh.1 hh.2)
 have z17 := (hp_cell hp 17).trans (show _ = some (.pointer (some ⟨gb, 0, none⟩)) from rfl)
 clear hp ch rg bk
 go_enter Try.func17, Try.ntmps17
 go_wp2_with fail
 refine Calls.mono cT.out ?_
 rintro e w1 ⟨rfl, wq, hb, rfl⟩
 have hb' : BW w wq := hb
 have T1 := Lib.hid (show Still [gb] w (wq.setCell ⟨gb, 2, none⟩ (.int .u64 (giveN burst hav rate))) from (hb'.still [gb]).trans (still_sc wq gb 2 _))
 have E1 := Lib.hid ((hE.out.bw hb').setB (giveN burst hav rate))
 clear hb hb'
 generalize wq.setCell ⟨gb, 2, none⟩ (.int .u64 (giveN burst hav rate)) = w2 at *
 try dsimp only
 go_wp2_with fail
 go_end0
 exact ⟨rfl, E1.out, T1.out⟩
set_option maxRecDepth 100000 in
set_option maxHeartbeats 8000000 in
theorem again_x (base g gc gr gb : Nat) (fk fp : FuncId) (src many wanted goes first : Int) (W : Wr) (pk by_ : Int) (v : Value) (L : PL) (rate burst hav : Int) (w : World) (h : EsI w base g gc gr gb fk fp src many wanted goes first W pk by_ v L rate burst hav) :
  Calls Try.prog 29 #[.pointer (some ⟨g, 0, none⟩)] w fun e w' => e = .returned (.int .u64 hav) ∧ BW w w' := by
 have z17 := (hp_cell h.hp 17).trans (show _ = some (.pointer (some ⟨gb, 0, none⟩)) from rfl)
 have z2 := h.bk.c2
 have cH : ∀ y, BW w y → Calls Try.prog 67 #[.pointer (some ⟨gb, 0, none⟩)] y fun e w' => e = .returned (.int .u64 hav) ∧ BW y w' := fun y hy => by
  have z2 := hy.cell z2
  go_enter Try.func67, Try.ntmps67
  go_wp2_with fail
  go_ret
  exact ⟨rfl, BW.refl _⟩
 replace cH := Lib.hid (cH w (BW.refl _))
 clear h z2
 go_enter Try.func29, Try.ntmps29
 go_wp2_with fail
 refine Calls.mono cH.out ?_
 rintro e w1 ⟨rfl, hb⟩
 replace hb := Lib.hid hb
 try dsimp only
 go_wp2_with fail
 go_ret
 exact ⟨rfl, hb.out⟩
set_option maxRecDepth 100000 in
set_option maxHeartbeats 8000000 in
theorem kept_x (base g gc gr gb : Nat) (fk fp : FuncId) (src many wanted goes first : Int) (W : Wr) (pk by_ : Int) (v : Value) (L : PL) (rate burst hav : Int) (w : World) (h : EsI w base g gc gr gb fk fp src many wanted goes first W pk by_ v L rate burst hav) :
  Calls Try.prog 27 #[.pointer (some ⟨g, 0, none⟩)] w fun e w' => e = .returned (.tuple #[.int .i64 (L.length : Nat), .int .i64 (lensL L : Nat)]) ∧ BW w w' := by
 have z16 := (hp_cell h.hp 16).trans (show _ = some (.pointer (some ⟨gr, 0, none⟩)) from rfl)
 have rg := Lib.hid h.rg
 clear h
 go_enter Try.func27, Try.ntmps27
 go_upto_region 1 with (fail)
 have m16 : ∀ y : LaterS [] w, _ := fun y => y.bw.cell z16
 clear z16
 refine wp_region_gg [] [] [] (by kernel_rfl) ?_
 refine hoist [] [] (a1 := ?_) 0 rfl (by kernel_rfl) (.inl ⟨rfl, rfl⟩) rfl rfl rfl (fun x K hK => ?_) ?_
 rotate_left
 ·go_big_quiet_op
  exact hK
 refine hoist [] [] (a1 := ?_) 1 rfl (by kernel_rfl) (.inl ⟨rfl, rfl⟩) rfl rfl rfl (fun x K hK => ?_) ?_
 rotate_left
 ·go_big_quiet_op
  exact hK
 refine hoist [] [] (a1 := ?_) 2 rfl (by kernel_rfl) (.inl ⟨rfl, rfl⟩) rfl rfl rfl (fun x K hK => ?_) ?_
 rotate_left
 ·go_big_quiet_op
  exact hK
 refine hoist [] [] (a1 := ?_) 3 rfl (by kernel_rfl) (.inl ⟨rfl, rfl⟩) rfl rfl rfl (fun x K hK => ?_) ?_
 rotate_left
 ·go_big_quiet_op
  exact hK
 refine hoist [] [] (a1 := ?_) 5 rfl (by kernel_rfl) (.inl ⟨rfl, rfl⟩) rfl rfl rfl (fun x K hK => ?_) ?_
 rotate_left
 ·go_big_quiet_op
  exact hK
 refine hoist [] [] (a1 := ?_) 6 rfl (by kernel_rfl) (.inl ⟨rfl, rfl⟩) rfl rfl rfl (fun x K hK => ?_) ?_
 rotate_left
 ·go_big_quiet_op
  exact hK
 refine hoist [] [] (a1 := ?_) 7 rfl (by kernel_rfl) (.inl ⟨rfl, rfl⟩) rfl rfl rfl (fun x K hK => ?_) ?_
 rotate_left
 ·go_big_quiet_op
  exact hK
 refine hoist [] [] (a1 := ?_) 8 rfl (by kernel_rfl) (.inl ⟨rfl, rfl⟩) rfl rfl rfl (fun x K hK => ?_) ?_
 rotate_left
 ·go_big_quiet_op
  exact hK
 refine effect 4 rfl (by kernel_rfl) (by kernel_rfl) rfl (fun x4 K hK => ?_)
 go_simp
 refine Calls.mono (rlen_any base gr pk by_ v L x4.now (rg.out.bw x4.bw)) ?_
 rintro e w2 ⟨rfl, rfl⟩
 refine hK _ _ ((BW.refl _).still _) ?_
 clear hK K
 have b4 := Lib.hid x4.bw
 try simp only [Act.put, List.setIfInBounds_toArray, List.set_cons_succ, List.set_cons_zero]
 refine effect 9 rfl (by kernel_rfl) (by kernel_rfl) rfl (fun x9 K hK => ?_)
 go_simp
 refine Calls.mono (rsiz_any base gr pk by_ v L x9.now (rg.out.bw (b4.out.trans x9.bw))) ?_
 rintro e w2 ⟨rfl, rfl⟩
 refine hK _ _ ((BW.refl _).still _) ?_
 clear hK K
 have b9 := Lib.hid (b4.out.trans x9.bw)
 try simp only [Act.put, List.setIfInBounds_toArray, List.set_cons_succ, List.set_cons_zero]
 refine hoist [] [] (a1 := ?_) 10 rfl (by kernel_rfl) (.inl ⟨rfl, rfl⟩) rfl rfl rfl (fun x K hK => ?_) ?_
 rotate_left
 ·go_big_quiet_op
  exact hK
 refine hoist [] [] (a1 := ?_) 11 rfl (by kernel_rfl) (.inl ⟨rfl, rfl⟩) rfl rfl rfl (fun x K hK => ?_) ?_
 rotate_left
 ·go_big_quiet_op
  exact hK
 refine done (by kernel_rfl) (fun xr => ?_)
 have B := Lib.hid (b9.out.trans xr.bw)
 clear m16
 go_wp2_with fail
 go_ret2
 exact ⟨rfl, B.out⟩
set_option maxRecDepth 100000 in
set_option maxHeartbeats 8000000 in
theorem source_x (base g gc gr gb : Nat) (fk fp : FuncId) (src many wanted goes first : Int) (W : Wr) (pk by_ : Int) (v : Value) (L : PL) (rate burst hav : Int) (w : World) (h : EsI w base g gc gr gb fk fp src many wanted goes first W pk by_ v L rate burst hav) :
  Calls Try.prog 19 #[.pointer (some ⟨g, 0, none⟩)] w fun e w' => e = .returned (.int .u32 src) ∧ w = w' := by
 have z3 := (hp_cell h.hp 3).trans (show _ = some (.int .u32 src) from rfl)
 clear h
 go_enter Try.func19, Try.ntmps19
 go_wp2_with fail
 go_ret
 exact ⟨rfl, rfl⟩
set_option maxRecDepth 100000 in
set_option maxHeartbeats 8000000 in
theorem wanted_x (gc : Nat) (many wanted goes : Int) (w : World) (h : HpB w gc (.cells (chC many wanted goes) 112)) :
  Calls Try.prog 30 #[.pointer (some ⟨gc, 0, none⟩)] w fun e w' => e = .returned (.int .i64 wanted) ∧ w = w' := by
 have z1 := (hp_cell h 1).trans (show _ = some (.int .i64 wanted) from rfl)
 clear h
 go_enter Try.func30, Try.ntmps30
 go_wp2_with fail
 go_ret
 exact ⟨rfl, rfl⟩
set_option maxRecDepth 100000 in
set_option maxHeartbeats 8000000 in
theorem needs_x (gc : Nat) (many wanted goes : Int) (w : World) (h : HpB w gc (.cells (chC many wanted goes) 112)) :
  Calls Try.prog 31 #[.pointer (some ⟨gc, 0, none⟩)] w fun e w' => e = .returned (.bool (wanted != goes)) ∧ w = w' := by
 have c1 := Lib.hid (wanted_x gc many wanted goes w h)
 have c2 := Lib.hid (goes_w gc many wanted goes w h)
 clear h
 generalize hq : (wanted != goes) = q at *
 go_enter Try.func31, Try.ntmps31
 go_wp2_with fail
 refine Calls.mono c1.out ?_
 rintro e w1 ⟨rfl, rfl⟩
 dsimp only
 go_wp2_with fail
 refine Calls.mono c2.out ?_
 rintro e w1 ⟨rfl, rfl⟩
 dsimp only
 go_wp2_with fail
 go_ret
 exact ⟨rfl, rfl⟩
def rtC (mk : Bool) (ty sq st so : Int) (oth : Value) (xb : Bool) (pf : Int) (ex pay : Value) (pd : Int) : Array Value :=
 #[.bool mk, .int .u8 ty, .int .u16 sq, .int .u32 st, .int .u32 so, oth, .bool xb, .int .u16 pf, ex, pay, .int .u8 pd]
set_option maxRecDepth 100000 in
set_option maxHeartbeats 8000000 in
theorem same10 (mk : Bool) (ty sq st so : Int) (xb : Bool) (pf : Int) (se : Option Addr) (ne ce : Nat) (s1 : Option Addr) (c1 : Nat) (s2 : Option Addr) (c2 : Nat) (n : Nat) (pd : Int) (le l : List Int) (w : World) (hE : SlB w se ne ce le) (h1 : SlB w s1 n c1 l) (h2 : SlB w s2 n c2 l) :
  Calls Try.prog 62 #[.agg (rtC mk ty sq st so (.slice none 0 0) xb pf (.slice se ne ce) (.slice s1 n c1) pd), .agg (rtC mk ty sq st so (.slice none 0 0) xb pf (.slice se ne ce) (.slice s2 n c2) pd)] w fun e w' => e = .returned (.bool true) ∧ BW w w' := by
 unfold rtC
 have BA : BW w (w.alloc (.cells #[.bool mk, .int .u8 ty, .int .u16 sq, .int .u32 st, .int .u32 so, .slice none 0 0, .bool xb, .int .u16 pf, .slice se ne ce, .slice s1 n c1, .int .u8 pd] 36)) := (BW.refl w).alloc
 have P1 := HpB.new w (.cells #[.bool mk, .int .u8 ty, .int .u16 sq, .int .u32 st, .int .u32 so, .slice none 0 0, .bool xb, .int .u16 pf, .slice se ne ce, .slice s1 n c1, .int .u8 pd] 36)
 generalize hw1 : w.alloc (.cells #[.bool mk, .int .u8 ty, .int .u16 sq, .int .u32 st, .int .u32 so, .slice none 0 0, .bool xb, .int .u16 pf, .slice se ne ce, .slice s1 n c1, .int .u8 pd] 36) = w1 at *
 have BB : BW w1 (w1.alloc (.cells #[.bool mk, .int .u8 ty, .int .u16 sq, .int .u32 st, .int .u32 so, .slice none 0 0, .bool xb, .int .u16 pf, .slice se ne ce, .slice s2 n c2, .int .u8 pd] 36)) := (BW.refl w1).alloc
 have P2 := Lib.hid (HpB.new w1 (.cells #[.bool mk, .int .u8 ty, .int .u16 sq, .int .u32 st, .int .u32 so, .slice none 0 0, .bool xb, .int .u16 pf, .slice se ne ce, .slice s2 n c2, .int .u8 pd] 36))
 replace P1 := Lib.hid (P1.bw BB)
 have B := Lib.hid (BA.trans BB)
 replace hE := Lib.hid (hE.below B.out)
 replace h1 := Lib.hid (h1.below B.out)
 replace h2 := Lib.hid (h2.below B.out)
 clear BA BB
 go_enter Try.func62, Try.ntmps62
 go_upto_region 1 with (fail)
 generalize w1.alloc _ = w2 at *
 generalize w.heap.size = g1 at *
 generalize w1.heap.size = g2 at *
 replace hw1 := Lib.hid hw1
 have z0 := hp_cell (P1.out) 0
 have z1 := hp_cell (P1.out) 1
 have z2 := hp_cell (P1.out) 2
 have z3 := hp_cell (P1.out) 3
 have z4 := hp_cell (P1.out) 4
 have z5 := hp_cell (P1.out) 5
 have z6 := hp_cell (P1.out) 6
 have z7 := hp_cell (P1.out) 7
 have z8 := hp_cell (P1.out) 8
 have z9 := hp_cell (P1.out) 9
 have z10 := hp_cell (P1.out) 10
 simp only [List.getElem?_toArray, List.getElem?_cons_zero, List.getElem?_cons_succ] at z0 z1 z2 z3 z4 z5 z6 z7 z8 z9 z10
 have y0 := hp_cell (P2.out) 0
 have y1 := hp_cell (P2.out) 1
 have y2 := hp_cell (P2.out) 2
 have y3 := hp_cell (P2.out) 3
 have y4 := hp_cell (P2.out) 4
 have y5 := hp_cell (P2.out) 5
 have y6 := hp_cell (P2.out) 6
 have y7 := hp_cell (P2.out) 7
 have y8 := hp_cell (P2.out) 8
 have y9 := hp_cell (P2.out) 9
 have y10 := hp_cell (P2.out) 10
 simp only [List.getElem?_toArray, List.getElem?_cons_zero, List.getElem?_cons_succ] at y0 y1 y2 y3 y4 y5 y6 y7 y8 y9 y10
 go_upto_region 4 with (fail)
 go_loopg [5] 0 (fun m' i wx => m' = 0 ∧ i = .int .i64 0 ∧ w2 = wx)
 case atStart => exact ⟨rfl, rfl, rfl⟩
 case round =>
  obtain ⟨rfl, rfl, rfl⟩ := hrel
  have v1 := conv_slB hE.out
  have v3 := conv_slB h1.out
  have v4 := conv_slB h2.out
  generalize strOfNums le = sx at *
  generalize strOfNums l = sy at *
  go_wp2_with fail
  go_ret
  exact ⟨rfl, B.out⟩
set_option maxRecDepth 100000 in
set_option maxHeartbeats 8000000 in
theorem same28 (y : Int) (tu mk : Bool) (ty sq st so : Int) (xb : Bool) (pf : Int) (se : Option Addr) (ne ce : Nat) (s1 : Option Addr) (c1 : Nat) (s2 : Option Addr) (c2 : Nat) (n : Nat) (pd : Int) (le l : List Int) (w : World) (hE : SlB w se ne ce le) (h1 : SlB w s1 n c1 l) (h2 : SlB w s2 n c2 l) :
  Calls Try.prog 25 #[.agg (snC y mk ty sq st so (.slice none 0 0) xb pf (.slice se ne ce) (.slice s1 n c1) pd tu), .agg (snC y mk ty sq st so (.slice none 0 0) xb pf (.slice se ne ce) (.slice s2 n c2) pd tu)] w fun e w' => e = .returned (.bool true) ∧ BW w w' := by
 unfold snC
 have BA : BW w (w.alloc (.cells #[.int .i64 y, .bool mk, .int .u8 ty, .int .u16 sq, .int .u32 st, .int .u32 so, .slice none 0 0, .bool xb, .int .u16 pf, .slice se ne ce, .slice s1 n c1, .int .u8 pd, .bool tu] 60)) := (BW.refl w).alloc
 have P1 := HpB.new w (.cells #[.int .i64 y, .bool mk, .int .u8 ty, .int .u16 sq, .int .u32 st, .int .u32 so, .slice none 0 0, .bool xb, .int .u16 pf, .slice se ne ce, .slice s1 n c1, .int .u8 pd, .bool tu] 60)
 generalize hw1 : w.alloc (.cells #[.int .i64 y, .bool mk, .int .u8 ty, .int .u16 sq, .int .u32 st, .int .u32 so, .slice none 0 0, .bool xb, .int .u16 pf, .slice se ne ce, .slice s1 n c1, .int .u8 pd, .bool tu] 60) = w1 at *
 have BB : BW w1 (w1.alloc (.cells #[.int .i64 y, .bool mk, .int .u8 ty, .int .u16 sq, .int .u32 st, .int .u32 so, .slice none 0 0, .bool xb, .int .u16 pf, .slice se ne ce, .slice s2 n c2, .int .u8 pd, .bool tu] 60)) := (BW.refl w1).alloc
 have P2 := Lib.hid (HpB.new w1 (.cells #[.int .i64 y, .bool mk, .int .u8 ty, .int .u16 sq, .int .u32 st, .int .u32 so, .slice none 0 0, .bool xb, .int .u16 pf, .slice se ne ce, .slice s2 n c2, .int .u8 pd, .bool tu] 60))
 replace P1 := Lib.hid (P1.bw BB)
 have B := Lib.hid (BA.trans BB)
 have cS := fun w2 (hb : BW w w2) => same10 mk ty sq st so xb pf se ne ce s1 c1 s2 c2 n pd le l w2 (hE.below hb) (h1.below hb) (h2.below hb)
 unfold rtC at cS
 replace cS := Lib.hid cS
 clear BA BB hE h1 h2
 go_enter Try.func25, Try.ntmps25
 go_upto_region 1 with (fail)
 generalize w1.alloc _ = w2 at *
 generalize w.heap.size = g1 at *
 generalize w1.heap.size = g2 at *
 replace hw1 := Lib.hid hw1
 have z0 := hp_cell (P1.out) 0
 have z1 := hp_cell (P1.out) 1
 have z2 := hp_cell (P1.out) 2
 have z3 := hp_cell (P1.out) 3
 have z4 := hp_cell (P1.out) 4
 have z5 := hp_cell (P1.out) 5
 have z6 := hp_cell (P1.out) 6
 have z7 := hp_cell (P1.out) 7
 have z8 := hp_cell (P1.out) 8
 have z9 := hp_cell (P1.out) 9
 have z10 := hp_cell (P1.out) 10
 have z11 := hp_cell (P1.out) 11
 have z12 := hp_cell (P1.out) 12
 simp only [List.getElem?_toArray, List.getElem?_cons_zero, List.getElem?_cons_succ] at z0 z1 z2 z3 z4 z5 z6 z7 z8 z9 z10 z11 z12
 have y0 := hp_cell (P2.out) 0
 have y1 := hp_cell (P2.out) 1
 have y2 := hp_cell (P2.out) 2
 have y3 := hp_cell (P2.out) 3
 have y4 := hp_cell (P2.out) 4
 have y5 := hp_cell (P2.out) 5
 have y6 := hp_cell (P2.out) 6
 have y7 := hp_cell (P2.out) 7
 have y8 := hp_cell (P2.out) 8
 have y9 := hp_cell (P2.out) 9
 have y10 := hp_cell (P2.out) 10
 have y11 := hp_cell (P2.out) 11
 have y12 := hp_cell (P2.out) 12
 simp only [List.getElem?_toArray, List.getElem?_cons_zero, List.getElem?_cons_succ] at y0 y1 y2 y3 y4 y5 y6 y7 y8 y9 y10 y11 y12
 have R1 := Lib.hid (P1.out.range 1 (#[.bool mk, .int .u8 ty, .int .u16 sq, .int .u32 st, .int .u32 so, .slice none 0 0, .bool xb, .int .u16 pf, .slice se ne ce, .slice s1 n c1, .int .u8 pd] : Array Value).toList rfl)
 have R2 := Lib.hid (P2.out.range 1 (#[.bool mk, .int .u8 ty, .int .u16 sq, .int .u32 st, .int .u32 so, .slice none 0 0, .bool xb, .int .u16 pf, .slice se ne ce, .slice s2 n c2, .int .u8 pd] : Array Value).toList rfl)
 go_wp2_with fail
 refine Calls.mono (cS.out w2 B.out) ?_
 rintro e w3 ⟨rfl, hb⟩
 replace hb := Lib.hid hb
 dsimp only
 go_wp2_with fail
 go_ret
 exact ⟨rfl, B.out.trans hb.out⟩
end Go.Proofs.Ytojedpahaifjgaa

namespace Go.Proofs.Ytojedpahaifjgaa
open Go.RowKit
structure ES where
 wanted : Int
 goes : Int
 W : Wr
 fol : Bool
 a : Mpd
 b : Mpd
 v : Value
 LW : List Mpd
 vr : Value
 LP : PL
 vi : Value
 vb : Value
 M : PL
 hav : Int
def KAn (k : Nat) : Int := ((k : Int) + 2) * 2199023255552
structure EP (pk by_ : Int) (k : Nat) (s : ES) : Prop where
 wr : WrR s.W s.fol s.a s.b s.LW (KAn k)
 ok : s.W.OkK (k + 1)
 sp : SP s.LP s.M
 n : s.LP.length ≤ k
 z : lensL s.LP ≤ 255 * k
 pn : (s.LP.length : Int) ≤ pk
 pz : (lensL s.LP : Int) ≤ by_
 lw : s.LW.length ≤ k
 hv : 0 ≤ s.hav ∧ s.hav ≤ 18446744073709551615
theorem KAn_up (k : Nat) : KAn k ≤ KAn (k + 1) := by unfold KAn; push_cast; omega
theorem EP.up {pk by_ : Int} {k : Nat} {s : ES} (h : EP pk by_ k s) : EP pk by_ (k + 1) s :=
 ⟨h.wr.up (KAn_up k), okK_up h.ok, h.sp, Nat.le_succ_of_le h.n, Nat.le_trans h.z (by omega), h.pn, h.pz, Nat.le_succ_of_le h.lw, h.hv⟩
theorem EP.start (pk by_ again : Int) (hp : 1 ≤ pk) (hb : 0 ≤ by_) (ha : 0 ≤ again ∧ again ≤ 18446744073709551615) (v vr vi vb : Value) : EP pk by_ 0 ⟨-1, -1, Wr.zero, false, (0, 0, 0), (0, 0, 0), v, [], vr, [], vi, vb, [], burN again⟩ :=
 ⟨WrR.zero _, okK_up okK_zero.out, ⟨List.Pairwise.nil, List.Perm.refl _⟩, Nat.le_refl _, Nat.le_refl _, by show (0 : Int) ≤ pk; omega, by show (0 : Int) ≤ by_; exact hb, Nat.le_refl _, burN_range ha⟩
theorem EP.want {pk by_ : Int} {k : Nat} {s : ES} (h : EP pk by_ k s) (x y : Int) : EP pk by_ (k + 1) { s with wanted := x, goes := y } := ⟨h.up.wr, h.up.ok, h.up.sp, h.up.n, h.up.z, h.up.pn, h.up.pz, h.up.lw, h.up.hv⟩
theorem EP.have {pk by_ : Int} {k : Nat} {s : ES} (h : EP pk by_ k s) (x : Int) (hx : 0 ≤ x ∧ x ≤ 18446744073709551615) : EP pk by_ (k + 1) { s with hav := x } := ⟨h.up.wr, h.up.ok, h.up.sp, h.up.n, h.up.z, h.up.pn, h.up.pz, h.up.lw, hx⟩
theorem EP.push {pk by_ : Int} {k : Nat} {s : ES} (h : EP pk by_ k s) {goes : Int} {W : Wr} {fol : Bool} {a b : Mpd} {v : Value} {LW : List Mpd} (hR : WrR W fol a b LW (KAn (k + 1))) (hO : W.OkK (k + 1 + 1)) (hl : LW.length ≤ s.LW.length + 1) : EP pk by_ (k + 1) { s with goes := goes, W := W, fol := fol, a := a, b := b, v := v, LW := LW } :=
 ⟨hR, hO, h.up.sp, h.up.n, h.up.z, h.up.pn, h.up.pz, by have := h.lw; show LW.length ≤ k + 1; omega, h.up.hv⟩
theorem trimN_ok' {pk by_ : Int} (h1 : 0 ≤ pk) (h2 : 0 ≤ by_) : ∀ L : PL, (trimN pk by_ L).length ≤ L.length ∧ lensL (trimN pk by_ L) ≤ lensL L ∧ ((trimN pk by_ L).length : Int) ≤ pk ∧ (lensL (trimN pk by_ L) : Int) ≤ by_
 | [] => ⟨Nat.le_refl _, Nat.le_refl _, by simpa [trimN] using h1, by simpa [trimN, lensL] using h2⟩
 | p :: L => by
  obtain ⟨i1, i2, i3, i4⟩ := trimN_ok' h1 h2 L
  have e : lensL (p :: L) = p.2.length + lensL L := rfl
  unfold trimN
  split
  ·exact ⟨by rw [List.length_cons]; omega, by omega, i3, i4⟩
  ·rename_i h
   exact ⟨Nat.le_refl _, Nat.le_refl _, by rw [List.length_cons]; omega, by omega⟩
theorem putN_ok' {pk by_ : Int} {L : PL} (x : Int) (b : List Nat) (h1 : 0 ≤ pk) (h2 : 0 ≤ by_) (hl : (L.length : Int) ≤ pk) (hz : (lensL L : Int) ≤ by_) :
  (putN pk by_ L x b).2.length ≤ L.length + 1 ∧ lensL (putN pk by_ L x b).2 ≤ lensL L + b.length ∧ ((putN pk by_ L x b).2.length : Int) ≤ pk ∧ (lensL (putN pk by_ L x b).2 : Int) ≤ by_ := by
 unfold putN
 split
 ·exact ⟨Nat.le_succ _, Nat.le_add_right _ _, hl, hz⟩
 split
 ·exact ⟨Nat.le_succ _, Nat.le_add_right _ _, hl, hz⟩
 split
 ·exact ⟨Nat.le_succ _, Nat.le_add_right _ _, hl, hz⟩
 ·obtain ⟨k1, k2, k3, k4⟩ := trimN_ok' h1 h2 (insN L x b)
  have e1 := insN_len L x b
  have e2 := insN_lens L x b
  exact ⟨by show (trimN pk by_ (insN L x b)).length ≤ _; omega, by show lensL (trimN pk by_ (insN L x b)) ≤ _; omega, k3, k4⟩
theorem EP.keep {pk by_ : Int} {k : Nat} {s : ES} (h : EP pk by_ (k + 1) s) (hk : s.LP.length ≤ k ∧ lensL s.LP ≤ 255 * k) (hp : 1 ≤ pk) (hy : 0 ≤ by_) (x : Int) (b : List Nat) (hb : b.length ≤ 255) (vr vi vb : Value) : EP pk by_ (k + 1) { s with vr := vr, LP := (putN pk by_ s.LP x b).2, vi := vi, vb := vb, M := (rputN pk by_ s.M x b).2 } := by
 obtain ⟨k1, k2, k3, k4⟩ := putN_ok' x b (by omega) hy h.pn h.pz
 exact ⟨h.wr, h.ok, (put_same h.sp pk by_ x b hp).2, by show (putN pk by_ s.LP x b).2.length ≤ k + 1; omega, by show lensL (putN pk by_ s.LP x b).2 ≤ 255 * (k + 1); omega, k3, k4, h.lw, h.hv⟩
theorem nackN_lt {L : List (Nat × Nat)} (hL : ∀ p ∈ L, p.1 < 65536 ∧ p.2 < 65536) : ∀ x ∈ nackN L, x < 65536 := fun x hx => by
 unfold nackN at hx
 obtain ⟨p, hp, hx⟩ := List.mem_flatMap.1 hx
 unfold nack1 at hx
 rcases List.mem_cons.1 hx with rfl | hx
 ·exact (hL p hp).1
 ·obtain ⟨q, -, rfl⟩ := List.mem_map.1 hx
  omega
theorem lossR' {w : World} {base : Nat} {cs : List Value} (h : Rd w (.scope (.seq (.label 5) (.seq (.label 5) .skip))) cs) : ∃ p : Nat × Nat, (p.1 < 65536 ∧ p.2 < 65536) ∧ EO.R w base p cs := by
 obtain ⟨c0, r0, rfl, ⟨a, rfl, ha⟩, c1, r1, rfl, ⟨b, rfl, hb⟩, h2⟩ := h
 have h2' : r1 = [] := h2
 subst h2'
 have ha' : 0 ≤ a ∧ a ≤ 65535 := bounds_u16 ha
 have hb' : 0 ≤ b ∧ b ≤ 65535 := bounds_u16 hb
 refine ⟨(a.toNat, b.toNat), ⟨by show a.toNat < 65536; omega, by show b.toNat < 65536; omega⟩, ?_⟩
 have e1 : ((a.toNat : Nat) : Int) = a := Int.toNat_of_nonneg ha'.1
 have e2 : ((b.toNat : Nat) : Int) = b := Int.toNat_of_nonneg hb'.1
 show _ = lossV (a.toNat, b.toNat)
 unfold lossV
 rw [e1, e2]
 rfl
theorem losses_of {w : World} {base : Nat} {sl : Option Addr} {nl cl_ : Nat} (h : Rd w (.loop (.scope (.seq (.label 5) (.seq (.label 5) .skip)))) [.slice sl nl cl_]) : ∃ LL, SQ EO w base (.slice sl nl cl_) nl LL ∧ ∀ p ∈ LL, p.1 < 65536 ∧ p.2 < 65536 :=
 SQ_of_Rd (E := EO) (fun p => p.1 < 65536 ∧ p.2 < 65536) _ base h rfl (fun _ h => lossR' h)
abbrev limTy : Ty := .scope (.seq (.label 3) (.seq (.scope (.seq (.label 3) (.seq (.label 3) (.seq (.label 3) .skip)))) (.seq (.label 3) (.seq (.label 3) (.seq (.label 3) (.seq (.label 3) (.seq (.label 7) .skip)))))))
theorem lim_of {w : World} {cs : Array Value} (h : Rd w limTy cs.toList) : ∃ l0 l1 l2 l3 l4 l5 pk by_ again : Int, cs = limX l0 l1 l2 l3 l4 l5 pk by_ again ∧ (pk ≤ 9223372036854775807) ∧ (by_ ≤ 9223372036854775807) ∧ 0 ≤ again ∧ again ≤ 18446744073709551615 := by
 obtain ⟨cl'⟩ := cs
 obtain ⟨c0, r0, h0, ⟨l0, rfl, -⟩, cR, r1, rfl, ⟨c1, s1, rfl, ⟨l1, rfl, -⟩, c2, s2, rfl, ⟨l2, rfl, -⟩, c3, s3, rfl, ⟨l3, rfl, -⟩, hs3⟩, c4, r4, rfl, ⟨l4, rfl, -⟩, c5, r5, rfl, ⟨l5, rfl, -⟩, c6, r6, rfl, ⟨pk, rfl, hpk⟩, c7, r7, rfl, ⟨by_, rfl, hby⟩, c8, r8, rfl, ⟨again, rfl, hag⟩, h8⟩ := h
 have hs3' : s3 = [] := hs3
 have h8' : r8 = [] := h8
 subst hs3' h8'
 have h0' : cl' = _ := h0
 subst h0'
 have b1 := bounds_i64 hpk
 have b2 := bounds_i64 hby
 have b3 := bounds_u64 hag
 exact ⟨l0, l1, l2, l3, l4, l5, pk, by_, again, rfl, b1.2, b2.2, b3.1, b3.2⟩
theorem Srt.of {L : PL} (h : L.Pairwise fun a b => a.1 < b.1) : Srt L := fun i j h1 h2 => by
 rw [cl_get (by omega), cl_get h2]
 exact List.pairwise_iff_getElem.1 h i j _ _ h1
theorem SP.srtN {L M : PL} (h : SP L M) : Srt L := Srt.of h.srt
end Go.Proofs.Ytojedpahaifjgaa
