/- The reference's egress (tenailleref28): Push, whatever comes (printed by wip/gen/genEpU.py). No condition but the numbers' bounds. -/
import Derived.Test.YtojedpahaifjgaaEpO
import Derived.Test.YtojedpahaifjgaaEpT
import Derived.Test.YtojedpahaifjgaaGEo
import Derived.Test.YtojedpahaifjgaaSwh
import Derived.Test.YtojedpahaifjgaaGEa
namespace Go.Proofs.Ytojedpahaifjgaa
open Go.RowKit
theorem swSn : SwT 60 13 := ⟨⟨_, Try.underlying60, rfl, rfl⟩, by kernel_rfl⟩
theorem swRt : SwT 36 11 := ⟨⟨_, Try.underlying36, rfl, rfl⟩, by kernel_rfl⟩
theorem tmod_u16 (n : Int) : IntKind.u16.wrap (n.tmod 65536) = IntKind.u16.wrap n := by
 rw [wr16, wr16, Int.tmod_eq_emod]
 split <;> omega
theorem W22.nin {w : World} {base g : Nat} {first : Int} {fol : Bool} {a b : Mpd} {v : Value} {L : List Mpd} (h : W22 w base g first fol a b v L) {k : Nat} {cs : Array Value} {t : TypeId} (hk : HpB w k (.cells cs t)) (ht : t ≠ 129) (ht2 : t ≠ 51) : k ∉ g :: v.ownBlock.toList := by
 intro hm
 rcases List.mem_cons.1 hm with e | e
 ·exact hp_ne hk h.hp ht e
 ·rw [Option.mem_toList] at e
  exact h.q.ne hk ht2 _ e rfl
theorem rT_any (c : Nat) (sp : Option Addr) (np cp : Nat) (l : List Nat) (hh : hasC c l = true) (p : Int) (hp : 0 ≤ p) (hp' : p ≤ 65535) (hn : np ≤ 100000) (base : Nat) (w : World) (hb : base ≤ w.heap.size) (h : SB w (.slice sp np cp) np l) :
  Calls Try.prog 14 #[.slice sp np cp, .int .u16 p] w fun e w' => ∃ sa n c', e = .returned (.tuple #[.slice sa n c', .bool true]) ∧ TVq base (lI l) (vWide (lI l)) p w' (.slice sa n c') ∧ BW w w' := by
 obtain ⟨-, b0, n1, n6, ho, h2, h3⟩ := hasC_form h.2.1 hh
 have hr := lI_by h.2.1
 rw [vp_eq _ (getD_range hr)] at ho
 have hs := SlB_of_SB h
 have hlen : (lI l).length ≤ 140737488355328 := by unfold lI; rw [List.length_map, h.1]; omega
 unfold TVq
 cases hw : vWide (lI l) with
 | false =>
  rw [hw] at ho
  refine (rturn_narrow (lI l) sp np cp p w hs hlen hp hp' b0 h2 n1 _ _ n6 ho).mono ?_
  rintro e w' ⟨v, he, hO, hB⟩
  obtain ⟨sa, c', hv, -⟩ := hO.slB (turnN_mem hr p false)
  exact ⟨sa, _, c', by rw [he, hv], by rw [← hv]; exact hO.le hb, hB⟩
 | true =>
  rw [hw] at ho
  refine (rturn_wide (lI l) sp np cp p w hs hlen hp hp' b0 (h3 hw) n1 _ _ n6 ho).mono ?_
  rintro e w' ⟨v, he, hO, hB⟩
  obtain ⟨sa, c', hv, -⟩ := hO.slB (turnN_mem hr p true)
  exact ⟨sa, _, c', by rw [he, hv], by rw [← hv]; exact hO.le hb, hB⟩
def PuW (base qw : Nat) (first : Int) (v : Value) (n : Nat) (KB : Int) (WN : Wr) (w w' : World) : Prop := ∃ (fol' : Bool) (a' b' : Mpd) (v' : Value) (L' : List Mpd), W22 w' base qw first fol' a' b' v' L' ∧ WrR WN fol' a' b' L' KB ∧ L'.length ≤ n + 1 ∧ (∀ j, v'.ownBlock = some j → v.ownBlock = some j ∨ w.heap.size ≤ j)
set_option maxRecDepth 100000 in
set_option maxHeartbeats 8000000 in
theorem rpush28_any (base q qc qw qr qb c : Nat) (src many wanted goes layer first : Int) (W : Wr) (fol : Bool) (a b : Mpd) (v : Value) (L : List Mpd) (KA KB : Int) (pl i : Int) (mk : Bool) (ty sq st so : Int) (so_ : Option Addr) (no co : Nat) (xb : Bool) (pf : Int) (se : Option Addr) (ne ce : Nat) (sp : Option Addr) (np cp : Nat) (pd : Int) (lp : List Nat) (hR : WrR W fol a b L KA) (hO : W.Ok first) (hAB : KA ≤ KB) (hKB : KB ≤ 1152921504606846976) (hB1 : W.b0 + i ≤ KB) (hB2 : W.l0 + 1 + i ≤ KB) (hB3 : first + i ≤ KB) (hL : L.length ≤ 1000000) (hc3 : c < 3) (hi : i ≤ 1152921504606846976) (hn : np ≤ 100000) (w0 w : World) (hbase : base ≤ w.heap.size) (B0 : BW w0 w) (hw0 : ∀ k ∈ qc :: qw :: v.ownBlock.toList, w0.heap.size ≤ k) (SP : SB w0 (.slice sp np cp) np lp) (He : HpB w q (.cells #[.int .u32 src, .int .i64 (c : Nat), .pointer (some ⟨qc, 0, none⟩), .pointer (some ⟨qw, 0, none⟩), .pointer (some ⟨qr, 0, none⟩), .pointer (some ⟨qb, 0, none⟩)] 86)) (Cc : HpB w qc (.cells (chC many wanted goes) 102)) (Wc : W22 w base qw first fol a b v L) (N : Option (Int × Int × Int) × Bool × Int × Wr) (hN : pushN many wanted goes layer (keyC c lp) first W i st (picC c lp) = N) :
  Calls Try.prog 24 #[.pointer (some ⟨q, 0, none⟩), .int .i64 layer, .agg (arC pl i mk ty sq st so (.slice so_ no co) xb pf (.slice se ne ce) (.slice sp np cp) pd)] w fun e w' => PushE (TVq w.heap.size (lI lp) (vWide (lI lp))) N.1 N.2.1 (hasC c lp) mk ty src xb pf (.slice se ne ce) (.slice sp np cp) pd e w' ∧ HpB w' q (.cells #[.int .u32 src, .int .i64 (c : Nat), .pointer (some ⟨qc, 0, none⟩), .pointer (some ⟨qw, 0, none⟩), .pointer (some ⟨qr, 0, none⟩), .pointer (some ⟨qb, 0, none⟩)] 86) ∧ HpB w' qc (.cells (chC many wanted N.2.2.1) 102) ∧ PuW base qw first v L.length KB N.2.2.2 w w' ∧ Still (qc :: qw :: v.ownBlock.toList) w w' := by
 obtain ⟨f0, f1, f2, f3, f4, f5, f6, f7, f8, hF, hhas, hpic, hp0, hp1⟩ := ref_read c lp SP.2.1
 obtain ⟨key, hkey⟩ : ∃ b, keyC c lp = b := ⟨_, rfl⟩
 obtain ⟨pic, hpi⟩ : ∃ b, picC c lp = b := ⟨_, rfl⟩
 obtain ⟨has, hhs⟩ : ∃ b, hasC c lp = b := ⟨_, rfl⟩
 rw [hhs] at hhas hpic ⊢
 rw [hpi] at hpic hp0 hp1 hN
 rw [hkey] at hN
 obtain ⟨t, hT⟩ : ∃ t, takeN many wanted goes layer key = t := ⟨_, rfl⟩
 obtain ⟨taken, tu, gl⟩ := t
 have hol := Lib.hid Wc.row
 have hqcw := hp_ne Cc Wc.hp (by decide)
 have hqcv : ∀ j, v.ownBlock = some j → j ≠ qc := fun j hj => Wc.q.ne Cc (by decide) j hj
 have hqwv : ∀ j, v.ownBlock = some j → j ≠ qw := fun j hj => Wc.q.ne Wc.hp (by decide) j hj
 have BA : BW w (w.alloc (.cells #[.int .i64 pl, .int .i64 i, .bool mk, .int .u8 ty, .int .u16 sq, .int .u32 st, .int .u32 so, .slice so_ no co, .bool xb, .int .u16 pf, .slice se ne ce, .slice sp np cp, .int .u8 pd] 38)) := (BW.refl w).alloc
 have X1 := HpB.new w (.cells (arC pl i mk ty sq st so (.slice so_ no co) xb pf (.slice se ne ce) (.slice sp np cp) pd) 38)
 have X1 : HpB (w.alloc (.cells #[.int .i64 pl, .int .i64 i, .bool mk, .int .u8 ty, .int .u16 sq, .int .u32 st, .int .u32 so, .slice so_ no co, .bool xb, .int .u16 pf, .slice se ne ce, .slice sp np cp, .int .u8 pd] 38)) w.heap.size (.cells (arC pl i mk ty sq st so (.slice so_ no co) xb pf (.slice se ne ce) (.slice sp np cp) pd) 38) := X1
 generalize hw1 : w.alloc (.cells #[.int .i64 pl, .int .i64 i, .bool mk, .int .u8 ty, .int .u16 sq, .int .u32 st, .int .u32 so, .slice so_ no co, .bool xb, .int .u16 pf, .slice se ne ce, .slice sp np cp, .int .u8 pd] 38) = w1 at *
 have BB : BW w1 (w1.alloc (.cells #[.int .i64 0, .bool false, .int .u8 0, .int .u16 0, .int .u32 0, .int .u32 0, .slice none 0 0, .bool false, .int .u16 0, .slice none 0 0, .slice none 0 0, .int .u8 0, .bool false] 60)) := (BW.refl w1).alloc
 have Y1 : HpB (w1.alloc (.cells #[.int .i64 0, .bool false, .int .u8 0, .int .u16 0, .int .u32 0, .int .u32 0, .slice none 0 0, .bool false, .int .u16 0, .slice none 0 0, .slice none 0 0, .int .u8 0, .bool false] 60)) w1.heap.size (.cells (snC 0 false 0 0 0 0 (.slice none 0 0) false 0 (.slice none 0 0) (.slice none 0 0) 0 false) 60) := HpB.new w1 (.cells (snC 0 false 0 0 0 0 (.slice none 0 0) false 0 (.slice none 0 0) (.slice none 0 0) 0 false) 60)
 generalize hw2 : w1.alloc (.cells #[.int .i64 0, .bool false, .int .u8 0, .int .u16 0, .int .u32 0, .int .u32 0, .slice none 0 0, .bool false, .int .u16 0, .slice none 0 0, .slice none 0 0, .int .u8 0, .bool false] 60) = w2 at *
 have BC : BW w2 (w2.alloc (.cells #[.int .i64 0, .bool false, .int .u8 0, .int .u16 0, .int .u32 0, .int .u32 0, .slice none 0 0, .bool false, .int .u16 0, .slice none 0 0, .slice none 0 0, .int .u8 0, .bool false] 60)) := (BW.refl w2).alloc
 have N1 : HpB (w2.alloc (.cells #[.int .i64 0, .bool false, .int .u8 0, .int .u16 0, .int .u32 0, .int .u32 0, .slice none 0 0, .bool false, .int .u16 0, .slice none 0 0, .slice none 0 0, .int .u8 0, .bool false] 60)) w2.heap.size (.cells (snC 0 false 0 0 0 0 (.slice none 0 0) false 0 (.slice none 0 0) (.slice none 0 0) 0 false) 60) := HpB.new w2 (.cells (snC 0 false 0 0 0 0 (.slice none 0 0) false 0 (.slice none 0 0) (.slice none 0 0) 0 false) 60)
 have hyn := Lib.hid (Nat.ne_of_lt Y1.lt)
 have hgyw := Lib.hid BA.size
 have hgnw := Lib.hid (Nat.le_trans BA.size BB.size)
 have BT := BA.trans (BB.trans BC)
 replace Xc := Lib.hid (X1.bw (BB.trans BC))
 replace Yc := Lib.hid (Y1.bw BC)
 replace Nc := Lib.hid N1
 replace He := Lib.hid (He.bw BT)
 replace Cc := Lib.hid (Cc.bw BT)
 replace Wc := Lib.hid (Wc.bw BT)
 have Tc := Lib.hid (BT.still (qc :: qw :: v.ownBlock.toList))
 unfold arC
 clear BA X1 Y1 BC N1 BB BT
 have SPx : ∀ y, Still (qc :: qw :: v.ownBlock.toList) w y → SB y (.slice sp np cp) np lp := fun y hy => SP.bw (BW.stP B0 hy hw0)
 replace SPx := Lib.hid SPx
 replace hN := Lib.hid hN
 replace hT := Lib.hid hT
 replace hF := Lib.hid hF
 replace hhas := Lib.hid hhas
 replace hpic := Lib.hid hpic
 replace hhs := Lib.hid hhs
 replace hkey := Lib.hid hkey
 replace hpi := Lib.hid hpi
 replace hR := Lib.hid hR
 replace hO := Lib.hid hO
 replace hqcw := Lib.hid hqcw
 replace hqcv := Lib.hid hqcv
 replace hqwv := Lib.hid hqwv
 clear SP B0 hw0
 go_enter Try.func24, Try.ntmps24
 go_upto_region 2 with (fail)
 generalize w2.alloc _ = w3 at *
 generalize hgx : w.heap.size = gx at *
 generalize hgy : w1.heap.size = gy at *
 generalize hgn : w2.heap.size = gn at *
 replace hw1 := Lib.hid hw1
 replace hw2 := Lib.hid hw2
 replace hgx := Lib.hid hgx
 replace hgy := Lib.hid hgy
 replace hgn := Lib.hid hgn
 have z1 := (hp_cell He.out 1).trans (show _ = some (.int .i64 (c : Nat)) from rfl)
 have z2 := (hp_cell He.out 2).trans (show _ = some (.pointer (some ⟨qc, 0, none⟩)) from rfl)
 have x11 := (hp_cell Xc.out 11).trans (show _ = some (.slice sp np cp) from rfl)
 have m1 : ∀ y : LaterS [] w3, _ := fun y => y.bw.cell z1
 have m2 : ∀ y : LaterS [] w3, _ := fun y => y.bw.cell z2
 have m11 : ∀ y : LaterS [] w3, _ := fun y => y.bw.cell x11
 clear z1 z2 x11
 refine wp_region_gg ([qc]) [13] [] (by kernel_rfl) ?_
 refine hoist [] [13] (a1 := ?_) 0 rfl (by kernel_rfl) (.inl ⟨rfl, rfl⟩) rfl rfl rfl (fun x K hK => ?_) ?_
 rotate_left
 ·go_big_quiet_op
  exact hK
 refine hoist [] [13] (a1 := ?_) 1 rfl (by kernel_rfl) (.inl ⟨rfl, rfl⟩) rfl rfl rfl (fun x K hK => ?_) ?_
 rotate_left
 ·go_big_quiet_op
  exact hK
 refine hoist [] [13] (a1 := ?_) 2 rfl (by kernel_rfl) (.inl ⟨rfl, rfl⟩) rfl rfl rfl (fun x K hK => ?_) ?_
 rotate_left
 ·go_big_quiet_op
  exact hK
 refine hoist [] [13] (a1 := ?_) 3 rfl (by kernel_rfl) (.inl ⟨rfl, rfl⟩) rfl rfl rfl (fun x K hK => ?_) ?_
 rotate_left
 ·go_big_quiet_op
  exact hK
 refine hoist [] [13] (a1 := ?_) 4 rfl (by kernel_rfl) (.inl ⟨rfl, rfl⟩) rfl rfl rfl (fun x K hK => ?_) ?_
 rotate_left
 ·go_big_quiet_op
  exact hK
 refine hoist [] [13] (a1 := ?_) 5 rfl (by kernel_rfl) (.inl ⟨rfl, rfl⟩) rfl rfl rfl (fun x K hK => ?_) ?_
 rotate_left
 ·go_big_quiet_op
  exact hK
 refine hoist [] [13] (a1 := ?_) 6 rfl (by kernel_rfl) (.inl ⟨rfl, rfl⟩) rfl rfl rfl (fun x K hK => ?_) ?_
 rotate_left
 ·go_big_quiet_op
  exact hK
 refine hoist [] [13] (a1 := ?_) 7 rfl (by kernel_rfl) (.inl ⟨rfl, rfl⟩) rfl rfl rfl (fun x K hK => ?_) ?_
 rotate_left
 ·go_big_quiet_op
  exact hK
 refine hoist [] [13] (a1 := ?_) 8 rfl (by kernel_rfl) (.inl ⟨rfl, rfl⟩) rfl rfl rfl (fun x K hK => ?_) ?_
 rotate_left
 ·go_big_quiet_op
  exact hK
 refine hoist [] [13] (a1 := ?_) 9 rfl (by kernel_rfl) (.inl ⟨rfl, rfl⟩) rfl rfl rfl (fun x K hK => ?_) ?_
 rotate_left
 ·go_big_quiet_op
  exact hK
 refine hoist [] [13] (a1 := ?_) 10 rfl (by kernel_rfl) (.inl ⟨rfl, rfl⟩) rfl rfl rfl (fun x K hK => ?_) ?_
 rotate_left
 ·go_big_quiet_op
  exact hK
 refine hoist [] [13] (a1 := ?_) 11 rfl (by kernel_rfl) (.inl ⟨rfl, rfl⟩) rfl rfl rfl (fun x K hK => ?_) ?_
 rotate_left
 ·go_big_quiet_op
  exact hK
 refine effect 12 rfl (by kernel_rfl) (by kernel_rfl) rfl (fun x12 K hK => ?_)
 have hb := x12.bw
 replace He := Lib.hid (He.out.bw hb)
 replace Cc := Lib.hid (Cc.out.bw hb)
 replace Wc := Lib.hid (Wc.out.bw hb)
 replace Xc := Lib.hid (Xc.out.bw hb)
 replace Yc := Lib.hid (Yc.out.bw hb)
 replace Nc := Lib.hid (Nc.out.bw hb)
 try replace Mc := Lib.hid (Mc.out.bw hb)
 try replace Vc := Lib.hid (Vc.out.bw hb)
 try replace Zc := Lib.hid (Zc.out.bw hb)
 try replace Pc := Lib.hid (Pc.out.bw hb)
 try replace TVc := Lib.hid (OwnB.stN TVc.out (hb.still []) (fun k hk => by cases hk))
 replace Tc := Lib.hid (Tc.out.trans (hb.still _))
 clear hb
 go_simp
 have cK := rkey28_any c hc3 sp np cp lp x12.now (SPx.out _ Tc.out) hn
 rw [hkey.out] at cK
 refine Calls.mono cK ?_
 rintro e w4 ⟨rfl, hb⟩
 refine hK _ _ (hb.still _) ?_
 clear hK K cK m1 m2 m11
 replace He := Lib.hid (He.out.bw hb)
 replace Cc := Lib.hid (Cc.out.bw hb)
 replace Wc := Lib.hid (Wc.out.bw hb)
 replace Xc := Lib.hid (Xc.out.bw hb)
 replace Yc := Lib.hid (Yc.out.bw hb)
 replace Nc := Lib.hid (Nc.out.bw hb)
 try replace Mc := Lib.hid (Mc.out.bw hb)
 try replace Vc := Lib.hid (Vc.out.bw hb)
 try replace Zc := Lib.hid (Zc.out.bw hb)
 try replace Pc := Lib.hid (Pc.out.bw hb)
 try replace TVc := Lib.hid (OwnB.stN TVc.out (hb.still []) (fun k hk => by cases hk))
 replace Tc := Lib.hid (Tc.out.trans (hb.still _))
 clear hb
 try simp only [Act.put, List.setIfInBounds_toArray, List.set_cons_succ, List.set_cons_zero]
 refine effect 13 rfl (by kernel_rfl) (by kernel_rfl) rfl (fun x13 K hK => ?_)
 have hb := x13.bw
 replace He := Lib.hid (He.out.bw hb)
 replace Cc := Lib.hid (Cc.out.bw hb)
 replace Wc := Lib.hid (Wc.out.bw hb)
 replace Xc := Lib.hid (Xc.out.bw hb)
 replace Yc := Lib.hid (Yc.out.bw hb)
 replace Nc := Lib.hid (Nc.out.bw hb)
 try replace Mc := Lib.hid (Mc.out.bw hb)
 try replace Vc := Lib.hid (Vc.out.bw hb)
 try replace Zc := Lib.hid (Zc.out.bw hb)
 try replace Pc := Lib.hid (Pc.out.bw hb)
 try replace TVc := Lib.hid (OwnB.stN TVc.out (hb.still []) (fun k hk => by cases hk))
 replace Tc := Lib.hid (Tc.out.trans (hb.still _))
 clear hb
 go_simp
 have cK := c23_take qc many wanted goes layer key x13.now Cc.out
 rw [hT.out] at cK
 refine Calls.mono cK ?_
 rintro e w5 ⟨rfl, C5, T5⟩
 refine hK _ _ T5 ?_
 clear hK K cK
 replace He := Lib.hid (He.out.st T5 (by simpa using (hp_ne He.out Cc.out (by decide))))
 replace Wc := Lib.hid (Wc.out.stT T5 Cc.out (by decide) (by decide))
 replace Xc := Lib.hid (Xc.out.st T5 (by simpa using (hp_ne Xc.out Cc.out (by decide))))
 replace Yc := Lib.hid (Yc.out.st T5 (by simpa using (hp_ne Yc.out Cc.out (by decide))))
 replace Nc := Lib.hid (Nc.out.st T5 (by simpa using (hp_ne Nc.out Cc.out (by decide))))
 replace Tc := Lib.hid (Tc.out.trans (T5.weaken (fun k hk => by obtain rfl := (List.mem_singleton.1 hk); exact List.mem_cons_self)))
 replace Cc := Lib.hid C5
 clear T5 C5
 try simp only [Act.put, List.setIfInBounds_toArray, List.set_cons_succ, List.set_cons_zero]
 refine hoist [] [13] (a1 := ?_) 14 rfl (by kernel_rfl) (.inl ⟨rfl, rfl⟩) rfl rfl rfl (fun x K hK => ?_) ?_
 rotate_left
 ·go_big_quiet_op
  exact hK
 refine hoist [] [13] (a1 := ?_) 15 rfl (by kernel_rfl) (.inl ⟨rfl, rfl⟩) rfl rfl rfl (fun x K hK => ?_) ?_
 rotate_left
 ·go_big_quiet_op
  exact hK
 refine hoist [] [13] (a1 := ?_) 16 rfl (by kernel_rfl) (.inl ⟨rfl, rfl⟩) rfl rfl rfl (fun x K hK => ?_) ?_
 rotate_left
 ·go_big_quiet_op
  exact hK
 refine hoist [] [13] (a1 := ?_) 17 rfl (by kernel_rfl) (.inl ⟨rfl, rfl⟩) rfl rfl rfl (fun x K hK => ?_) ?_
 rotate_left
 ·go_big_quiet_op
  exact hK
 refine hoist [] [13] (a1 := ?_) 18 rfl (by kernel_rfl) (.inl ⟨rfl, rfl⟩) rfl rfl rfl (fun x K hK => ?_) ?_
 rotate_left
 ·go_big_quiet_op
  exact hK
 refine done (by kernel_rfl) (fun xr => ?_)
 have hb := xr.bw
 replace He := Lib.hid (He.out.bw hb)
 replace Cc := Lib.hid (Cc.out.bw hb)
 replace Wc := Lib.hid (Wc.out.bw hb)
 replace Xc := Lib.hid (Xc.out.bw hb)
 replace Yc := Lib.hid (Yc.out.bw hb)
 replace Nc := Lib.hid (Nc.out.bw hb)
 try replace Mc := Lib.hid (Mc.out.bw hb)
 try replace Vc := Lib.hid (Vc.out.bw hb)
 try replace Zc := Lib.hid (Zc.out.bw hb)
 try replace Pc := Lib.hid (Pc.out.bw hb)
 try replace TVc := Lib.hid (OwnB.stN TVc.out (hb.still []) (fun k hk => by cases hk))
 replace Tc := Lib.hid (Tc.out.trans (hb.still _))
 clear hb
 generalize xr.now = w6 at *
 clear xr
 cases taken with
 | false =>
  have hNe : N = (none, false, gl, W) := by rw [← hN.out, pushN_no hT.out]
  subst hNe
  have st20 := still_rowS w6 gy #[.int .i64 0, .bool false, .int .u8 0, .int .u16 0, .int .u32 0, .int .u32 0, .slice none 0 0, .bool false, .int .u16 0, .slice none 0 0, .slice none 0 0, .int .u8 0, .bool false]
  have Y9 : Hid (HpB (w6.setRow gy #[.int .i64 0, .bool false, .int .u8 0, .int .u16 0, .int .u32 0, .int .u32 0, .slice none 0 0, .bool false, .int .u16 0, .slice none 0 0, .slice none 0 0, .int .u8 0, .bool false]) gy (.cells #[.int .i64 0, .bool false, .int .u8 0, .int .u16 0, .int .u32 0, .int .u32 0, .slice none 0 0, .bool false, .int .u16 0, .slice none 0 0, .slice none 0 0, .int .u8 0, .bool false] 60)) := Lib.hid (Yc.out.rowS #[.int .i64 0, .bool false, .int .u8 0, .int .u16 0, .int .u32 0, .int .u32 0, .slice none 0 0, .bool false, .int .u16 0, .slice none 0 0, .slice none 0 0, .int .u8 0, .bool false])
  have H9 := Lib.hid (He.out.st st20 (by simpa using (hp_ne He.out Yc.out (by decide))))
  have C9 := Lib.hid (Cc.out.st st20 (by simpa using (hp_ne Cc.out Yc.out (by decide))))
  have W9 := Lib.hid (Wc.out.stT st20 Yc.out (by decide) (by decide))
  have T9 := Lib.hid (Tc.out.stNew st20 (fun k hk => by obtain rfl := (List.mem_singleton.1 hk); have := hgy.out; have := hgx.out; have := hgyw.out; omega))
  clear st20
  have hNr := Lib.hid (Nc.out.range 0 (#[.int .i64 0, .bool false, .int .u8 0, .int .u16 0, .int .u32 0, .int .u32 0, .slice none 0 0, .bool false, .int .u16 0, .slice none 0 0, .slice none 0 0, .int .u8 0, .bool false] : Array Value).toList rfl)
  go_wp2_with (first | (refine swLdC swSn rfl rfl rfl hNr.out rfl ?_) | (refine swSt swSn rfl rfl rfl rfl Yc.out rfl rfl (by kernel_rfl) ?_))
  generalize w6.setRow gy #[.int .i64 0, .bool false, .int .u8 0, .int .u16 0, .int .u32 0, .int .u32 0, .slice none 0 0, .bool false, .int .u16 0, .slice none 0 0, .slice none 0 0, .int .u8 0, .bool false] = w21 at *
  have v0 := (hp_cell Y9.out 0).trans (show _ = some (.int .i64 0) from rfl)
  have v1 := (hp_cell Y9.out 1).trans (show _ = some (.bool false) from rfl)
  have v2 := (hp_cell Y9.out 2).trans (show _ = some (.int .u8 0) from rfl)
  have v3 := (hp_cell Y9.out 3).trans (show _ = some (.int .u16 0) from rfl)
  have v4 := (hp_cell Y9.out 4).trans (show _ = some (.int .u32 0) from rfl)
  have v5 := (hp_cell Y9.out 5).trans (show _ = some (.int .u32 0) from rfl)
  have v6 := (hp_cell Y9.out 6).trans (show _ = some (.slice none 0 0) from rfl)
  have v7 := (hp_cell Y9.out 7).trans (show _ = some (.bool false) from rfl)
  have v8 := (hp_cell Y9.out 8).trans (show _ = some (.int .u16 0) from rfl)
  have v9 := (hp_cell Y9.out 9).trans (show _ = some (.slice none 0 0) from rfl)
  have v10 := (hp_cell Y9.out 10).trans (show _ = some (.slice none 0 0) from rfl)
  have v11 := (hp_cell Y9.out 11).trans (show _ = some (.int .u8 0) from rfl)
  have v12 := (hp_cell Y9.out 12).trans (show _ = some (.bool false) from rfl)
  exact bodyPost_ret (v := .tuple #[.agg #[.int .i64 0, .bool false, .int .u8 0, .int .u16 0, .int .u32 0, .int .u32 0, .slice none 0 0, .bool false, .int .u16 0, .slice none 0 0, .slice none 0 0, .int .u8 0, .bool false], .bool false]) (by simp [results, Try.results24, go_sem, v0, v1, v2, v3, v4, v5, v6, v7, v8, v9, v10, v11, v12]) rfl ⟨.inl ⟨rfl, rfl⟩, H9.out, C9.out, ⟨fol, a, b, v, L, W9.out, hR.out.up hAB, by omega, fun _ hj => .inl hj⟩, T9.out⟩
 | true =>
  have x1 := (hp_cell Xc.out 1).trans (show _ = some (.int .i64 i) from rfl)
  have x5 := (hp_cell Xc.out 5).trans (show _ = some (.int .u32 st) from rfl)
  have BM : BW w6 (w6.alloc (.cells #[.int .i64 i, .int .u32 st, .int .u16 0] 51)) := (BW.refl w6).alloc
  have Mx := Lib.hid (HpB.new w6 (.cells #[.int .i64 i, .int .u32 st, .int .u16 0] 51))
  have hgm0 := Lib.hid Tc.out.size
  have hb := BM
  replace He := Lib.hid (He.out.bw hb)
  replace Cc := Lib.hid (Cc.out.bw hb)
  replace Wc := Lib.hid (Wc.out.bw hb)
  replace Xc := Lib.hid (Xc.out.bw hb)
  replace Yc := Lib.hid (Yc.out.bw hb)
  replace Nc := Lib.hid (Nc.out.bw hb)
  try replace Mc := Lib.hid (Mc.out.bw hb)
  try replace Vc := Lib.hid (Vc.out.bw hb)
  try replace Zc := Lib.hid (Zc.out.bw hb)
  try replace Pc := Lib.hid (Pc.out.bw hb)
  try replace TVc := Lib.hid (OwnB.stN TVc.out (hb.still []) (fun k hk => by cases hk))
  replace Tc := Lib.hid (Tc.out.trans (hb.still _))
  clear hb
  have Mc := Mx
  clear Mx
  replace BM := Lib.hid BM
  go_upto_region 6 with (fail)
  generalize w6.alloc (.cells #[.int .i64 i, .int .u32 st, .int .u16 0] 51) = w7 at *
  generalize w6.heap.size = gm at *
  clear x1 x5 BM
  have x11 := (hp_cell Xc.out 11).trans (show _ = some (.slice sp np cp) from rfl)
  have cR := Ref_any (lI lp) sp np cp w7 (SlB_of_SB (SPx.out _ Tc.out))
  unfold rPost at cR
  rw [hF.out] at cR
  replace cR := Lib.hid cR
  go_wp2_with fail
  refine Calls.mono cR.out ?_
  rintro e w8 ⟨rfl, hb⟩
  replace hb : BW w7 w8 := hb
  clear x11 cR
  replace He := Lib.hid (He.out.bw hb)
  replace Cc := Lib.hid (Cc.out.bw hb)
  replace Wc := Lib.hid (Wc.out.bw hb)
  replace Xc := Lib.hid (Xc.out.bw hb)
  replace Yc := Lib.hid (Yc.out.bw hb)
  replace Nc := Lib.hid (Nc.out.bw hb)
  try replace Mc := Lib.hid (Mc.out.bw hb)
  try replace Vc := Lib.hid (Vc.out.bw hb)
  try replace Zc := Lib.hid (Zc.out.bw hb)
  try replace Pc := Lib.hid (Pc.out.bw hb)
  try replace TVc := Lib.hid (OwnB.stN TVc.out (hb.still []) (fun k hk => by cases hk))
  replace Tc := Lib.hid (Tc.out.trans (hb.still _))
  clear hb
  dsimp only
  have BV : BW w8 (w8.alloc (.cells #[.bool f0, .int .u8 f1, .bool f2, .bool f3, .int .u16 f4, .bool f5, .int .i64 f6] 65)) := (BW.refl _).alloc
  have Vx := Lib.hid (HpB.new w8 (.cells #[.bool f0, .int .u8 f1, .bool f2, .bool f3, .int .u16 f4, .bool f5, .int .i64 f6] 65))
  have hb := BV
  replace He := Lib.hid (He.out.bw hb)
  replace Cc := Lib.hid (Cc.out.bw hb)
  replace Wc := Lib.hid (Wc.out.bw hb)
  replace Xc := Lib.hid (Xc.out.bw hb)
  replace Yc := Lib.hid (Yc.out.bw hb)
  replace Nc := Lib.hid (Nc.out.bw hb)
  try replace Mc := Lib.hid (Mc.out.bw hb)
  try replace Vc := Lib.hid (Vc.out.bw hb)
  try replace Zc := Lib.hid (Zc.out.bw hb)
  try replace Pc := Lib.hid (Pc.out.bw hb)
  try replace TVc := Lib.hid (OwnB.stN TVc.out (hb.still []) (fun k hk => by cases hk))
  replace Tc := Lib.hid (Tc.out.trans (hb.still _))
  clear hb
  have Vc := Vx
  clear Vx
  replace BV := Lib.hid BV
  go_upto_region 7 with (fail)
  generalize w8.alloc (.cells #[.bool f0, .int .u8 f1, .bool f2, .bool f3, .int .u16 f4, .bool f5, .int .i64 f6] 65) = w9 at *
  generalize w8.heap.size = gv at *
  clear BV
  go_cut [15] (fun y wc => y = .bool has ∧ w9 = wc)
  case first =>
   have z1 := (hp_cell He.out 1).trans (show _ = some (.int .i64 (c : Nat)) from rfl)
   have v2 := (hp_cell Vc.out 2).trans (show _ = some (.bool f2) from rfl)
   by_cases hc1 : c = 1
   ·have dc : ((c : Int) == 1) = true := by simp; omega
    have hh : has = ((f8 == 0) && f2) := by rw [hhas.out]; simp [hc1]
    replace hc1 := Lib.hid hc1
    cases hde : (f8 == 0) with
    | true =>
     rw [hde] at hh
     replace hh := Lib.hid hh
     go_wp2_with fail
     go_meet
     exact ⟨by rw [hh.out]; rfl, rfl⟩
    | false =>
     rw [hde] at hh
     replace hh := Lib.hid hh
     go_wp2_with fail
     go_meet
     exact ⟨by rw [hh.out]; rfl, rfl⟩
   ·have dc : ((c : Int) == 1) = false := by simp; omega
    have hh : has = false := by rw [hhas.out]; simp [hc1]
    replace hc1 := Lib.hid hc1
    replace hh := Lib.hid hh
    go_wp2_with fail
    go_meet
    exact ⟨by rw [hh.out], rfl⟩
  obtain ⟨rfl, rfl⟩ := hcut
  go_upto_if 66 with (fail)
  go_cut [] (fun wc => Hid (W22 wc base qw first fol a b v L) ∧ Hid (HpB wc gm (.cells #[.int .i64 i, .int .u32 st, .int .u16 pic] 51)) ∧ Hid (HpB wc q (.cells #[.int .u32 src, .int .i64 (c : Nat), .pointer (some ⟨qc, 0, none⟩), .pointer (some ⟨qw, 0, none⟩), .pointer (some ⟨qr, 0, none⟩), .pointer (some ⟨qb, 0, none⟩)] 86)) ∧ Hid (HpB wc qc (.cells (chC many wanted gl) 102)) ∧ Hid (HpB wc gx (.cells (arC pl i mk ty sq st so (.slice so_ no co) xb pf (.slice se ne ce) (.slice sp np cp) pd) 38)) ∧ Hid (HpB wc gy (.cells (snC 0 false 0 0 0 0 (.slice none 0 0) false 0 (.slice none 0 0) (.slice none 0 0) 0 false) 60)) ∧ Hid (HpB wc gn (.cells (snC 0 false 0 0 0 0 (.slice none 0 0) false 0 (.slice none 0 0) (.slice none 0 0) 0 false) 60)) ∧ Hid (Still (qc :: qw :: v.ownBlock.toList) w wc))
  case first =>
   cases has with
   | true =>
    have hp : pic = f4 := by rw [hpic.out]; simp
    subst hp
    have v4 := (hp_cell Vc.out 4).trans (show _ = some (.int .u16 pic) from rfl)
    have y2 := hp_frz Mc.out 2
    have u2 := (hp_cell Mc.out 2).trans (show _ = some (.int .u16 0) from rfl)
    have st9 := still_sc w9 gm 2 (.int .u16 pic)
    have M9 : Hid (HpB (w9.setCell ⟨gm, 2, none⟩ (.int .u16 pic)) gm (.cells #[.int .i64 i, .int .u32 st, .int .u16 pic] 51)) := Lib.hid (hp_set Mc.out 2 _)
    have H9 := Lib.hid (He.out.st st9 (by simpa using (hp_ne He.out Mc.out (by decide))))
    have C9 := Lib.hid (Cc.out.st st9 (by simpa using (hp_ne Cc.out Mc.out (by decide))))
    have X9 := Lib.hid (Xc.out.st st9 (by simpa using (hp_ne Xc.out Mc.out (by decide))))
    have Y9 := Lib.hid (Yc.out.st st9 (by simpa using (hp_ne Yc.out Mc.out (by decide))))
    have N9 := Lib.hid (Nc.out.st st9 (by simpa using (hp_ne Nc.out Mc.out (by decide))))
    have W9 := Lib.hid (Wc.out.st st9 (by simpa using (hp_ne Wc.out.hp Mc.out (by decide))) (fun j hj hm => by
     obtain rfl : j = gm := by simpa using hm
     have := hol.out _ hj
     have := hgx.out
     have := hgm0.out
     omega))
    have T9 := Lib.hid (Tc.out.stNew st9 (fun k hk => by obtain rfl := (List.mem_singleton.1 hk); have := hgm0.out; have := hgx.out; omega))
    clear st9
    go_wp2_with fail
    go_meet
    exact ⟨W9, M9, H9, C9, X9, Y9, N9, T9⟩
   | false =>
    have hp : pic = 0 := by rw [hpic.out]; simp
    subst hp
    go_wp2_with fail
    go_meet
    exact ⟨Wc, Mc, He, Cc, Xc, Yc, Nc, Tc⟩
  clear Wc Mc He Cc Xc Yc Nc Tc Vc
  obtain ⟨Wc, Mc, He, Cc, Xc, Yc, Nc, Tc⟩ := hcut
  generalize hwcn : wc = wa at *
  clear hwcn
  go_upto_if 70 with (fail)
  go_cut [] (fun wc => ∃ (V : Wr) (fo2 : Bool) (a2 b2 : Mpd), Hid (V = if tu = true then W.follow first i st pic else W) ∧ Hid (WrR V fo2 a2 b2 L KA) ∧ Hid (W22 wc base qw first fo2 a2 b2 v L) ∧ Hid (HpB wc gm (.cells #[.int .i64 i, .int .u32 st, .int .u16 pic] 51)) ∧ Hid (HpB wc q (.cells #[.int .u32 src, .int .i64 (c : Nat), .pointer (some ⟨qc, 0, none⟩), .pointer (some ⟨qw, 0, none⟩), .pointer (some ⟨qr, 0, none⟩), .pointer (some ⟨qb, 0, none⟩)] 86)) ∧ Hid (HpB wc qc (.cells (chC many wanted gl) 102)) ∧ Hid (HpB wc gx (.cells (arC pl i mk ty sq st so (.slice so_ no co) xb pf (.slice se ne ce) (.slice sp np cp) pd) 38)) ∧ Hid (HpB wc gy (.cells (snC 0 false 0 0 0 0 (.slice none 0 0) false 0 (.slice none 0 0) (.slice none 0 0) 0 false) 60)) ∧ Hid (HpB wc gn (.cells (snC 0 false 0 0 0 0 (.slice none 0 0) false 0 (.slice none 0 0) (.slice none 0 0) 0 false) 60)) ∧ Hid (Still (qc :: qw :: v.ownBlock.toList) w wc))
  case first =>
   cases tu with
   | true =>
    have z3 := (hp_cell He.out 3).trans (show _ = some (.pointer (some ⟨qw, 0, none⟩)) from rfl)
    have m3 : ∀ y : LaterS [] wa, _ := fun y => y.bw.cell z3
    clear z3
    go_upto_region 11 with (fail)
    refine wp_region_gg ([qw]) [5] [] (by kernel_rfl) ?_
    refine hoist [] [5] (a1 := ?_) 0 rfl (by kernel_rfl) (.inl ⟨rfl, rfl⟩) rfl rfl rfl (fun x K hK => ?_) ?_
    rotate_left
    ·go_big_quiet_op
     exact hK
    refine hoist [] [5] (a1 := ?_) 1 rfl (by kernel_rfl) (.inl ⟨rfl, rfl⟩) rfl rfl rfl (fun x K hK => ?_) ?_
    rotate_left
    ·go_big_quiet_op
     exact hK
    refine hoist [] [5] (a1 := ?_) 2 rfl (by kernel_rfl) (.inl ⟨rfl, rfl⟩) rfl rfl rfl (fun x K hK => ?_) ?_
    rotate_left
    ·go_big_quiet_op
     exact hK
    refine hoist [] [5] (a1 := ?_) 3 rfl (by kernel_rfl) (.inl ⟨rfl, rfl⟩) rfl rfl rfl (fun x K hK => ?_) ?_
    rotate_left
    ·go_big_quiet_op
     exact hK
    refine hoist [] [5] (a1 := ?_) 4 rfl (by kernel_rfl) (.inl ⟨rfl, rfl⟩) rfl rfl rfl (fun x K hK => ?_) ?_
    rotate_left
    ·refine swQl swMp (l := [.int .i64 i, .int .u32 st, .int .u16 pic]) rfl (by rfl) rfl (fun w' hw => by subst hw; exact (Mc.out.bw x.bw).range 0 _ rfl) (by simp only [Act.put, List.setIfInBounds_toArray, List.set_cons_succ, List.set_cons_zero]; rfl) ?_
     exact hK
    refine effect 5 rfl (by kernel_rfl) (by kernel_rfl) rfl (fun x5 K hK => ?_)
    have hb := x5.bw
    replace He := Lib.hid (He.out.bw hb)
    replace Cc := Lib.hid (Cc.out.bw hb)
    replace Wc := Lib.hid (Wc.out.bw hb)
    replace Xc := Lib.hid (Xc.out.bw hb)
    replace Yc := Lib.hid (Yc.out.bw hb)
    replace Nc := Lib.hid (Nc.out.bw hb)
    try replace Mc := Lib.hid (Mc.out.bw hb)
    try replace Vc := Lib.hid (Vc.out.bw hb)
    try replace Zc := Lib.hid (Zc.out.bw hb)
    try replace Pc := Lib.hid (Pc.out.bw hb)
    try replace TVc := Lib.hid (OwnB.stN TVc.out (hb.still []) (fun k hk => by cases hk))
    replace Tc := Lib.hid (Tc.out.trans (hb.still _))
    clear hb
    go_simp
    refine Calls.mono (follow22_any base qw first W fol a b v L KA i st pic hR.out (by omega) ⟨hp0, hp1⟩ x5.now Wc.out) ?_
    rintro e w8' ⟨⟨er, rfl⟩, ⟨fo2, a2, b2, W8, R8⟩, T8⟩
    refine hK _ _ T8 ?_
    clear hK K m3
    replace He := Lib.hid (He.out.st T8 (by simpa using (hp_ne He.out Wc.out.hp (by decide))))
    replace Cc := Lib.hid (Cc.out.st T8 (by simpa using hqcw.out))
    replace Xc := Lib.hid (Xc.out.st T8 (by simpa using (hp_ne Xc.out Wc.out.hp (by decide))))
    replace Yc := Lib.hid (Yc.out.st T8 (by simpa using (hp_ne Yc.out Wc.out.hp (by decide))))
    replace Nc := Lib.hid (Nc.out.st T8 (by simpa using (hp_ne Nc.out Wc.out.hp (by decide))))
    replace Mc := Lib.hid (Mc.out.st T8 (by simpa using (hp_ne Mc.out Wc.out.hp (by decide))))
    replace Tc := Lib.hid (Tc.out.trans (T8.weaken (fun k hk => by obtain rfl := (List.mem_singleton.1 hk); exact List.mem_cons_of_mem _ List.mem_cons_self)))
    replace Wc := Lib.hid W8
    replace R8 := Lib.hid R8
    clear T8 W8
    try simp only [Act.put, List.setIfInBounds_toArray, List.set_cons_succ, List.set_cons_zero]
    refine done (by kernel_rfl) (fun xr => ?_)
    have hb := xr.bw
    replace He := Lib.hid (He.out.bw hb)
    replace Cc := Lib.hid (Cc.out.bw hb)
    replace Wc := Lib.hid (Wc.out.bw hb)
    replace Xc := Lib.hid (Xc.out.bw hb)
    replace Yc := Lib.hid (Yc.out.bw hb)
    replace Nc := Lib.hid (Nc.out.bw hb)
    try replace Mc := Lib.hid (Mc.out.bw hb)
    try replace Vc := Lib.hid (Vc.out.bw hb)
    try replace Zc := Lib.hid (Zc.out.bw hb)
    try replace Pc := Lib.hid (Pc.out.bw hb)
    try replace TVc := Lib.hid (OwnB.stN TVc.out (hb.still []) (fun k hk => by cases hk))
    replace Tc := Lib.hid (Tc.out.trans (hb.still _))
    clear hb
    generalize xr.now = wb at *
    clear xr
    go_wp2_with fail
    go_meet
    exact ⟨_, fo2, a2, b2, Lib.hid rfl, R8, Wc, Mc, He, Cc, Xc, Yc, Nc, Tc⟩
   | false =>
    go_wp2_with fail
    go_meet
    exact ⟨_, fol, a, b, Lib.hid rfl, hR, Wc, Mc, He, Cc, Xc, Yc, Nc, Tc⟩
  clear Wc Mc He Cc Xc Yc Nc Tc
  obtain ⟨V, fo2, a2, b2, hV, hRV, Wc, Mc, He, Cc, Xc, Yc, Nc, Tc⟩ := hcut
  generalize hwcn : wc = wb at *
  clear hwcn
  obtain ⟨M, hM⟩ : ∃ M, V.map i st pic = M := ⟨_, rfl⟩
  have hVo : V.Ok' first := by
   rw [hV.out]
   split
   ·exact hO.out.follow i st pic
   ·exact hO.out.up
  have hVb : V.b0 + i ≤ KB := by
   rw [hV.out]
   split
   ·unfold Wr.follow
    split
    ·show (if W.out = true then W.l0 + 1 else first) + i ≤ KB
     split <;> assumption
    ·exact hB1
   ·exact hB1
  have hNe : N = (M.1, tu, gl, M.2) := by rw [← hN.out, pushN_yes hT.out, ← hV.out, hM]
  have cM := Lib.hid (fun (y : World) (hbs : base ≤ y.heap.size) (hy : W22 y base qw first fo2 a2 b2 v L) => map22_any base qw first V fo2 a2 b2 v L KA KB i st pic hRV.out hVo hAB hVb hi ⟨hp0, hp1⟩ hL y hbs hy M hM)
  subst hNe
  replace hM := Lib.hid hM
  replace hVo := Lib.hid hVo
  replace hVb := Lib.hid hVb
  go_upto_region 12 with (fail)
  go_cut [16, 17] (fun y13 y14 wc => ∃ (gz : Nat) (n0 n3 n4 er : Int) (v2 : Value) (L2 : List Mpd), y13 = .pointer (some ⟨gz, 0, none⟩) ∧ y14 = .int .i64 er ∧ Hid (MapR M.1 n0 n3 n4 er) ∧ Hid (HpB wc gz (.cells #[.int .i64 n0, .int .u32 n3, .int .u16 n4] 51)) ∧ Hid (w.heap.size ≤ gz) ∧ Hid (W22 wc base qw first fo2 a2 b2 v2 L2) ∧ Hid (WrR M.2 fo2 a2 b2 L2 KB) ∧ Hid (L2.length ≤ L.length + 1) ∧ Hid (∀ j, v2.ownBlock = some j → v.ownBlock = some j ∨ w.heap.size ≤ j) ∧ Hid (HpB wc q (.cells #[.int .u32 src, .int .i64 (c : Nat), .pointer (some ⟨qc, 0, none⟩), .pointer (some ⟨qw, 0, none⟩), .pointer (some ⟨qr, 0, none⟩), .pointer (some ⟨qb, 0, none⟩)] 86)) ∧ Hid (HpB wc qc (.cells (chC many wanted gl) 102)) ∧ Hid (HpB wc gx (.cells (arC pl i mk ty sq st so (.slice so_ no co) xb pf (.slice se ne ce) (.slice sp np cp) pd) 38)) ∧ Hid (HpB wc gy (.cells (snC 0 false 0 0 0 0 (.slice none 0 0) false 0 (.slice none 0 0) (.slice none 0 0) 0 false) 60)) ∧ Hid (HpB wc gn (.cells (snC 0 false 0 0 0 0 (.slice none 0 0) false 0 (.slice none 0 0) (.slice none 0 0) 0 false) 60)) ∧ Hid (Still (qc :: qw :: v.ownBlock.toList) w wc))
  case first =>
   have z3 := (hp_cell He.out 3).trans (show _ = some (.pointer (some ⟨qw, 0, none⟩)) from rfl)
   have m3 : ∀ y : LaterS [] wb, _ := fun y => y.bw.cell z3
   clear z3
   refine wp_region_gl (qw :: v.ownBlock.toList) [5] [] [10] (by kernel_rfl) ?_
   refine hoist [] [5] (a1 := ?_) 0 rfl (by kernel_rfl) (.inl ⟨rfl, rfl⟩) rfl rfl rfl (fun x K hK => ?_) ?_
   rotate_left
   ·go_big_quiet_op
    exact hK
   refine hoist [] [5] (a1 := ?_) 1 rfl (by kernel_rfl) (.inl ⟨rfl, rfl⟩) rfl rfl rfl (fun x K hK => ?_) ?_
   rotate_left
   ·go_big_quiet_op
    exact hK
   refine hoist [] [5] (a1 := ?_) 2 rfl (by kernel_rfl) (.inl ⟨rfl, rfl⟩) rfl rfl rfl (fun x K hK => ?_) ?_
   rotate_left
   ·go_big_quiet_op
    exact hK
   refine hoist [] [5] (a1 := ?_) 3 rfl (by kernel_rfl) (.inl ⟨rfl, rfl⟩) rfl rfl rfl (fun x K hK => ?_) ?_
   rotate_left
   ·go_big_quiet_op
    exact hK
   refine hoist [] [5] (a1 := ?_) 4 rfl (by kernel_rfl) (.inl ⟨rfl, rfl⟩) rfl rfl rfl (fun x K hK => ?_) ?_
   rotate_left
   ·refine swQl swMp (l := [.int .i64 i, .int .u32 st, .int .u16 pic]) rfl (by rfl) rfl (fun w' hw => by subst hw; exact (Mc.out.bw x.bw).range 0 _ rfl) (by simp only [Act.put, List.setIfInBounds_toArray, List.set_cons_succ, List.set_cons_zero]; rfl) ?_
    exact hK
   refine effect2 5 9 rfl rfl (by kernel_rfl) (by kernel_rfl) (by kernel_rfl) rfl rfl (fun x5 K hK => ?_) (fun x9 K hK => ?_)
   ·skip
    have hb := x5.bw
    replace He := Lib.hid (He.out.bw hb)
    replace Cc := Lib.hid (Cc.out.bw hb)
    replace Wc := Lib.hid (Wc.out.bw hb)
    replace Xc := Lib.hid (Xc.out.bw hb)
    replace Yc := Lib.hid (Yc.out.bw hb)
    replace Nc := Lib.hid (Nc.out.bw hb)
    try replace Mc := Lib.hid (Mc.out.bw hb)
    try replace Vc := Lib.hid (Vc.out.bw hb)
    try replace Zc := Lib.hid (Zc.out.bw hb)
    try replace Pc := Lib.hid (Pc.out.bw hb)
    try replace TVc := Lib.hid (OwnB.stN TVc.out (hb.still []) (fun k hk => by cases hk))
    replace Tc := Lib.hid (Tc.out.trans (hb.still _))
    clear hb
    go_simp
    refine Calls.mono (cM.out x5.now (by have := Tc.out.size; have := hbase; have := hgx.out; omega) Wc.out) ?_
    rintro e w11 ⟨n0, n3, n4, er, rfl, hMR, ⟨v2, L2, W11, hR2, hl2, hG⟩, T11⟩
    refine hK _ _ T11 ?_
    clear hK K
    try clear m3
    try clear Mc
    have hsz := Tc.out.size
    try have hnz := Lib.hid (show ∀ j, v2.ownBlock = some j → j ≠ gz from fun j hj => by
     have h1 := Zc.out.lt
     have h2 := hwz.out
     rcases hG j hj with h | h
     ·have := hol.out _ h
      have := hgx.out
      omega
     ·omega)
    have hG2 := Lib.hid (show ∀ j, v2.ownBlock = some j → v.ownBlock = some j ∨ w.heap.size ≤ j from fun j hj => (hG j hj).imp_right (Nat.le_trans hsz))
    replace hMR := Lib.hid hMR
    replace hR2 := Lib.hid hR2
    replace hl2 := Lib.hid hl2
    replace He := Lib.hid (He.out.st T11 (Wc.out.nin He.out (by decide) (by decide)))
    replace Cc := Lib.hid (Cc.out.st T11 (Wc.out.nin Cc.out (by decide) (by decide)))
    replace Xc := Lib.hid (Xc.out.st T11 (Wc.out.nin Xc.out (by decide) (by decide)))
    replace Yc := Lib.hid (Yc.out.st T11 (Wc.out.nin Yc.out (by decide) (by decide)))
    replace Nc := Lib.hid (Nc.out.st T11 (Wc.out.nin Nc.out (by decide) (by decide)))
    try replace Zc := Lib.hid (Zc.out.st T11 (by
     intro hm
     rcases List.mem_cons.1 hm with e | e
     ·exact hp_ne Zc.out Wc.out.hp (by decide) e
     ·rw [Option.mem_toList] at e
      have := hol.out _ e
      have := hgx.out
      have := hwz.out
      omega))
    replace Tc := Lib.hid (Tc.out.trans (T11.weaken (fun k hk => List.mem_cons_of_mem _ hk)))
    replace Wc := Lib.hid W11
    clear T11 W11 hG hsz
    try simp only [Act.put, List.setIfInBounds_toArray, List.set_cons_succ, List.set_cons_zero]
    refine hoist [] [5] (a1 := ?_) 6 rfl (by kernel_rfl) (.inl ⟨rfl, rfl⟩) rfl rfl rfl (fun x K hK => ?_) ?_
    rotate_left
    ·go_big_quiet_op
     exact hK
    refine hoist [] [5] (a1 := ?_) 7 rfl (by kernel_rfl) (.inl ⟨rfl, rfl⟩) rfl rfl rfl (fun x K hK => ?_) ?_
    rotate_left
    ·go_big_quiet_op
     exact hK
    refine hoistP (a1 := ?_) 8 rfl (by kernel_rfl) rfl (fun x => rfl) ?_ ?_
    rotate_left
    ·simp only [Act.put, List.setIfInBounds_toArray, List.set_cons_succ, List.set_cons_zero]; rfl
    refine effect 9 rfl (by kernel_rfl) (by kernel_rfl) rfl (fun x9 K hK => ?_)
    go_simp
    refine hK _ _ (Still.of_below ((Below.refl _ _).alloc (Nat.le_refl _) _)) ?_
    clear hK K
    try clear Mc
    have hwz := Lib.hid (Nat.le_trans Tc.out.size x9.bw.size)
    have hb := x9.bw.trans ((BW.refl x9.now).alloc (o := .cells #[.int .i64 0, .int .u32 0, .int .u16 0] 51))
    try have hnz := Lib.hid (fun j hj => Nat.ne_of_lt ((Wc.out.bw x9.bw).row j hj))
    replace He := Lib.hid (He.out.bw hb)
    replace Cc := Lib.hid (Cc.out.bw hb)
    replace Wc := Lib.hid (Wc.out.bw hb)
    replace Xc := Lib.hid (Xc.out.bw hb)
    replace Yc := Lib.hid (Yc.out.bw hb)
    replace Nc := Lib.hid (Nc.out.bw hb)
    try replace Mc := Lib.hid (Mc.out.bw hb)
    try replace Vc := Lib.hid (Vc.out.bw hb)
    try replace Zc := Lib.hid (Zc.out.bw hb)
    try replace Pc := Lib.hid (Pc.out.bw hb)
    try replace TVc := Lib.hid (OwnB.stN TVc.out (hb.still []) (fun k hk => by cases hk))
    replace Tc := Lib.hid (Tc.out.trans (hb.still _))
    clear hb
    have Zc := Lib.hid (HpB.new x9.now (.cells #[.int .i64 0, .int .u32 0, .int .u16 0] 51))
    generalize x9.now.alloc (.cells #[.int .i64 0, .int .u32 0, .int .u16 0] 51) = w10 at *
    generalize x9.now.heap.size = gz at *
    try clear m3
    try simp only [Act.put, List.setIfInBounds_toArray, List.set_cons_succ, List.set_cons_zero]
    refine effectL 10 rfl (by kernel_rfl) rfl (by kernel_rfl) rfl (fun x10 K hK => ?_)
    have hb := x10.bw
    replace He := Lib.hid (He.out.bw hb)
    replace Cc := Lib.hid (Cc.out.bw hb)
    replace Wc := Lib.hid (Wc.out.bw hb)
    replace Xc := Lib.hid (Xc.out.bw hb)
    replace Yc := Lib.hid (Yc.out.bw hb)
    replace Nc := Lib.hid (Nc.out.bw hb)
    try replace Mc := Lib.hid (Mc.out.bw hb)
    try replace Vc := Lib.hid (Vc.out.bw hb)
    try replace Zc := Lib.hid (Zc.out.bw hb)
    try replace Pc := Lib.hid (Pc.out.bw hb)
    try replace TVc := Lib.hid (OwnB.stN TVc.out (hb.still []) (fun k hk => by cases hk))
    replace Tc := Lib.hid (Tc.out.trans (hb.still _))
    clear hb
    have st9 := still_rowS x10.now gz #[.int .i64 n0, .int .u32 n3, .int .u16 n4]
    have Z9 := Lib.hid (Zc.out.rowS #[.int .i64 n0, .int .u32 n3, .int .u16 n4])
    have H9 := Lib.hid (He.out.st st9 (by simpa using (hp_ne He.out Zc.out (by decide))))
    have C9 := Lib.hid (Cc.out.st st9 (by simpa using (hp_ne Cc.out Zc.out (by decide))))
    have X9 := Lib.hid (Xc.out.st st9 (by simpa using (hp_ne Xc.out Zc.out (by decide))))
    have Y9 := Lib.hid (Yc.out.st st9 (by simpa using (hp_ne Yc.out Zc.out (by decide))))
    have N9 := Lib.hid (Nc.out.st st9 (by simpa using (hp_ne Nc.out Zc.out (by decide))))
    have W9 := Lib.hid (Wc.out.st st9 (by simpa using (hp_ne Wc.out.hp Zc.out (by decide))) (fun j hj hm => by
     obtain rfl : j = gz := by simpa using hm
     exact hnz.out _ hj rfl))
    have T9 := Lib.hid (Tc.out.stNew st9 (fun k hk => by obtain rfl := (List.mem_singleton.1 hk); exact hwz.out))
    have Zold := Zc
    clear st9 Zc He Cc Xc Yc Nc Wc Tc
    have Zc := Z9
    have He := H9
    have Cc := C9
    have Xc := X9
    have Yc := Y9
    have Nc := N9
    have Wc := W9
    have Tc := T9
    clear Z9 H9 C9 X9 Y9 N9 W9 T9
    refine swStO swMp rfl rfl rfl Zold.out rfl rfl (by kernel_rfl) ?_
    refine hK _ _ ?_
    clear hK K Zold
    generalize x10.now.setRow gz #[.int .i64 n0, .int .u32 n3, .int .u16 n4] = w12 at *
    try simp only [Act.put, List.setIfInBounds_toArray, List.set_cons_succ, List.set_cons_zero]
    refine hoist [] [5] (a1 := ?_) 11 rfl (by kernel_rfl) (.inl ⟨rfl, rfl⟩) rfl rfl rfl (fun x K hK => ?_) ?_
    rotate_left
    ·go_big_quiet_op
     exact hK
    refine done (by kernel_rfl) (fun xr => ?_)
    have hb := xr.bw
    replace He := Lib.hid (He.out.bw hb)
    replace Cc := Lib.hid (Cc.out.bw hb)
    replace Wc := Lib.hid (Wc.out.bw hb)
    replace Xc := Lib.hid (Xc.out.bw hb)
    replace Yc := Lib.hid (Yc.out.bw hb)
    replace Nc := Lib.hid (Nc.out.bw hb)
    replace Zc := Lib.hid (Zc.out.bw hb)
    replace Tc := Lib.hid (Tc.out.trans (hb.still _))
    clear hb
    go_wp2_with fail
    go_meet
    exact ⟨gz, n0, n3, n4, er, v2, L2, rfl, rfl, hMR, Zc, hwz, Wc, hR2, hl2, hG2, He, Cc, Xc, Yc, Nc, Tc⟩
   ·skip
    go_simp
    refine hK _ _ (Still.of_below ((Below.refl _ _).alloc (Nat.le_refl _) _)) ?_
    clear hK K
    try clear Mc
    have hwz := Lib.hid (Nat.le_trans Tc.out.size x9.bw.size)
    have hb := x9.bw.trans ((BW.refl x9.now).alloc (o := .cells #[.int .i64 0, .int .u32 0, .int .u16 0] 51))
    try have hnz := Lib.hid (fun j hj => Nat.ne_of_lt ((Wc.out.bw x9.bw).row j hj))
    replace He := Lib.hid (He.out.bw hb)
    replace Cc := Lib.hid (Cc.out.bw hb)
    replace Wc := Lib.hid (Wc.out.bw hb)
    replace Xc := Lib.hid (Xc.out.bw hb)
    replace Yc := Lib.hid (Yc.out.bw hb)
    replace Nc := Lib.hid (Nc.out.bw hb)
    try replace Mc := Lib.hid (Mc.out.bw hb)
    try replace Vc := Lib.hid (Vc.out.bw hb)
    try replace Zc := Lib.hid (Zc.out.bw hb)
    try replace Pc := Lib.hid (Pc.out.bw hb)
    try replace TVc := Lib.hid (OwnB.stN TVc.out (hb.still []) (fun k hk => by cases hk))
    replace Tc := Lib.hid (Tc.out.trans (hb.still _))
    clear hb
    have Zc := Lib.hid (HpB.new x9.now (.cells #[.int .i64 0, .int .u32 0, .int .u16 0] 51))
    generalize x9.now.alloc (.cells #[.int .i64 0, .int .u32 0, .int .u16 0] 51) = w10 at *
    generalize x9.now.heap.size = gz at *
    try clear m3
    try simp only [Act.put, List.setIfInBounds_toArray, List.set_cons_succ, List.set_cons_zero]
    refine effect 5 rfl (by kernel_rfl) (by kernel_rfl) rfl (fun x5 K hK => ?_)
    have hb := x5.bw
    replace He := Lib.hid (He.out.bw hb)
    replace Cc := Lib.hid (Cc.out.bw hb)
    replace Wc := Lib.hid (Wc.out.bw hb)
    replace Xc := Lib.hid (Xc.out.bw hb)
    replace Yc := Lib.hid (Yc.out.bw hb)
    replace Nc := Lib.hid (Nc.out.bw hb)
    try replace Mc := Lib.hid (Mc.out.bw hb)
    try replace Vc := Lib.hid (Vc.out.bw hb)
    try replace Zc := Lib.hid (Zc.out.bw hb)
    try replace Pc := Lib.hid (Pc.out.bw hb)
    try replace TVc := Lib.hid (OwnB.stN TVc.out (hb.still []) (fun k hk => by cases hk))
    replace Tc := Lib.hid (Tc.out.trans (hb.still _))
    clear hb
    go_simp
    refine Calls.mono (cM.out x5.now (by have := Tc.out.size; have := hbase; have := hgx.out; omega) Wc.out) ?_
    rintro e w11 ⟨n0, n3, n4, er, rfl, hMR, ⟨v2, L2, W11, hR2, hl2, hG⟩, T11⟩
    refine hK _ _ T11 ?_
    clear hK K
    try clear m3
    try clear Mc
    have hsz := Tc.out.size
    try have hnz := Lib.hid (show ∀ j, v2.ownBlock = some j → j ≠ gz from fun j hj => by
     have h1 := Zc.out.lt
     have h2 := hwz.out
     rcases hG j hj with h | h
     ·have := hol.out _ h
      have := hgx.out
      omega
     ·omega)
    have hG2 := Lib.hid (show ∀ j, v2.ownBlock = some j → v.ownBlock = some j ∨ w.heap.size ≤ j from fun j hj => (hG j hj).imp_right (Nat.le_trans hsz))
    replace hMR := Lib.hid hMR
    replace hR2 := Lib.hid hR2
    replace hl2 := Lib.hid hl2
    replace He := Lib.hid (He.out.st T11 (Wc.out.nin He.out (by decide) (by decide)))
    replace Cc := Lib.hid (Cc.out.st T11 (Wc.out.nin Cc.out (by decide) (by decide)))
    replace Xc := Lib.hid (Xc.out.st T11 (Wc.out.nin Xc.out (by decide) (by decide)))
    replace Yc := Lib.hid (Yc.out.st T11 (Wc.out.nin Yc.out (by decide) (by decide)))
    replace Nc := Lib.hid (Nc.out.st T11 (Wc.out.nin Nc.out (by decide) (by decide)))
    try replace Zc := Lib.hid (Zc.out.st T11 (by
     intro hm
     rcases List.mem_cons.1 hm with e | e
     ·exact hp_ne Zc.out Wc.out.hp (by decide) e
     ·rw [Option.mem_toList] at e
      have := hol.out _ e
      have := hgx.out
      have := hwz.out
      omega))
    replace Tc := Lib.hid (Tc.out.trans (T11.weaken (fun k hk => List.mem_cons_of_mem _ hk)))
    replace Wc := Lib.hid W11
    clear T11 W11 hG hsz
    try simp only [Act.put, List.setIfInBounds_toArray, List.set_cons_succ, List.set_cons_zero]
    refine hoist [] [5] (a1 := ?_) 6 rfl (by kernel_rfl) (.inl ⟨rfl, rfl⟩) rfl rfl rfl (fun x K hK => ?_) ?_
    rotate_left
    ·go_big_quiet_op
     exact hK
    refine hoist [] [5] (a1 := ?_) 7 rfl (by kernel_rfl) (.inl ⟨rfl, rfl⟩) rfl rfl rfl (fun x K hK => ?_) ?_
    rotate_left
    ·go_big_quiet_op
     exact hK
    refine hoistP (a1 := ?_) 8 rfl (by kernel_rfl) rfl (fun x => rfl) ?_ ?_
    rotate_left
    ·simp only [Act.put, List.setIfInBounds_toArray, List.set_cons_succ, List.set_cons_zero]; rfl
    refine effectL 10 rfl (by kernel_rfl) rfl (by kernel_rfl) rfl (fun x10 K hK => ?_)
    have hb := x10.bw
    replace He := Lib.hid (He.out.bw hb)
    replace Cc := Lib.hid (Cc.out.bw hb)
    replace Wc := Lib.hid (Wc.out.bw hb)
    replace Xc := Lib.hid (Xc.out.bw hb)
    replace Yc := Lib.hid (Yc.out.bw hb)
    replace Nc := Lib.hid (Nc.out.bw hb)
    try replace Mc := Lib.hid (Mc.out.bw hb)
    try replace Vc := Lib.hid (Vc.out.bw hb)
    try replace Zc := Lib.hid (Zc.out.bw hb)
    try replace Pc := Lib.hid (Pc.out.bw hb)
    try replace TVc := Lib.hid (OwnB.stN TVc.out (hb.still []) (fun k hk => by cases hk))
    replace Tc := Lib.hid (Tc.out.trans (hb.still _))
    clear hb
    have st9 := still_rowS x10.now gz #[.int .i64 n0, .int .u32 n3, .int .u16 n4]
    have Z9 := Lib.hid (Zc.out.rowS #[.int .i64 n0, .int .u32 n3, .int .u16 n4])
    have H9 := Lib.hid (He.out.st st9 (by simpa using (hp_ne He.out Zc.out (by decide))))
    have C9 := Lib.hid (Cc.out.st st9 (by simpa using (hp_ne Cc.out Zc.out (by decide))))
    have X9 := Lib.hid (Xc.out.st st9 (by simpa using (hp_ne Xc.out Zc.out (by decide))))
    have Y9 := Lib.hid (Yc.out.st st9 (by simpa using (hp_ne Yc.out Zc.out (by decide))))
    have N9 := Lib.hid (Nc.out.st st9 (by simpa using (hp_ne Nc.out Zc.out (by decide))))
    have W9 := Lib.hid (Wc.out.st st9 (by simpa using (hp_ne Wc.out.hp Zc.out (by decide))) (fun j hj hm => by
     obtain rfl : j = gz := by simpa using hm
     exact hnz.out _ hj rfl))
    have T9 := Lib.hid (Tc.out.stNew st9 (fun k hk => by obtain rfl := (List.mem_singleton.1 hk); exact hwz.out))
    have Zold := Zc
    clear st9 Zc He Cc Xc Yc Nc Wc Tc
    have Zc := Z9
    have He := H9
    have Cc := C9
    have Xc := X9
    have Yc := Y9
    have Nc := N9
    have Wc := W9
    have Tc := T9
    clear Z9 H9 C9 X9 Y9 N9 W9 T9
    refine swStO swMp rfl rfl rfl Zold.out rfl rfl (by kernel_rfl) ?_
    refine hK _ _ ?_
    clear hK K Zold
    generalize x10.now.setRow gz #[.int .i64 n0, .int .u32 n3, .int .u16 n4] = w12 at *
    try simp only [Act.put, List.setIfInBounds_toArray, List.set_cons_succ, List.set_cons_zero]
    refine hoist [] [5] (a1 := ?_) 11 rfl (by kernel_rfl) (.inl ⟨rfl, rfl⟩) rfl rfl rfl (fun x K hK => ?_) ?_
    rotate_left
    ·go_big_quiet_op
     exact hK
    refine done (by kernel_rfl) (fun xr => ?_)
    have hb := xr.bw
    replace He := Lib.hid (He.out.bw hb)
    replace Cc := Lib.hid (Cc.out.bw hb)
    replace Wc := Lib.hid (Wc.out.bw hb)
    replace Xc := Lib.hid (Xc.out.bw hb)
    replace Yc := Lib.hid (Yc.out.bw hb)
    replace Nc := Lib.hid (Nc.out.bw hb)
    replace Zc := Lib.hid (Zc.out.bw hb)
    replace Tc := Lib.hid (Tc.out.trans (hb.still _))
    clear hb
    go_wp2_with fail
    go_meet
    exact ⟨gz, n0, n3, n4, er, v2, L2, rfl, rfl, hMR, Zc, hwz, Wc, hR2, hl2, hG2, He, Cc, Xc, Yc, Nc, Tc⟩
  clear Mc He Cc Xc Yc Nc Wc Tc
  obtain ⟨gz, n0, n3, n4, er, v2, L2, rfl, rfl, hMR, Zc, hwz, Wc, hR2, hl2, hG2, He, Cc, Xc, Yc, Nc, Tc⟩ := hcut
  generalize hwcn : wc = wd at *
  clear hwcn
  clear cM
  rcases hMR.out with ⟨hM1, her⟩ | ⟨hM1, rfl⟩
  ·replace hM1 := Lib.hid hM1
   have st20 := still_rowS wd gy #[.int .i64 0, .bool false, .int .u8 0, .int .u16 0, .int .u32 0, .int .u32 0, .slice none 0 0, .bool false, .int .u16 0, .slice none 0 0, .slice none 0 0, .int .u8 0, .bool false]
   have Y9 : Hid (HpB (wd.setRow gy #[.int .i64 0, .bool false, .int .u8 0, .int .u16 0, .int .u32 0, .int .u32 0, .slice none 0 0, .bool false, .int .u16 0, .slice none 0 0, .slice none 0 0, .int .u8 0, .bool false]) gy (.cells #[.int .i64 0, .bool false, .int .u8 0, .int .u16 0, .int .u32 0, .int .u32 0, .slice none 0 0, .bool false, .int .u16 0, .slice none 0 0, .slice none 0 0, .int .u8 0, .bool false] 60)) := Lib.hid (Yc.out.rowS #[.int .i64 0, .bool false, .int .u8 0, .int .u16 0, .int .u32 0, .int .u32 0, .slice none 0 0, .bool false, .int .u16 0, .slice none 0 0, .slice none 0 0, .int .u8 0, .bool false])
   have H9 := Lib.hid (He.out.st st20 (by simpa using (hp_ne He.out Yc.out (by decide))))
   have C9 := Lib.hid (Cc.out.st st20 (by simpa using (hp_ne Cc.out Yc.out (by decide))))
   have W9 := Lib.hid (Wc.out.stT st20 Yc.out (by decide) (by decide))
   have T9 := Lib.hid (Tc.out.stNew st20 (fun k hk => by obtain rfl := (List.mem_singleton.1 hk); have := hgy.out; have := hgx.out; have := hgyw.out; omega))
   clear st20
   have hNr := Lib.hid (Nc.out.range 0 (#[.int .i64 0, .bool false, .int .u8 0, .int .u16 0, .int .u32 0, .int .u32 0, .slice none 0 0, .bool false, .int .u16 0, .slice none 0 0, .slice none 0 0, .int .u8 0, .bool false] : Array Value).toList rfl)
   go_wp2_with (first | (refine swLdC swSn rfl rfl rfl hNr.out rfl ?_) | (refine swSt swSn rfl rfl rfl rfl Yc.out rfl rfl (by kernel_rfl) ?_))
   generalize wd.setRow gy #[.int .i64 0, .bool false, .int .u8 0, .int .u16 0, .int .u32 0, .int .u32 0, .slice none 0 0, .bool false, .int .u16 0, .slice none 0 0, .slice none 0 0, .int .u8 0, .bool false] = w21 at *
   have v0 := (hp_cell Y9.out 0).trans (show _ = some (.int .i64 0) from rfl)
   have v1 := (hp_cell Y9.out 1).trans (show _ = some (.bool false) from rfl)
   have v2 := (hp_cell Y9.out 2).trans (show _ = some (.int .u8 0) from rfl)
   have v3 := (hp_cell Y9.out 3).trans (show _ = some (.int .u16 0) from rfl)
   have v4 := (hp_cell Y9.out 4).trans (show _ = some (.int .u32 0) from rfl)
   have v5 := (hp_cell Y9.out 5).trans (show _ = some (.int .u32 0) from rfl)
   have v6 := (hp_cell Y9.out 6).trans (show _ = some (.slice none 0 0) from rfl)
   have v7 := (hp_cell Y9.out 7).trans (show _ = some (.bool false) from rfl)
   have v8 := (hp_cell Y9.out 8).trans (show _ = some (.int .u16 0) from rfl)
   have v9 := (hp_cell Y9.out 9).trans (show _ = some (.slice none 0 0) from rfl)
   have v10 := (hp_cell Y9.out 10).trans (show _ = some (.slice none 0 0) from rfl)
   have v11 := (hp_cell Y9.out 11).trans (show _ = some (.int .u8 0) from rfl)
   have v12 := (hp_cell Y9.out 12).trans (show _ = some (.bool false) from rfl)
   exact bodyPost_ret (v := .tuple #[.agg #[.int .i64 0, .bool false, .int .u8 0, .int .u16 0, .int .u32 0, .int .u32 0, .slice none 0 0, .bool false, .int .u16 0, .slice none 0 0, .slice none 0 0, .int .u8 0, .bool false], .bool false]) (by simp [results, Try.results24, go_sem, v0, v1, v2, v3, v4, v5, v6, v7, v8, v9, v10, v11, v12]) rfl ⟨.inl ⟨hM1.out, rfl⟩, H9.out, C9.out, ⟨_, _, _, _, L2, W9.out, hR2.out, hl2.out, hG2.out⟩, T9.out⟩
  ·replace hM1 := Lib.hid hM1
   have hXr := Lib.hid (Xc.out.range 2 (#[.bool mk, .int .u8 ty, .int .u16 sq, .int .u32 st, .int .u32 so, .slice so_ no co, .bool xb, .int .u16 pf, .slice se ne ce, .slice sp np cp, .int .u8 pd] : Array Value).toList rfl)
   have BP : BW wd (wd.alloc (.cells #[.bool mk, .int .u8 ty, .int .u16 sq, .int .u32 st, .int .u32 so, .slice so_ no co, .bool xb, .int .u16 pf, .slice se ne ce, .slice sp np cp, .int .u8 pd] 36)) := (BW.refl wd).alloc
   have Px := Lib.hid (HpB.new wd (.cells #[.bool mk, .int .u8 ty, .int .u16 sq, .int .u32 st, .int .u32 so, .slice so_ no co, .bool xb, .int .u16 pf, .slice se ne ce, .slice sp np cp, .int .u8 pd] 36))
   have hgp := Lib.hid Tc.out.size
   have hb := BP
   replace He := Lib.hid (He.out.bw hb)
   replace Cc := Lib.hid (Cc.out.bw hb)
   replace Wc := Lib.hid (Wc.out.bw hb)
   replace Xc := Lib.hid (Xc.out.bw hb)
   replace Yc := Lib.hid (Yc.out.bw hb)
   replace Nc := Lib.hid (Nc.out.bw hb)
   try replace Mc := Lib.hid (Mc.out.bw hb)
   try replace Vc := Lib.hid (Vc.out.bw hb)
   try replace Zc := Lib.hid (Zc.out.bw hb)
   try replace Pc := Lib.hid (Pc.out.bw hb)
   try replace TVc := Lib.hid (OwnB.stN TVc.out (hb.still []) (fun k hk => by cases hk))
   replace Tc := Lib.hid (Tc.out.trans (hb.still _))
   clear hb
   have Pc := Px
   clear Px
   replace BP := Lib.hid BP
   go_upto_region 16 with (first | (refine swLdC swRt rfl rfl rfl hXr.out rfl ?_) | (refine swStN swRt rfl rfl rfl rfl rfl rfl (by kernel_rfl) ?_))
   generalize wd.alloc _ = we at *
   generalize wd.heap.size = gp at *
   clear hXr BP
   clear Nc Xc
   have l0 := (hp_cell He.out 0).trans (show _ = some (.int .u32 src) from rfl)
   have yP := hp_frz Pc.out 4
   have zP := (hp_cell Pc.out 4).trans (show _ = some (.int .u32 so) from rfl)
   have st9 := still_sc we gp 4 (.int .u32 src)
   have P9 : Hid (HpB (we.setCell ⟨gp, 4, none⟩ (.int .u32 src)) gp (.cells #[.bool mk, .int .u8 ty, .int .u16 sq, .int .u32 st, .int .u32 src, .slice so_ no co, .bool xb, .int .u16 pf, .slice se ne ce, .slice sp np cp, .int .u8 pd] 36)) := Lib.hid (hp_set Pc.out 4 _)
   have H9 := Lib.hid (He.out.st st9 (by simpa using (hp_ne He.out Pc.out (by decide))))
   have C9 := Lib.hid (Cc.out.st st9 (by simpa using (hp_ne Cc.out Pc.out (by decide))))
   have Y9 := Lib.hid (Yc.out.st st9 (by simpa using (hp_ne Yc.out Pc.out (by decide))))
   have Z9 := Lib.hid (Zc.out.st st9 (by simpa using (hp_ne Zc.out Pc.out (by decide))))
   have W9 := Lib.hid (Wc.out.stT st9 Pc.out (by decide) (by decide))
   have T9 := Lib.hid (Tc.out.stNew st9 (fun k hk => by obtain rfl := (List.mem_singleton.1 hk); have := hgp.out; have := hgx.out; omega))
   clear st9
   go_upto_region 17 with (fail)
   clear yP zP He Cc Yc Zc Wc Tc Pc
   have He := H9
   have Cc := C9
   have Yc := Y9
   have Zc := Z9
   have Wc := W9
   have Tc := T9
   have Pc := P9
   clear H9 C9 Y9 Z9 W9 T9 P9
   clear l0
   generalize we.setCell _ _ = wf at *
   have yP := hp_frz Pc.out 5
   have zP := (hp_cell Pc.out 5).trans (show _ = some (.slice so_ no co) from rfl)
   have st9 := still_sc wf gp 5 (.slice none 0 0)
   have P9 : Hid (HpB (wf.setCell ⟨gp, 5, none⟩ (.slice none 0 0)) gp (.cells #[.bool mk, .int .u8 ty, .int .u16 sq, .int .u32 st, .int .u32 src, .slice none 0 0, .bool xb, .int .u16 pf, .slice se ne ce, .slice sp np cp, .int .u8 pd] 36)) := Lib.hid (hp_set Pc.out 5 _)
   have H9 := Lib.hid (He.out.st st9 (by simpa using (hp_ne He.out Pc.out (by decide))))
   have C9 := Lib.hid (Cc.out.st st9 (by simpa using (hp_ne Cc.out Pc.out (by decide))))
   have Y9 := Lib.hid (Yc.out.st st9 (by simpa using (hp_ne Yc.out Pc.out (by decide))))
   have Z9 := Lib.hid (Zc.out.st st9 (by simpa using (hp_ne Zc.out Pc.out (by decide))))
   have W9 := Lib.hid (Wc.out.stT st9 Pc.out (by decide) (by decide))
   have T9 := Lib.hid (Tc.out.stNew st9 (fun k hk => by obtain rfl := (List.mem_singleton.1 hk); have := hgp.out; have := hgx.out; omega))
   clear st9
   go_upto_region 18 with (fail)
   clear yP zP He Cc Yc Zc Wc Tc Pc
   have He := H9
   have Cc := C9
   have Yc := Y9
   have Zc := Z9
   have Wc := W9
   have Tc := T9
   have Pc := P9
   clear H9 C9 Y9 Z9 W9 T9 P9
   generalize wf.setCell _ _ = wg at *
   obtain ⟨sy, hsy⟩ : ∃ sy, IntKind.u16.wrap n0 = sy := ⟨_, rfl⟩
   have e5 : IntKind.u16.wrap (n0.tmod 65536) = sy := by rw [← hsy]; exact tmod_u16 n0
   have l0 := (hp_cell Zc.out 0).trans (show _ = some (.int .i64 n0) from rfl)
   have yP := hp_frz Pc.out 2
   have zP := (hp_cell Pc.out 2).trans (show _ = some (.int .u16 sq) from rfl)
   have st9 := still_sc wg gp 2 (.int .u16 sy)
   have P9 : Hid (HpB (wg.setCell ⟨gp, 2, none⟩ (.int .u16 sy)) gp (.cells #[.bool mk, .int .u8 ty, .int .u16 sy, .int .u32 st, .int .u32 src, .slice none 0 0, .bool xb, .int .u16 pf, .slice se ne ce, .slice sp np cp, .int .u8 pd] 36)) := Lib.hid (hp_set Pc.out 2 _)
   have H9 := Lib.hid (He.out.st st9 (by simpa using (hp_ne He.out Pc.out (by decide))))
   have C9 := Lib.hid (Cc.out.st st9 (by simpa using (hp_ne Cc.out Pc.out (by decide))))
   have Y9 := Lib.hid (Yc.out.st st9 (by simpa using (hp_ne Yc.out Pc.out (by decide))))
   have Z9 := Lib.hid (Zc.out.st st9 (by simpa using (hp_ne Zc.out Pc.out (by decide))))
   have W9 := Lib.hid (Wc.out.stT st9 Pc.out (by decide) (by decide))
   have T9 := Lib.hid (Tc.out.stNew st9 (fun k hk => by obtain rfl := (List.mem_singleton.1 hk); have := hgp.out; have := hgx.out; omega))
   clear st9
   go_upto_region 19 with (fail)
   clear yP zP He Cc Yc Zc Wc Tc Pc
   have He := H9
   have Cc := C9
   have Yc := Y9
   have Zc := Z9
   have Wc := W9
   have Tc := T9
   have Pc := P9
   clear H9 C9 Y9 Z9 W9 T9 P9
   clear l0
   generalize wg.setCell _ _ = wh at *
   clear e5
   replace hsy := Lib.hid hsy
   have l0 := (hp_cell Zc.out 1).trans (show _ = some (.int .u32 n3) from rfl)
   have yP := hp_frz Pc.out 3
   have zP := (hp_cell Pc.out 3).trans (show _ = some (.int .u32 st) from rfl)
   have st9 := still_sc wh gp 3 (.int .u32 n3)
   have P9 : Hid (HpB (wh.setCell ⟨gp, 3, none⟩ (.int .u32 n3)) gp (.cells #[.bool mk, .int .u8 ty, .int .u16 sy, .int .u32 n3, .int .u32 src, .slice none 0 0, .bool xb, .int .u16 pf, .slice se ne ce, .slice sp np cp, .int .u8 pd] 36)) := Lib.hid (hp_set Pc.out 3 _)
   have H9 := Lib.hid (He.out.st st9 (by simpa using (hp_ne He.out Pc.out (by decide))))
   have C9 := Lib.hid (Cc.out.st st9 (by simpa using (hp_ne Cc.out Pc.out (by decide))))
   have Y9 := Lib.hid (Yc.out.st st9 (by simpa using (hp_ne Yc.out Pc.out (by decide))))
   have Z9 := Lib.hid (Zc.out.st st9 (by simpa using (hp_ne Zc.out Pc.out (by decide))))
   have W9 := Lib.hid (Wc.out.stT st9 Pc.out (by decide) (by decide))
   have T9 := Lib.hid (Tc.out.stNew st9 (fun k hk => by obtain rfl := (List.mem_singleton.1 hk); have := hgp.out; have := hgx.out; omega))
   clear st9
   go_upto_if 105 with (fail)
   clear yP zP He Cc Yc Zc Wc Tc Pc
   have He := H9
   have Cc := C9
   have Yc := Y9
   have Zc := Z9
   have Wc := W9
   have Tc := T9
   have Pc := P9
   clear H9 C9 Y9 Z9 W9 T9 P9
   clear l0
   generalize wh.setCell _ _ = wi at *
   cases has with
   | false =>
    have l0 := (hp_cell Zc.out 0).trans (show _ = some (.int .i64 n0) from rfl)
    have hPr := Lib.hid (Pc.out.range 0 (#[.bool mk, .int .u8 ty, .int .u16 sy, .int .u32 n3, .int .u32 src, .slice none 0 0, .bool xb, .int .u16 pf, .slice se ne ce, .slice sp np cp, .int .u8 pd] : Array Value).toList rfl)
    have st20 := still_rowS wi gy #[.int .i64 n0, .bool mk, .int .u8 ty, .int .u16 sy, .int .u32 n3, .int .u32 src, .slice none 0 0, .bool xb, .int .u16 pf, .slice se ne ce, .slice sp np cp, .int .u8 pd, .bool tu]
    have Y9 : Hid (HpB (wi.setRow gy #[.int .i64 n0, .bool mk, .int .u8 ty, .int .u16 sy, .int .u32 n3, .int .u32 src, .slice none 0 0, .bool xb, .int .u16 pf, .slice se ne ce, .slice sp np cp, .int .u8 pd, .bool tu]) gy (.cells #[.int .i64 n0, .bool mk, .int .u8 ty, .int .u16 sy, .int .u32 n3, .int .u32 src, .slice none 0 0, .bool xb, .int .u16 pf, .slice se ne ce, .slice sp np cp, .int .u8 pd, .bool tu] 60)) := Lib.hid (Yc.out.rowS #[.int .i64 n0, .bool mk, .int .u8 ty, .int .u16 sy, .int .u32 n3, .int .u32 src, .slice none 0 0, .bool xb, .int .u16 pf, .slice se ne ce, .slice sp np cp, .int .u8 pd, .bool tu])
    have H9 := Lib.hid (He.out.st st20 (by simpa using (hp_ne He.out Yc.out (by decide))))
    have C9 := Lib.hid (Cc.out.st st20 (by simpa using (hp_ne Cc.out Yc.out (by decide))))
    have W9 := Lib.hid (Wc.out.stT st20 Yc.out (by decide) (by decide))
    have T9 := Lib.hid (Tc.out.stNew st20 (fun k hk => by obtain rfl := (List.mem_singleton.1 hk); have := hgy.out; have := hgx.out; have := hgyw.out; omega))
    clear st20
    go_wp2_with (first | (refine swLdC swRt rfl rfl rfl hPr.out rfl ?_) | (refine swSt swSn rfl rfl rfl rfl Yc.out rfl rfl (by kernel_rfl) ?_))
    generalize wi.setRow gy #[.int .i64 n0, .bool mk, .int .u8 ty, .int .u16 sy, .int .u32 n3, .int .u32 src, .slice none 0 0, .bool xb, .int .u16 pf, .slice se ne ce, .slice sp np cp, .int .u8 pd, .bool tu] = w21 at *
    clear l0 hPr
    have v0 := (hp_cell Y9.out 0).trans (show _ = some (.int .i64 n0) from rfl)
    have v1 := (hp_cell Y9.out 1).trans (show _ = some (.bool mk) from rfl)
    have v2 := (hp_cell Y9.out 2).trans (show _ = some (.int .u8 ty) from rfl)
    have v3 := (hp_cell Y9.out 3).trans (show _ = some (.int .u16 sy) from rfl)
    have v4 := (hp_cell Y9.out 4).trans (show _ = some (.int .u32 n3) from rfl)
    have v5 := (hp_cell Y9.out 5).trans (show _ = some (.int .u32 src) from rfl)
    have v6 := (hp_cell Y9.out 6).trans (show _ = some (.slice none 0 0) from rfl)
    have v7 := (hp_cell Y9.out 7).trans (show _ = some (.bool xb) from rfl)
    have v8 := (hp_cell Y9.out 8).trans (show _ = some (.int .u16 pf) from rfl)
    have v9 := (hp_cell Y9.out 9).trans (show _ = some (.slice se ne ce) from rfl)
    have v10 := (hp_cell Y9.out 10).trans (show _ = some (.slice sp np cp) from rfl)
    have v11 := (hp_cell Y9.out 11).trans (show _ = some (.int .u8 pd) from rfl)
    have v12 := (hp_cell Y9.out 12).trans (show _ = some (.bool tu) from rfl)
    exact bodyPost_ret (v := .tuple #[.agg #[.int .i64 n0, .bool mk, .int .u8 ty, .int .u16 sy, .int .u32 n3, .int .u32 src, .slice none 0 0, .bool xb, .int .u16 pf, .slice se ne ce, .slice sp np cp, .int .u8 pd, .bool tu], .bool true]) (by simp [results, Try.results24, go_sem, v0, v1, v2, v3, v4, v5, v6, v7, v8, v9, v10, v11, v12]) rfl ⟨.inr ⟨n0, n3, n4, _, hM1.out, by rw [hsy.out]; rfl, fun _ => rfl, fun h => by cases h⟩, H9.out, C9.out, ⟨_, _, _, _, L2, W9.out, hR2.out, hl2.out, hG2.out⟩, T9.out⟩
   | true =>
    have hpr := map_pic hM.out hM1.out
    have l1 := (hp_cell Pc.out 9).trans (show _ = some (.slice sp np cp) from rfl)
    have l2 := (hp_cell Zc.out 2).trans (show _ = some (.int .u16 n4) from rfl)
    have cT := Lib.hid (rT_any c sp np cp lp hhs.out n4 hpr.1 hpr.2 hn gx wi (by have := Tc.out.size; have := hgx.out; omega) (SPx.out _ Tc.out))
    clear hpr
    go_wp2_with fail
    refine Calls.mono cT.out ?_
    rintro e wj ⟨sv, nv, cv, rfl, V30, hb⟩
    clear cT l1 l2
    replace He := Lib.hid (He.out.bw hb)
    replace Cc := Lib.hid (Cc.out.bw hb)
    replace Wc := Lib.hid (Wc.out.bw hb)
    replace Yc := Lib.hid (Yc.out.bw hb)
    replace Zc := Lib.hid (Zc.out.bw hb)
    replace Pc := Lib.hid (Pc.out.bw hb)
    replace Tc := Lib.hid (Tc.out.trans (hb.still _))
    clear hb
    have TVc := Lib.hid V30
    clear V30
    dsimp only
    have yP := hp_frz Pc.out 9
    have zP := (hp_cell Pc.out 9).trans (show _ = some (.slice sp np cp) from rfl)
    have st9 := still_sc wj gp 9 (.slice sv nv cv)
    have P9 : Hid (HpB (wj.setCell ⟨gp, 9, none⟩ (.slice sv nv cv)) gp (.cells #[.bool mk, .int .u8 ty, .int .u16 sy, .int .u32 n3, .int .u32 src, .slice none 0 0, .bool xb, .int .u16 pf, .slice se ne ce, .slice sv nv cv, .int .u8 pd] 36)) := Lib.hid (hp_set Pc.out 9 _)
    have H9 := Lib.hid (He.out.st st9 (by simpa using (hp_ne He.out Pc.out (by decide))))
    have C9 := Lib.hid (Cc.out.st st9 (by simpa using (hp_ne Cc.out Pc.out (by decide))))
    have Y9 := Lib.hid (Yc.out.st st9 (by simpa using (hp_ne Yc.out Pc.out (by decide))))
    have Z9 := Lib.hid (Zc.out.st st9 (by simpa using (hp_ne Zc.out Pc.out (by decide))))
    have W9 := Lib.hid (Wc.out.stT st9 Pc.out (by decide) (by decide))
    have T9 := Lib.hid (Tc.out.stNew st9 (fun k hk => by obtain rfl := (List.mem_singleton.1 hk); have := hgp.out; have := hgx.out; omega))
    have V9 := Lib.hid (OwnB.stN (B := w.heap.size) TVc.out st9 (fun k hk => by obtain rfl := (List.mem_singleton.1 hk); exact .inr ⟨_, _, _, Pc.out, by decide⟩) (by first | exact Nat.le_refl _ | (have := hgx.out; omega)))
    clear st9
    go_upto_region 22 with (fail)
    clear yP zP He Cc Yc Zc Wc Tc Pc TVc
    have He := H9
    have Cc := C9
    have Yc := Y9
    have Zc := Z9
    have Wc := W9
    have Tc := T9
    have Pc := P9
    have TVc := V9
    clear H9 C9 Y9 Z9 W9 T9 P9 V9
    generalize wj.setCell _ _ = wk at *
    have l0 := (hp_cell Zc.out 0).trans (show _ = some (.int .i64 n0) from rfl)
    have hPr := Lib.hid (Pc.out.range 0 (#[.bool mk, .int .u8 ty, .int .u16 sy, .int .u32 n3, .int .u32 src, .slice none 0 0, .bool xb, .int .u16 pf, .slice se ne ce, .slice sv nv cv, .int .u8 pd] : Array Value).toList rfl)
    have st20 := still_rowS wk gy #[.int .i64 n0, .bool mk, .int .u8 ty, .int .u16 sy, .int .u32 n3, .int .u32 src, .slice none 0 0, .bool xb, .int .u16 pf, .slice se ne ce, .slice sv nv cv, .int .u8 pd, .bool tu]
    have Y9 : Hid (HpB (wk.setRow gy #[.int .i64 n0, .bool mk, .int .u8 ty, .int .u16 sy, .int .u32 n3, .int .u32 src, .slice none 0 0, .bool xb, .int .u16 pf, .slice se ne ce, .slice sv nv cv, .int .u8 pd, .bool tu]) gy (.cells #[.int .i64 n0, .bool mk, .int .u8 ty, .int .u16 sy, .int .u32 n3, .int .u32 src, .slice none 0 0, .bool xb, .int .u16 pf, .slice se ne ce, .slice sv nv cv, .int .u8 pd, .bool tu] 60)) := Lib.hid (Yc.out.rowS #[.int .i64 n0, .bool mk, .int .u8 ty, .int .u16 sy, .int .u32 n3, .int .u32 src, .slice none 0 0, .bool xb, .int .u16 pf, .slice se ne ce, .slice sv nv cv, .int .u8 pd, .bool tu])
    have H9 := Lib.hid (He.out.st st20 (by simpa using (hp_ne He.out Yc.out (by decide))))
    have C9 := Lib.hid (Cc.out.st st20 (by simpa using (hp_ne Cc.out Yc.out (by decide))))
    have W9 := Lib.hid (Wc.out.stT st20 Yc.out (by decide) (by decide))
    have T9 := Lib.hid (Tc.out.stNew st20 (fun k hk => by obtain rfl := (List.mem_singleton.1 hk); have := hgy.out; have := hgx.out; have := hgyw.out; omega))
    have V9 := Lib.hid (OwnB.stN (B := w.heap.size) TVc.out st20 (fun k hk => by obtain rfl := (List.mem_singleton.1 hk); exact .inr ⟨_, _, _, Yc.out, by decide⟩) (by first | exact Nat.le_refl _ | (have := hgx.out; omega)))
    clear st20
    go_wp2_with (first | (refine swLdC swRt rfl rfl rfl hPr.out rfl ?_) | (refine swSt swSn rfl rfl rfl rfl Yc.out rfl rfl (by kernel_rfl) ?_))
    generalize wk.setRow gy #[.int .i64 n0, .bool mk, .int .u8 ty, .int .u16 sy, .int .u32 n3, .int .u32 src, .slice none 0 0, .bool xb, .int .u16 pf, .slice se ne ce, .slice sv nv cv, .int .u8 pd, .bool tu] = w21 at *
    clear l0 hPr
    have v0 := (hp_cell Y9.out 0).trans (show _ = some (.int .i64 n0) from rfl)
    have v1 := (hp_cell Y9.out 1).trans (show _ = some (.bool mk) from rfl)
    have v2 := (hp_cell Y9.out 2).trans (show _ = some (.int .u8 ty) from rfl)
    have v3 := (hp_cell Y9.out 3).trans (show _ = some (.int .u16 sy) from rfl)
    have v4 := (hp_cell Y9.out 4).trans (show _ = some (.int .u32 n3) from rfl)
    have v5 := (hp_cell Y9.out 5).trans (show _ = some (.int .u32 src) from rfl)
    have v6 := (hp_cell Y9.out 6).trans (show _ = some (.slice none 0 0) from rfl)
    have v7 := (hp_cell Y9.out 7).trans (show _ = some (.bool xb) from rfl)
    have v8 := (hp_cell Y9.out 8).trans (show _ = some (.int .u16 pf) from rfl)
    have v9 := (hp_cell Y9.out 9).trans (show _ = some (.slice se ne ce) from rfl)
    have v10 := (hp_cell Y9.out 10).trans (show _ = some (.slice sv nv cv) from rfl)
    have v11 := (hp_cell Y9.out 11).trans (show _ = some (.int .u8 pd) from rfl)
    have v12 := (hp_cell Y9.out 12).trans (show _ = some (.bool tu) from rfl)
    exact bodyPost_ret (v := .tuple #[.agg #[.int .i64 n0, .bool mk, .int .u8 ty, .int .u16 sy, .int .u32 n3, .int .u32 src, .slice none 0 0, .bool xb, .int .u16 pf, .slice se ne ce, .slice sv nv cv, .int .u8 pd, .bool tu], .bool true]) (by simp [results, Try.results24, go_sem, v0, v1, v2, v3, v4, v5, v6, v7, v8, v9, v10, v11, v12]) rfl ⟨.inr ⟨n0, n3, n4, _, hM1.out, by rw [hsy.out]; rfl, (fun h => by cases h), fun _ => by rw [hgx.out]; exact V9.out⟩, H9.out, C9.out, ⟨_, _, _, _, L2, W9.out, hR2.out, hl2.out, hG2.out⟩, T9.out⟩
end Go.Proofs.Ytojedpahaifjgaa
