/- rtcp.packet: of a header and a body that its reader reads whole. No condition but the sizes'. -/
import Derived.Test.YtcempndfbckcaaaRcF
import Derived.Test.YtcempndfbckcaaaRcB
import Derived.Test.YtcempndfbckcaaaCln
namespace Go.Proofs.Ytcempndfbckcaaa
open Go.RowKit

set_option maxRecDepth 1000000 in
set_option maxHeartbeats 8000000 in
theorem kv_look {w0 w : World} {g : Nat} (h : KvIn w0 g (List.replicate 8 true) w) (i : Nat) (hi : i < 8) :
    (Instr.lookup 203 (.map (some g)) (kv i).1 true).run Try.prog w = .ok (.tuple #[(kv i).2, .bool true]) w := by
  obtain ⟨_, _, s, hm, hp⟩ := h
  have hkeys : ∀ p ∈ s, ∃ l, keyOf Try.prog 200 p.1 = some l := fun p hpm => by
    obtain ⟨j, hj, _, rfl⟩ := (hp p).1 hpm
    exact kv_key j hj
  obtain ⟨l, hl⟩ := kv_key i hi
  have hz : (zeroValue 201).run Try.prog w = .ok .nilFunc w := by kernel_rfl
  have hin : kv i ∈ s := (hp _).2 ⟨i, hi, by match i, hi with | 0, _ | 1, _ | 2, _ | 3, _ | 4, _ | 5, _ | 6, _ | 7, _ => rfl, rfl⟩
  rcases hm.look kindLaw Try.underlying203 hkeys hz hl with ⟨v, h1, h2⟩ | ⟨h1, _⟩
  · obtain ⟨j, hj, _, he⟩ := (hp _).1 h1
    have hij : i = j := by
      refine Decidable.byContradiction fun hne => kv_ne i j hi hj hne ?_
      rw [← he]
    subst hij
    rw [h2 true, if_pos rfl, show v = (kv i).2 from by rw [← he]]
  · exact (h1 _ hin rfl).elim

/-- One packet's bytes, and what it is. -/
structure PartOk (b : List Nat) (c : Ctl) : Prop where
  ex : ∃ (i cnt t x y : Nat) (k : Int) (l : List Nat) (F : FuncId), i < 8 ∧ kv i = (kindV (t : Nat) k, fnV F) ∧ k = (if t = 205 ∨ t = 206 then (cnt : Int) else -1) ∧ cnt ≤ 31 ∧ t ≤ 255 ∧ x ≤ 255 ∧ y ≤ 255 ∧ l.length ≤ 1000000 ∧ ReadsTo F cnt l c ∧ (∀ (args : Array Value) (w : World), (callFunc F args).run Try.prog w = .ok (.enter F args) w) ∧ b = (128 + cnt) :: t :: x :: y :: l ∧ l.length = 4 * (256 * x + y)
set_option maxRecDepth 100000 in
set_option maxHeartbeats 8000000 in
theorem packet_ok (b : List Nat) (c : Ctl) (hp : PartOk b c) (v : Value) (n : Nat) (w : World) (hv : SB w v n b) :
    Calls Try.prog 91 #[v] w fun e w' => ∃ vr vn vs vl vf, e = .returned (.agg (ctlC c vr vn vs vl vf).toArray) ∧ CtlV w' w.heap.size c vr vn vs vl vf ∧ BW w w' := by
  obtain ⟨i, cnt, t, x, y, k, l, F, hi, hkv, hk, hc, ht, hx, hy, hll, hF, hN, rfl, hxy⟩ := hp
  obtain ⟨sa, cap, rfl, hcap, hm⟩ := hv.len
  unfold maxLen at hm
  have hn : n = l.length + 4 := by have := hv.1; simp at this; omega
  subst hn
  obtain ⟨q, o, cap', hsl, _, _, hq, hcell⟩ := hv.form (by omega)
  obtain ⟨rfl, rfl⟩ : sa = some ⟨q, o, none⟩ ∧ cap = cap' := by simpa using hsl
  clear hsl
  have a0 := hcell 0 (by omega)
  have a1 := hcell 1 (by omega)
  simp only [List.getD_cons_zero, List.getD_cons_succ, Nat.add_zero] at a0 a1
  have hcut := fun w => run_cut_l (P := Try.prog) Try.underlying36 info_u8 (some ⟨q, o, none⟩) (l.length + 4) cap 4 4 rfl .i64 (by omega) w
  simp only [Nat.add_sub_cancel] at hcut
  have hv4 := hv.cut 4 (l.length + 4) cap (by omega) (Nat.le_refl _) hcap (Nat.le_refl _)
  have e4 : (((128 + cnt) :: t :: x :: y :: l).drop 4).take (l.length + 4 - 4) = l := by
    rw [Nat.add_sub_cancel]
    exact List.take_length
  rw [e4, Nat.add_sub_cancel] at hv4
  have cc := fun w h => Lib.hid (clone_ok (cutA (some ⟨q, o, none⟩) 4 cap 1) l.length (cap - 4) l (by omega) w h)
  have hsh : ((128 + cnt : Nat) : Int) / 32 = 4 := by omega
  have han : bits .and .u8 ((128 + cnt : Nat) : Int) 31 = (cnt : Nat) := by
    refine (u8_and_nat (128 + cnt) 31 (by omega) (by omega)).trans ?_
    rw [nat_mask5]
    omega
  generalize (128 + cnt) = b0 at *
  have hs4 : cutA (some ⟨q, o, none⟩) 4 cap 1 = if cap = 4 then some ⟨q, o, none⟩ else some ⟨q, o + 4, none⟩ := by
    unfold cutA
    split <;> simp [Addr.add]
  rw [hs4] at hv4 cc
  clear hxy hcut hs4
  have hlen := hll
  generalize hln : l.length = ln at *
  replace hln := Lib.hid hln
  replace hv4 := Lib.hid hv4
  clear hcell e4 hv
  have BA : BW w (w.alloc (.cells #[.int .i64 0, .int .u32 0, .int .u32 0, .int .u64 0, .int .u32 0, .int .u32 0, .int .u32 0, .slice none 0 0, .slice none 0 0, .slice none 0 0, .slice none 0 0, .slice none 0 0, .int .u64 0] 111)) := (BW.refl _).alloc
  have X1 := Lib.hid (HpB.new w (.cells #[.int .i64 0, .int .u32 0, .int .u32 0, .int .u64 0, .int .u32 0, .int .u32 0, .int .u32 0, .slice none 0 0, .slice none 0 0, .slice none 0 0, .slice none 0 0, .slice none 0 0, .int .u64 0] 111))
  have V1 := Lib.hid (hv4.out.bw BA)
  have b1 := BA.cell a0
  have b2 := BA.cell a1
  clear a0 a1
  go_enter Try.func91, Try.ntmps91
  go_upto_region 1 with (fail)
  have B1 := Lib.hid BA
  generalize (w.alloc _) = w1 at *
  clear BA
  go_wp2_with fail
  refine Calls.mono (need_ok w1) ?_
  rintro e w' ⟨rfl, rfl⟩
  dsimp only
  go_upto_region 2 with (fail)
  have l0 : ∀ z : LaterS [] w1, z.now.cell? ⟨q, o, none⟩ = some (.int .u8 (b0 : Nat)) := fun z => z.bw.cell b1
  refine wp_region_gg [] [] [8] (by kernel_rfl) ?_
  refine hoist [] [] (a1 := ?_) 0 rfl (by kernel_rfl) (.inl ⟨rfl, rfl⟩) rfl rfl rfl (fun x K hK => ?_) ?_
  rotate_left
  · go_big_quiet_op
    exact hK
  refine hoist [] [] (a1 := ?_) 1 rfl (by kernel_rfl) (.inl ⟨rfl, rfl⟩) rfl rfl rfl (fun x K hK => ?_) ?_
  rotate_left
  · go_big_quiet_op
    exact hK
  refine hoist [] [] (a1 := ?_) 2 rfl (by kernel_rfl) (.inl ⟨rfl, rfl⟩) rfl rfl rfl (fun x K hK => ?_) ?_
  rotate_left
  · go_big_quiet_op
    exact hK
  refine hoist [] [] (a1 := ?_) 3 rfl (by kernel_rfl) (.inl ⟨rfl, rfl⟩) rfl rfl rfl (fun x K hK => ?_) ?_
  rotate_left
  · go_big_quiet_op
    exact hK
  refine hoist [] [] (a1 := ?_) 4 rfl (by kernel_rfl) (.inl ⟨rfl, rfl⟩) rfl rfl rfl (fun x K hK => ?_) ?_
  rotate_left
  · go_big_quiet_op
    exact hK
  refine hoist [] [] (a1 := ?_) 5 rfl (by kernel_rfl) (.inl ⟨rfl, rfl⟩) rfl rfl rfl (fun x K hK => ?_) ?_
  rotate_left
  · go_big_quiet_op
    exact hK
  refine hoist [] [] (a1 := ?_) 6 rfl (by kernel_rfl) (.inl ⟨rfl, rfl⟩) rfl rfl rfl (fun x K hK => ?_) ?_
  rotate_left
  · go_big_quiet_op
    exact hK
  refine effect 7 rfl (by kernel_rfl) (by kernel_rfl) rfl (fun x7 K hK => ?_)
  go_simp
  refine Calls.mono (cc x7.now (V1.out.bw x7.bw)).out ?_
  rintro e w2 ⟨v2, rfl, O2, hb⟩
  replace hb : BW x7.now w2 := BW.of hb
  refine hK _ _ (hb.still []) ?_
  clear hK K
  have B2 := Lib.hid ((B1.out.trans x7.bw).trans hb)
  have X2 := Lib.hid ((X1.out.bw x7.bw).bw hb)
  have b3 := (x7.bw.trans hb).cell b2
  replace O2 := Lib.hid (O2.base (Nat.le_trans B1.out.size x7.bw.size))
  clear hb l0 b1 b2 B1 X1 V1
  try simp only [Act.put, List.setIfInBounds_toArray, List.set_cons_succ, List.set_cons_zero]
  refine tail 8 rfl (by kernel_rfl) rfl (fun xr => ?_)
  simp only [List.drop_succ_cons, List.drop_zero]
  obtain ⟨s2, c2, rfl, hc2, hm2⟩ := O2.out.len
  generalize (if cap = 4 then some (⟨q, o, none⟩ : Addr) else some ⟨q, o + 4, none⟩) = s4 at *
  unfold maxLen at hm2
  generalize hti : (t : Int) = ti at *
  have B3 := B2.out.trans xr.bw
  have X3 := X2.out.bw xr.bw
  have b4 := xr.bw.cell b3
  have BC : BW xr.now (xr.now.alloc (.cells #[.int .i64 (cnt : Nat), .slice s2 ln c2] 198)) := (BW.refl _).alloc
  have B4 := Lib.hid (B3.trans BC)
  have X4 := Lib.hid (X3.bw BC)
  have O4 := Lib.hid ((O2.out.bw xr.bw).bw BC)
  have D4 := Lib.hid (HpB.new xr.now (.cells #[.int .i64 (cnt : Nat), .slice s2 ln c2] 198))
  have a4 := BC.cell b4
  have hgb : w.heap.size < xr.now.heap.size := X3.lt
  clear B3 X3 b4 b3 B2 X2 O2
  go_upto_region 3 with (fail)
  generalize (xr.now.alloc _) = w4 at *
  generalize xr.now.heap.size = gb at *
  have hgb4 := D4.out.lt
  have BD : BW w4 (w4.alloc (.cells #[.int .i64 ti, .int .i64 (-1)] 200)) := (BW.refl _).alloc
  have B5 := Lib.hid (B4.out.trans BD)
  have X5 := Lib.hid (X4.out.bw BD)
  have O5 := Lib.hid (O4.out.bw BD)
  have D5 := Lib.hid (D4.out.bw BD)
  have K5 := Lib.hid (HpB.new w4 (.cells #[.int .i64 ti, .int .i64 (-1)] 200))
  have hgk : w.heap.size < w4.heap.size := X4.out.lt
  clear B4 X4 O4 D4 BC
  replace BD := Lib.hid BD
  go_upto_region 4 with (fail)
  generalize (w4.alloc _) = w5 at *
  generalize w4.heap.size = gk at *
  clear a4 BD
  have k0 := hp_cell K5.out 0
  have k1 := hp_cell K5.out 1
  have f1 := hp_frz K5.out 1
  simp only [List.getElem?_toArray, List.getElem?_cons_zero, List.getElem?_cons_succ] at k0 k1
  have d0 := hp_cell D5.out 0
  simp only [List.getElem?_toArray, List.getElem?_cons_zero] at d0
  by_cases h5 : ti = 205
  · have d1 : (ti == 205) = true := by simpa using h5
    have TS := still_sc w5 gk 1 (.int .i64 (cnt : Nat))
    have K6 : Hid (HpB (w5.setCell ⟨gk, 1, none⟩ (.int .i64 (cnt : Nat))) gk (.cells #[.int .i64 ti, .int .i64 (cnt : Nat)] 200)) := hp_set K5.out 1 _
    have B6 := Lib.hid (B5.out.stP TS (fun z hz => by obtain rfl : z = gk := (by simpa using hz); omega))
    have X6 := Lib.hid (X5.out.st TS (by simp; omega))
    have D6 := Lib.hid (D5.out.st TS (by simp; omega))
    have O6 := Lib.hid (O5.out.still TS (fun z hz hm => by obtain rfl : z = gk := (by simpa using hm); exact O5.out.2.2.ne K5.out (by decide) _ hz rfl))
    obtain rfl : k = (cnt : Int) := by rw [hk, if_pos (by omega)]
    clear B5 X5 D5 O5 K5 TS hk
    clear h5
    go_upto_region 6 with (fail)
    clear k0 k1 f1 d0
    generalize (w5.setCell _ _) = w6 at *
    have k0 := hp_cell K6.out 0
    have k1 := hp_cell K6.out 1
    simp only [List.getElem?_toArray, List.getElem?_cons_zero, List.getElem?_cons_succ] at k0 k1
    have l0 : ∀ z : LaterS [] w6, z.now.cell? ⟨gk, 0, none⟩ = _ := fun z => z.bw.cell k0
    have l1 : ∀ z : LaterS [] w6, z.now.cell? ⟨gk, 1, none⟩ = _ := fun z => z.bw.cell k1
    clear k0 k1
    refine wp_region_gg [] [] [] (by kernel_rfl) ?_
    refine hoist [] [] (a1 := ?_) 1 rfl (by kernel_rfl) (.inl ⟨rfl, rfl⟩) rfl rfl rfl (fun x K hK => ?_) ?_
    rotate_left
    · go_big_quiet_op
      exact hK
    refine effect 0 rfl (by kernel_rfl) (by kernel_rfl) rfl (fun x0 K hK => ?_)
    go_simp
    refine Calls.mono (readers_ok x0.now) ?_
    rintro e w7 ⟨gm, rfl, M⟩
    refine hK _ _ (M.2.1.still []) ?_
    clear hK K
    have hb := x0.bw.trans M.2.1
    have B7 := Lib.hid (B6.out.trans hb)
    have X7 := Lib.hid (X6.out.bw hb)
    have D7 := Lib.hid (D6.out.bw hb)
    have O7 := Lib.hid (O6.out.bw hb)
    have l2 := fun z : LaterS [] w7 => kv_look (M.still z.ok) i hi
    rw [hkv] at l2
    unfold kindV fnV at l2
    replace l0 : ∀ z : LaterS [] w7, z.now.cell? ⟨gk, 0, none⟩ = _ := fun z => z.bw.cell (hb.cell (l0 (LaterS.first [] _)))
    replace l1 : ∀ z : LaterS [] w7, z.now.cell? ⟨gk, 1, none⟩ = _ := fun z => z.bw.cell (hb.cell (l1 (LaterS.first [] _)))
    clear hb M B6 X6 D6 O6 K6
    try simp only [Act.put, List.setIfInBounds_toArray, List.set_cons_succ, List.set_cons_zero]
    refine hoist [] [] (a1 := ?_) 2 rfl (by kernel_rfl) (.inl ⟨rfl, rfl⟩) rfl rfl rfl (fun x K hK => ?_) ?_
    rotate_left
    · go_big_quiet_op
      exact hK
    refine hoist [] [] (a1 := ?_) 3 rfl (by kernel_rfl) (.inl ⟨rfl, rfl⟩) rfl rfl rfl (fun x K hK => ?_) ?_
    rotate_left
    · go_big_quiet_op
      exact hK
    refine hoist [] [] (a1 := ?_) 4 rfl (by kernel_rfl) (.inl ⟨rfl, rfl⟩) rfl rfl rfl (fun x K hK => ?_) ?_
    rotate_left
    · go_big_quiet_op
      exact hK
    refine hoist [] [] (a1 := ?_) 5 rfl (by kernel_rfl) (.inl ⟨rfl, rfl⟩) rfl rfl rfl (fun x K hK => ?_) ?_
    rotate_left
    · go_big_quiet_op
      exact hK
    refine hoist [] [] (a1 := ?_) 6 rfl (by kernel_rfl) (.inl ⟨rfl, rfl⟩) rfl rfl rfl (fun x K hK => ?_) ?_
    rotate_left
    · go_big_quiet_op
      exact hK
    refine hoist [] [] (a1 := ?_) 7 rfl (by kernel_rfl) (.inl ⟨rfl, rfl⟩) rfl rfl rfl (fun x K hK => ?_) ?_
    rotate_left
    · go_big_quiet_op
      exact hK
    refine done (by kernel_rfl) (fun xr => ?_)
    have l3 := l2 xr
    have B8 := Lib.hid (B7.out.trans xr.bw)
    have X8 := Lib.hid (X7.out.bw xr.bw)
    have D8 := Lib.hid (show BdV xr.now w.heap.size gb cnt l from ⟨_, D7.out.bw xr.bw, by rw [hln.out]; exact O7.out.bw xr.bw⟩)
    clear l0 l1 l2 B7 X7 D7 O7
    generalize xr.now = w8 at *
    go_upto_region 7 with (fail)
    clear l3
    go_wp2_with fail
    refine Calls.mono (need_ok w8) ?_
    rintro e w' ⟨rfl, rfl⟩
    dsimp only
    have cF := Lib.hid (hF w.heap.size gb w8 D8.out)
    clear D8
    go_wp2_with fail
    refine Calls.mono cF.out ?_
    rintro e w9 ⟨vr, vn, vs, vl, vf, rfl, C9, D9, T9⟩
    obtain ⟨sr, cr, rfl, _, _⟩ := C9.r.len
    obtain ⟨sn, cn, rfl, _, _⟩ := C9.n.len
    obtain ⟨ss, cs2, rfl, _, _⟩ := C9.s.len
    obtain ⟨sl, cl, rfl, _, _⟩ := C9.l.len
    obtain ⟨sf, cf, rfl, _, _⟩ := C9.f.len
    have B9 := Lib.hid (B8.out.stP T9 (fun z hz => by obtain rfl : z = gb := (by simpa using hz); omega))
    have X9 := Lib.hid (X8.out.st T9 (by simp; omega))
    have h89 := Lib.hid (Nat.le_trans B8.out.size (Nat.le_refl _))
    have C10 := Lib.hid (C9.up h89.out)
    clear B8 X8 T9 cF C9 h89
    obtain ⟨ck, cs, cm, ct, cst, cpk, coc, creps, cnams, csrcs, closs, cfirs, crt⟩ := c
    dsimp only at C10
    unfold ctlC
    dsimp only
    generalize hnr : creps.length = nr at *
    generalize hnn : cnams.length = nn at *
    generalize hns : csrcs.length = ns at *
    generalize hnl : closs.length = nl at *
    generalize hnf : cfirs.length = nf at *
    replace hnr := Lib.hid hnr
    replace hnn := Lib.hid hnn
    replace hns := Lib.hid hns
    replace hnl := Lib.hid hnl
    replace hnf := Lib.hid hnf
    obtain ⟨v10, H10, O10⟩ := D9
    obtain ⟨s10, c10, rfl, _, _⟩ := O10.len
    simp only [List.length_nil] at H10
    have e1 := hp_cell H10 1
    simp only [List.getElem?_toArray, List.getElem?_cons_zero, List.getElem?_cons_succ] at e1
    clear H10 O10
    have BE : BW w9 (w9.alloc (.cells #[.int .i64 ck, .int .u32 (cs : Nat), .int .u32 (cm : Nat), .int .u64 (ct : Nat), .int .u32 (cst : Nat), .int .u32 (cpk : Nat), .int .u32 (coc : Nat), .slice sr nr cr, .slice sn nn cn, .slice ss ns cs2, .slice sl nl cl, .slice sf nf cf, .int .u64 (crt : Nat)] 111)) := (BW.refl _).alloc
    have Y11 := Lib.hid (HpB.new w9 (.cells #[.int .i64 ck, .int .u32 (cs : Nat), .int .u32 (cm : Nat), .int .u64 (ct : Nat), .int .u32 (cst : Nat), .int .u32 (cpk : Nat), .int .u32 (coc : Nat), .slice sr nr cr, .slice sn nn cn, .slice ss ns cs2, .slice sl nl cl, .slice sf nf cf, .int .u64 (crt : Nat)] 111))
    have B11 := Lib.hid (B9.out.trans BE)
    have X11 := Lib.hid (X9.out.bw BE)
    have C11 := Lib.hid (C10.out.bw BE)
    have e2 := BE.cell e1
    clear B9 X9 C10
    replace BE := Lib.hid BE
    go_upto_region 9 with (fail)
    generalize (w9.alloc _) = w11 at *
    generalize w9.heap.size = g11 at *
    clear e1 BE
    go_wp2_with fail
    refine Calls.mono (need_ok w11) ?_
    rintro e w' ⟨rfl, rfl⟩
    dsimp only
    have u0 := hp_cell (Y11.out) 0
    have u1 := hp_cell (Y11.out) 1
    have u2 := hp_cell (Y11.out) 2
    have u3 := hp_cell (Y11.out) 3
    have u4 := hp_cell (Y11.out) 4
    have u5 := hp_cell (Y11.out) 5
    have u6 := hp_cell (Y11.out) 6
    have u7 := hp_cell (Y11.out) 7
    have u8 := hp_cell (Y11.out) 8
    have u9 := hp_cell (Y11.out) 9
    have u10 := hp_cell (Y11.out) 10
    have u11 := hp_cell (Y11.out) 11
    have u12 := hp_cell (Y11.out) 12
    simp only [List.getElem?_toArray, List.getElem?_cons_zero, List.getElem?_cons_succ] at u0 u1 u2 u3 u4 u5 u6 u7 u8 u9 u10 u11 u12
    have z0 := hp_cell (X11.out) 0
    have y0 := hp_frz (X11.out) 0
    have z1 := hp_cell (X11.out) 1
    have y1 := hp_frz (X11.out) 1
    have z2 := hp_cell (X11.out) 2
    have y2 := hp_frz (X11.out) 2
    have z3 := hp_cell (X11.out) 3
    have y3 := hp_frz (X11.out) 3
    have z4 := hp_cell (X11.out) 4
    have y4 := hp_frz (X11.out) 4
    have z5 := hp_cell (X11.out) 5
    have y5 := hp_frz (X11.out) 5
    have z6 := hp_cell (X11.out) 6
    have y6 := hp_frz (X11.out) 6
    have z7 := hp_cell (X11.out) 7
    have y7 := hp_frz (X11.out) 7
    have z8 := hp_cell (X11.out) 8
    have y8 := hp_frz (X11.out) 8
    have z9 := hp_cell (X11.out) 9
    have y9 := hp_frz (X11.out) 9
    have z10 := hp_cell (X11.out) 10
    have y10 := hp_frz (X11.out) 10
    have z11 := hp_cell (X11.out) 11
    have y11 := hp_frz (X11.out) 11
    have z12 := hp_cell (X11.out) 12
    have y12 := hp_frz (X11.out) 12
    simp only [List.getElem?_toArray, List.getElem?_cons_zero, List.getElem?_cons_succ] at z0 z1 z2 z3 z4 z5 z6 z7 z8 z9 z10 z11 z12
    have hg0 := Lib.hid (show w.heap.size < w11.heap.size from X11.out.lt)
    have TS := still_st13 w11 w.heap.size (.int .i64 ck) (.int .u32 (cs : Nat)) (.int .u32 (cm : Nat)) (.int .u64 (ct : Nat)) (.int .u32 (cst : Nat)) (.int .u32 (cpk : Nat)) (.int .u32 (coc : Nat)) (.slice sr nr cr) (.slice sn nn cn) (.slice ss ns cs2) (.slice sl nl cl) (.slice sf nf cf) (.int .u64 (crt : Nat))
    have B12 := Lib.hid (B11.out.stP TS (fun z hz => by obtain rfl : z = w.heap.size := (by simpa using hz); exact Nat.le_refl _))
    have X12 := Lib.hid (HpB.st13 X11.out rfl (.int .i64 ck) (.int .u32 (cs : Nat)) (.int .u32 (cm : Nat)) (.int .u64 (ct : Nat)) (.int .u32 (cst : Nat)) (.int .u32 (cpk : Nat)) (.int .u32 (coc : Nat)) (.slice sr nr cr) (.slice sn nn cn) (.slice ss ns cs2) (.slice sl nl cl) (.slice sf nf cf) (.int .u64 (crt : Nat)))
    have C12 := Lib.hid (C11.out.still TS (fun z hz => by obtain rfl : z = w.heap.size := (by simpa using hz); exact .inr ⟨_, _, _, X11.out, by decide, by decide, by decide, by decide, by decide⟩))
    clear B11 X11 C11 Y11 TS
    go_wp2_with fail
    refine bodyPost_ret (results_cell_row (p := 2) rfl _ _ w.heap.size _ _ _ _ rfl X12.out Try.underlying111 rfl (by kernel_rfl)) rfl ?_
    refine ⟨_, _, _, _, _, rfl, ?_, B12.out⟩
    have C13 := C12.out
    rw [← hnr.out, ← hnn.out, ← hns.out, ← hnl.out, ← hnf.out] at C13
    rw [← hnr.out, ← hnn.out, ← hns.out, ← hnl.out, ← hnf.out]
    exact C13
  by_cases h6 : ti = 206
  · have d1 : (ti == 205) = false := by simpa using h5
    have d2 : (ti == 206) = true := by simpa using h6
    have TS := still_sc w5 gk 1 (.int .i64 (cnt : Nat))
    have K6 : Hid (HpB (w5.setCell ⟨gk, 1, none⟩ (.int .i64 (cnt : Nat))) gk (.cells #[.int .i64 ti, .int .i64 (cnt : Nat)] 200)) := hp_set K5.out 1 _
    have B6 := Lib.hid (B5.out.stP TS (fun z hz => by obtain rfl : z = gk := (by simpa using hz); omega))
    have X6 := Lib.hid (X5.out.st TS (by simp; omega))
    have D6 := Lib.hid (D5.out.st TS (by simp; omega))
    have O6 := Lib.hid (O5.out.still TS (fun z hz hm => by obtain rfl : z = gk := (by simpa using hm); exact O5.out.2.2.ne K5.out (by decide) _ hz rfl))
    obtain rfl : k = (cnt : Int) := by rw [hk, if_pos (by omega)]
    clear B5 X5 D5 O5 K5 TS hk
    clear h5 h6
    go_upto_region 6 with (fail)
    clear k0 k1 f1 d0
    generalize (w5.setCell _ _) = w6 at *
    have k0 := hp_cell K6.out 0
    have k1 := hp_cell K6.out 1
    simp only [List.getElem?_toArray, List.getElem?_cons_zero, List.getElem?_cons_succ] at k0 k1
    have l0 : ∀ z : LaterS [] w6, z.now.cell? ⟨gk, 0, none⟩ = _ := fun z => z.bw.cell k0
    have l1 : ∀ z : LaterS [] w6, z.now.cell? ⟨gk, 1, none⟩ = _ := fun z => z.bw.cell k1
    clear k0 k1
    refine wp_region_gg [] [] [] (by kernel_rfl) ?_
    refine hoist [] [] (a1 := ?_) 1 rfl (by kernel_rfl) (.inl ⟨rfl, rfl⟩) rfl rfl rfl (fun x K hK => ?_) ?_
    rotate_left
    · go_big_quiet_op
      exact hK
    refine effect 0 rfl (by kernel_rfl) (by kernel_rfl) rfl (fun x0 K hK => ?_)
    go_simp
    refine Calls.mono (readers_ok x0.now) ?_
    rintro e w7 ⟨gm, rfl, M⟩
    refine hK _ _ (M.2.1.still []) ?_
    clear hK K
    have hb := x0.bw.trans M.2.1
    have B7 := Lib.hid (B6.out.trans hb)
    have X7 := Lib.hid (X6.out.bw hb)
    have D7 := Lib.hid (D6.out.bw hb)
    have O7 := Lib.hid (O6.out.bw hb)
    have l2 := fun z : LaterS [] w7 => kv_look (M.still z.ok) i hi
    rw [hkv] at l2
    unfold kindV fnV at l2
    replace l0 : ∀ z : LaterS [] w7, z.now.cell? ⟨gk, 0, none⟩ = _ := fun z => z.bw.cell (hb.cell (l0 (LaterS.first [] _)))
    replace l1 : ∀ z : LaterS [] w7, z.now.cell? ⟨gk, 1, none⟩ = _ := fun z => z.bw.cell (hb.cell (l1 (LaterS.first [] _)))
    clear hb M B6 X6 D6 O6 K6
    try simp only [Act.put, List.setIfInBounds_toArray, List.set_cons_succ, List.set_cons_zero]
    refine hoist [] [] (a1 := ?_) 2 rfl (by kernel_rfl) (.inl ⟨rfl, rfl⟩) rfl rfl rfl (fun x K hK => ?_) ?_
    rotate_left
    · go_big_quiet_op
      exact hK
    refine hoist [] [] (a1 := ?_) 3 rfl (by kernel_rfl) (.inl ⟨rfl, rfl⟩) rfl rfl rfl (fun x K hK => ?_) ?_
    rotate_left
    · go_big_quiet_op
      exact hK
    refine hoist [] [] (a1 := ?_) 4 rfl (by kernel_rfl) (.inl ⟨rfl, rfl⟩) rfl rfl rfl (fun x K hK => ?_) ?_
    rotate_left
    · go_big_quiet_op
      exact hK
    refine hoist [] [] (a1 := ?_) 5 rfl (by kernel_rfl) (.inl ⟨rfl, rfl⟩) rfl rfl rfl (fun x K hK => ?_) ?_
    rotate_left
    · go_big_quiet_op
      exact hK
    refine hoist [] [] (a1 := ?_) 6 rfl (by kernel_rfl) (.inl ⟨rfl, rfl⟩) rfl rfl rfl (fun x K hK => ?_) ?_
    rotate_left
    · go_big_quiet_op
      exact hK
    refine hoist [] [] (a1 := ?_) 7 rfl (by kernel_rfl) (.inl ⟨rfl, rfl⟩) rfl rfl rfl (fun x K hK => ?_) ?_
    rotate_left
    · go_big_quiet_op
      exact hK
    refine done (by kernel_rfl) (fun xr => ?_)
    have l3 := l2 xr
    have B8 := Lib.hid (B7.out.trans xr.bw)
    have X8 := Lib.hid (X7.out.bw xr.bw)
    have D8 := Lib.hid (show BdV xr.now w.heap.size gb cnt l from ⟨_, D7.out.bw xr.bw, by rw [hln.out]; exact O7.out.bw xr.bw⟩)
    clear l0 l1 l2 B7 X7 D7 O7
    generalize xr.now = w8 at *
    go_upto_region 7 with (fail)
    clear l3
    go_wp2_with fail
    refine Calls.mono (need_ok w8) ?_
    rintro e w' ⟨rfl, rfl⟩
    dsimp only
    have cF := Lib.hid (hF w.heap.size gb w8 D8.out)
    clear D8
    go_wp2_with fail
    refine Calls.mono cF.out ?_
    rintro e w9 ⟨vr, vn, vs, vl, vf, rfl, C9, D9, T9⟩
    obtain ⟨sr, cr, rfl, _, _⟩ := C9.r.len
    obtain ⟨sn, cn, rfl, _, _⟩ := C9.n.len
    obtain ⟨ss, cs2, rfl, _, _⟩ := C9.s.len
    obtain ⟨sl, cl, rfl, _, _⟩ := C9.l.len
    obtain ⟨sf, cf, rfl, _, _⟩ := C9.f.len
    have B9 := Lib.hid (B8.out.stP T9 (fun z hz => by obtain rfl : z = gb := (by simpa using hz); omega))
    have X9 := Lib.hid (X8.out.st T9 (by simp; omega))
    have h89 := Lib.hid (Nat.le_trans B8.out.size (Nat.le_refl _))
    have C10 := Lib.hid (C9.up h89.out)
    clear B8 X8 T9 cF C9 h89
    obtain ⟨ck, cs, cm, ct, cst, cpk, coc, creps, cnams, csrcs, closs, cfirs, crt⟩ := c
    dsimp only at C10
    unfold ctlC
    dsimp only
    generalize hnr : creps.length = nr at *
    generalize hnn : cnams.length = nn at *
    generalize hns : csrcs.length = ns at *
    generalize hnl : closs.length = nl at *
    generalize hnf : cfirs.length = nf at *
    replace hnr := Lib.hid hnr
    replace hnn := Lib.hid hnn
    replace hns := Lib.hid hns
    replace hnl := Lib.hid hnl
    replace hnf := Lib.hid hnf
    obtain ⟨v10, H10, O10⟩ := D9
    obtain ⟨s10, c10, rfl, _, _⟩ := O10.len
    simp only [List.length_nil] at H10
    have e1 := hp_cell H10 1
    simp only [List.getElem?_toArray, List.getElem?_cons_zero, List.getElem?_cons_succ] at e1
    clear H10 O10
    have BE : BW w9 (w9.alloc (.cells #[.int .i64 ck, .int .u32 (cs : Nat), .int .u32 (cm : Nat), .int .u64 (ct : Nat), .int .u32 (cst : Nat), .int .u32 (cpk : Nat), .int .u32 (coc : Nat), .slice sr nr cr, .slice sn nn cn, .slice ss ns cs2, .slice sl nl cl, .slice sf nf cf, .int .u64 (crt : Nat)] 111)) := (BW.refl _).alloc
    have Y11 := Lib.hid (HpB.new w9 (.cells #[.int .i64 ck, .int .u32 (cs : Nat), .int .u32 (cm : Nat), .int .u64 (ct : Nat), .int .u32 (cst : Nat), .int .u32 (cpk : Nat), .int .u32 (coc : Nat), .slice sr nr cr, .slice sn nn cn, .slice ss ns cs2, .slice sl nl cl, .slice sf nf cf, .int .u64 (crt : Nat)] 111))
    have B11 := Lib.hid (B9.out.trans BE)
    have X11 := Lib.hid (X9.out.bw BE)
    have C11 := Lib.hid (C10.out.bw BE)
    have e2 := BE.cell e1
    clear B9 X9 C10
    replace BE := Lib.hid BE
    go_upto_region 9 with (fail)
    generalize (w9.alloc _) = w11 at *
    generalize w9.heap.size = g11 at *
    clear e1 BE
    go_wp2_with fail
    refine Calls.mono (need_ok w11) ?_
    rintro e w' ⟨rfl, rfl⟩
    dsimp only
    have u0 := hp_cell (Y11.out) 0
    have u1 := hp_cell (Y11.out) 1
    have u2 := hp_cell (Y11.out) 2
    have u3 := hp_cell (Y11.out) 3
    have u4 := hp_cell (Y11.out) 4
    have u5 := hp_cell (Y11.out) 5
    have u6 := hp_cell (Y11.out) 6
    have u7 := hp_cell (Y11.out) 7
    have u8 := hp_cell (Y11.out) 8
    have u9 := hp_cell (Y11.out) 9
    have u10 := hp_cell (Y11.out) 10
    have u11 := hp_cell (Y11.out) 11
    have u12 := hp_cell (Y11.out) 12
    simp only [List.getElem?_toArray, List.getElem?_cons_zero, List.getElem?_cons_succ] at u0 u1 u2 u3 u4 u5 u6 u7 u8 u9 u10 u11 u12
    have z0 := hp_cell (X11.out) 0
    have y0 := hp_frz (X11.out) 0
    have z1 := hp_cell (X11.out) 1
    have y1 := hp_frz (X11.out) 1
    have z2 := hp_cell (X11.out) 2
    have y2 := hp_frz (X11.out) 2
    have z3 := hp_cell (X11.out) 3
    have y3 := hp_frz (X11.out) 3
    have z4 := hp_cell (X11.out) 4
    have y4 := hp_frz (X11.out) 4
    have z5 := hp_cell (X11.out) 5
    have y5 := hp_frz (X11.out) 5
    have z6 := hp_cell (X11.out) 6
    have y6 := hp_frz (X11.out) 6
    have z7 := hp_cell (X11.out) 7
    have y7 := hp_frz (X11.out) 7
    have z8 := hp_cell (X11.out) 8
    have y8 := hp_frz (X11.out) 8
    have z9 := hp_cell (X11.out) 9
    have y9 := hp_frz (X11.out) 9
    have z10 := hp_cell (X11.out) 10
    have y10 := hp_frz (X11.out) 10
    have z11 := hp_cell (X11.out) 11
    have y11 := hp_frz (X11.out) 11
    have z12 := hp_cell (X11.out) 12
    have y12 := hp_frz (X11.out) 12
    simp only [List.getElem?_toArray, List.getElem?_cons_zero, List.getElem?_cons_succ] at z0 z1 z2 z3 z4 z5 z6 z7 z8 z9 z10 z11 z12
    have hg0 := Lib.hid (show w.heap.size < w11.heap.size from X11.out.lt)
    have TS := still_st13 w11 w.heap.size (.int .i64 ck) (.int .u32 (cs : Nat)) (.int .u32 (cm : Nat)) (.int .u64 (ct : Nat)) (.int .u32 (cst : Nat)) (.int .u32 (cpk : Nat)) (.int .u32 (coc : Nat)) (.slice sr nr cr) (.slice sn nn cn) (.slice ss ns cs2) (.slice sl nl cl) (.slice sf nf cf) (.int .u64 (crt : Nat))
    have B12 := Lib.hid (B11.out.stP TS (fun z hz => by obtain rfl : z = w.heap.size := (by simpa using hz); exact Nat.le_refl _))
    have X12 := Lib.hid (HpB.st13 X11.out rfl (.int .i64 ck) (.int .u32 (cs : Nat)) (.int .u32 (cm : Nat)) (.int .u64 (ct : Nat)) (.int .u32 (cst : Nat)) (.int .u32 (cpk : Nat)) (.int .u32 (coc : Nat)) (.slice sr nr cr) (.slice sn nn cn) (.slice ss ns cs2) (.slice sl nl cl) (.slice sf nf cf) (.int .u64 (crt : Nat)))
    have C12 := Lib.hid (C11.out.still TS (fun z hz => by obtain rfl : z = w.heap.size := (by simpa using hz); exact .inr ⟨_, _, _, X11.out, by decide, by decide, by decide, by decide, by decide⟩))
    clear B11 X11 C11 Y11 TS
    go_wp2_with fail
    refine bodyPost_ret (results_cell_row (p := 2) rfl _ _ w.heap.size _ _ _ _ rfl X12.out Try.underlying111 rfl (by kernel_rfl)) rfl ?_
    refine ⟨_, _, _, _, _, rfl, ?_, B12.out⟩
    have C13 := C12.out
    rw [← hnr.out, ← hnn.out, ← hns.out, ← hnl.out, ← hnf.out] at C13
    rw [← hnr.out, ← hnn.out, ← hns.out, ← hnl.out, ← hnf.out]
    exact C13
  · have d1 : (ti == 205) = false := by simpa using h5
    have d2 : (ti == 206) = false := by simpa using h6
    obtain rfl : k = -1 := by rw [hk, if_neg (by omega)]
    clear hk h5 h6
    go_upto_region 6 with (fail)
    obtain ⟨w6, hw6⟩ : ∃ w6, w6 = w5 := ⟨_, rfl⟩
    rw [← hw6] at B5 X5 D5 O5 K5 ⊢
    clear hw6 k0 k1 f1 d0
    have B6 := B5
    have X6 := X5
    have D6 := D5
    have O6 := O5
    have K6 := K5
    clear B5 X5 D5 O5 K5
    have k0 := hp_cell K6.out 0
    have k1 := hp_cell K6.out 1
    simp only [List.getElem?_toArray, List.getElem?_cons_zero, List.getElem?_cons_succ] at k0 k1
    have l0 : ∀ z : LaterS [] w6, z.now.cell? ⟨gk, 0, none⟩ = _ := fun z => z.bw.cell k0
    have l1 : ∀ z : LaterS [] w6, z.now.cell? ⟨gk, 1, none⟩ = _ := fun z => z.bw.cell k1
    clear k0 k1
    refine wp_region_gg [] [] [] (by kernel_rfl) ?_
    refine hoist [] [] (a1 := ?_) 1 rfl (by kernel_rfl) (.inl ⟨rfl, rfl⟩) rfl rfl rfl (fun x K hK => ?_) ?_
    rotate_left
    · go_big_quiet_op
      exact hK
    refine effect 0 rfl (by kernel_rfl) (by kernel_rfl) rfl (fun x0 K hK => ?_)
    go_simp
    refine Calls.mono (readers_ok x0.now) ?_
    rintro e w7 ⟨gm, rfl, M⟩
    refine hK _ _ (M.2.1.still []) ?_
    clear hK K
    have hb := x0.bw.trans M.2.1
    have B7 := Lib.hid (B6.out.trans hb)
    have X7 := Lib.hid (X6.out.bw hb)
    have D7 := Lib.hid (D6.out.bw hb)
    have O7 := Lib.hid (O6.out.bw hb)
    have l2 := fun z : LaterS [] w7 => kv_look (M.still z.ok) i hi
    rw [hkv] at l2
    unfold kindV fnV at l2
    replace l0 : ∀ z : LaterS [] w7, z.now.cell? ⟨gk, 0, none⟩ = _ := fun z => z.bw.cell (hb.cell (l0 (LaterS.first [] _)))
    replace l1 : ∀ z : LaterS [] w7, z.now.cell? ⟨gk, 1, none⟩ = _ := fun z => z.bw.cell (hb.cell (l1 (LaterS.first [] _)))
    clear hb M B6 X6 D6 O6 K6
    try simp only [Act.put, List.setIfInBounds_toArray, List.set_cons_succ, List.set_cons_zero]
    refine hoist [] [] (a1 := ?_) 2 rfl (by kernel_rfl) (.inl ⟨rfl, rfl⟩) rfl rfl rfl (fun x K hK => ?_) ?_
    rotate_left
    · go_big_quiet_op
      exact hK
    refine hoist [] [] (a1 := ?_) 3 rfl (by kernel_rfl) (.inl ⟨rfl, rfl⟩) rfl rfl rfl (fun x K hK => ?_) ?_
    rotate_left
    · go_big_quiet_op
      exact hK
    refine hoist [] [] (a1 := ?_) 4 rfl (by kernel_rfl) (.inl ⟨rfl, rfl⟩) rfl rfl rfl (fun x K hK => ?_) ?_
    rotate_left
    · go_big_quiet_op
      exact hK
    refine hoist [] [] (a1 := ?_) 5 rfl (by kernel_rfl) (.inl ⟨rfl, rfl⟩) rfl rfl rfl (fun x K hK => ?_) ?_
    rotate_left
    · go_big_quiet_op
      exact hK
    refine hoist [] [] (a1 := ?_) 6 rfl (by kernel_rfl) (.inl ⟨rfl, rfl⟩) rfl rfl rfl (fun x K hK => ?_) ?_
    rotate_left
    · go_big_quiet_op
      exact hK
    refine hoist [] [] (a1 := ?_) 7 rfl (by kernel_rfl) (.inl ⟨rfl, rfl⟩) rfl rfl rfl (fun x K hK => ?_) ?_
    rotate_left
    · go_big_quiet_op
      exact hK
    refine done (by kernel_rfl) (fun xr => ?_)
    have l3 := l2 xr
    have B8 := Lib.hid (B7.out.trans xr.bw)
    have X8 := Lib.hid (X7.out.bw xr.bw)
    have D8 := Lib.hid (show BdV xr.now w.heap.size gb cnt l from ⟨_, D7.out.bw xr.bw, by rw [hln.out]; exact O7.out.bw xr.bw⟩)
    clear l0 l1 l2 B7 X7 D7 O7
    generalize xr.now = w8 at *
    go_upto_region 7 with (fail)
    clear l3
    go_wp2_with fail
    refine Calls.mono (need_ok w8) ?_
    rintro e w' ⟨rfl, rfl⟩
    dsimp only
    have cF := Lib.hid (hF w.heap.size gb w8 D8.out)
    clear D8
    go_wp2_with fail
    refine Calls.mono cF.out ?_
    rintro e w9 ⟨vr, vn, vs, vl, vf, rfl, C9, D9, T9⟩
    obtain ⟨sr, cr, rfl, _, _⟩ := C9.r.len
    obtain ⟨sn, cn, rfl, _, _⟩ := C9.n.len
    obtain ⟨ss, cs2, rfl, _, _⟩ := C9.s.len
    obtain ⟨sl, cl, rfl, _, _⟩ := C9.l.len
    obtain ⟨sf, cf, rfl, _, _⟩ := C9.f.len
    have B9 := Lib.hid (B8.out.stP T9 (fun z hz => by obtain rfl : z = gb := (by simpa using hz); omega))
    have X9 := Lib.hid (X8.out.st T9 (by simp; omega))
    have h89 := Lib.hid (Nat.le_trans B8.out.size (Nat.le_refl _))
    have C10 := Lib.hid (C9.up h89.out)
    clear B8 X8 T9 cF C9 h89
    obtain ⟨ck, cs, cm, ct, cst, cpk, coc, creps, cnams, csrcs, closs, cfirs, crt⟩ := c
    dsimp only at C10
    unfold ctlC
    dsimp only
    generalize hnr : creps.length = nr at *
    generalize hnn : cnams.length = nn at *
    generalize hns : csrcs.length = ns at *
    generalize hnl : closs.length = nl at *
    generalize hnf : cfirs.length = nf at *
    replace hnr := Lib.hid hnr
    replace hnn := Lib.hid hnn
    replace hns := Lib.hid hns
    replace hnl := Lib.hid hnl
    replace hnf := Lib.hid hnf
    obtain ⟨v10, H10, O10⟩ := D9
    obtain ⟨s10, c10, rfl, _, _⟩ := O10.len
    simp only [List.length_nil] at H10
    have e1 := hp_cell H10 1
    simp only [List.getElem?_toArray, List.getElem?_cons_zero, List.getElem?_cons_succ] at e1
    clear H10 O10
    have BE : BW w9 (w9.alloc (.cells #[.int .i64 ck, .int .u32 (cs : Nat), .int .u32 (cm : Nat), .int .u64 (ct : Nat), .int .u32 (cst : Nat), .int .u32 (cpk : Nat), .int .u32 (coc : Nat), .slice sr nr cr, .slice sn nn cn, .slice ss ns cs2, .slice sl nl cl, .slice sf nf cf, .int .u64 (crt : Nat)] 111)) := (BW.refl _).alloc
    have Y11 := Lib.hid (HpB.new w9 (.cells #[.int .i64 ck, .int .u32 (cs : Nat), .int .u32 (cm : Nat), .int .u64 (ct : Nat), .int .u32 (cst : Nat), .int .u32 (cpk : Nat), .int .u32 (coc : Nat), .slice sr nr cr, .slice sn nn cn, .slice ss ns cs2, .slice sl nl cl, .slice sf nf cf, .int .u64 (crt : Nat)] 111))
    have B11 := Lib.hid (B9.out.trans BE)
    have X11 := Lib.hid (X9.out.bw BE)
    have C11 := Lib.hid (C10.out.bw BE)
    have e2 := BE.cell e1
    clear B9 X9 C10
    replace BE := Lib.hid BE
    go_upto_region 9 with (fail)
    generalize (w9.alloc _) = w11 at *
    generalize w9.heap.size = g11 at *
    clear e1 BE
    go_wp2_with fail
    refine Calls.mono (need_ok w11) ?_
    rintro e w' ⟨rfl, rfl⟩
    dsimp only
    have u0 := hp_cell (Y11.out) 0
    have u1 := hp_cell (Y11.out) 1
    have u2 := hp_cell (Y11.out) 2
    have u3 := hp_cell (Y11.out) 3
    have u4 := hp_cell (Y11.out) 4
    have u5 := hp_cell (Y11.out) 5
    have u6 := hp_cell (Y11.out) 6
    have u7 := hp_cell (Y11.out) 7
    have u8 := hp_cell (Y11.out) 8
    have u9 := hp_cell (Y11.out) 9
    have u10 := hp_cell (Y11.out) 10
    have u11 := hp_cell (Y11.out) 11
    have u12 := hp_cell (Y11.out) 12
    simp only [List.getElem?_toArray, List.getElem?_cons_zero, List.getElem?_cons_succ] at u0 u1 u2 u3 u4 u5 u6 u7 u8 u9 u10 u11 u12
    have z0 := hp_cell (X11.out) 0
    have y0 := hp_frz (X11.out) 0
    have z1 := hp_cell (X11.out) 1
    have y1 := hp_frz (X11.out) 1
    have z2 := hp_cell (X11.out) 2
    have y2 := hp_frz (X11.out) 2
    have z3 := hp_cell (X11.out) 3
    have y3 := hp_frz (X11.out) 3
    have z4 := hp_cell (X11.out) 4
    have y4 := hp_frz (X11.out) 4
    have z5 := hp_cell (X11.out) 5
    have y5 := hp_frz (X11.out) 5
    have z6 := hp_cell (X11.out) 6
    have y6 := hp_frz (X11.out) 6
    have z7 := hp_cell (X11.out) 7
    have y7 := hp_frz (X11.out) 7
    have z8 := hp_cell (X11.out) 8
    have y8 := hp_frz (X11.out) 8
    have z9 := hp_cell (X11.out) 9
    have y9 := hp_frz (X11.out) 9
    have z10 := hp_cell (X11.out) 10
    have y10 := hp_frz (X11.out) 10
    have z11 := hp_cell (X11.out) 11
    have y11 := hp_frz (X11.out) 11
    have z12 := hp_cell (X11.out) 12
    have y12 := hp_frz (X11.out) 12
    simp only [List.getElem?_toArray, List.getElem?_cons_zero, List.getElem?_cons_succ] at z0 z1 z2 z3 z4 z5 z6 z7 z8 z9 z10 z11 z12
    have hg0 := Lib.hid (show w.heap.size < w11.heap.size from X11.out.lt)
    have TS := still_st13 w11 w.heap.size (.int .i64 ck) (.int .u32 (cs : Nat)) (.int .u32 (cm : Nat)) (.int .u64 (ct : Nat)) (.int .u32 (cst : Nat)) (.int .u32 (cpk : Nat)) (.int .u32 (coc : Nat)) (.slice sr nr cr) (.slice sn nn cn) (.slice ss ns cs2) (.slice sl nl cl) (.slice sf nf cf) (.int .u64 (crt : Nat))
    have B12 := Lib.hid (B11.out.stP TS (fun z hz => by obtain rfl : z = w.heap.size := (by simpa using hz); exact Nat.le_refl _))
    have X12 := Lib.hid (HpB.st13 X11.out rfl (.int .i64 ck) (.int .u32 (cs : Nat)) (.int .u32 (cm : Nat)) (.int .u64 (ct : Nat)) (.int .u32 (cst : Nat)) (.int .u32 (cpk : Nat)) (.int .u32 (coc : Nat)) (.slice sr nr cr) (.slice sn nn cn) (.slice ss ns cs2) (.slice sl nl cl) (.slice sf nf cf) (.int .u64 (crt : Nat)))
    have C12 := Lib.hid (C11.out.still TS (fun z hz => by obtain rfl : z = w.heap.size := (by simpa using hz); exact .inr ⟨_, _, _, X11.out, by decide, by decide, by decide, by decide, by decide⟩))
    clear B11 X11 C11 Y11 TS
    go_wp2_with fail
    refine bodyPost_ret (results_cell_row (p := 2) rfl _ _ w.heap.size _ _ _ _ rfl X12.out Try.underlying111 rfl (by kernel_rfl)) rfl ?_
    refine ⟨_, _, _, _, _, rfl, ?_, B12.out⟩
    have C13 := C12.out
    rw [← hnr.out, ← hnn.out, ← hns.out, ← hnl.out, ← hnf.out] at C13
    rw [← hnr.out, ← hnn.out, ← hns.out, ← hnl.out, ← hnf.out]
    exact C13
end Go.Proofs.Ytcempndfbckcaaa
