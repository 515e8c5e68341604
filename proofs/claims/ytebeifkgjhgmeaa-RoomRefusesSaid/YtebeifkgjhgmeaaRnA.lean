/- A step: publish, its arguments good. No condition but the sizes'. -/
import Derived.Test.YtebeifkgjhgmeaaRmZ
import Derived.Test.YtebeifkgjhgmeaaRmY
namespace Go.Proofs.Ytebeifkgjhgmeaa
open Go.RowKit
theorem Sls.newI (w : World) (r : Int) : Sls (w.alloc (.cells #[.int .i64 r] 3)) I1.size (.slice (some ⟨w.heap.size, 0, none⟩) 1 1) 1 [.int .i64 r] := Sls.new1 (E := I1) w 3 [.int .i64 r] rfl
theorem u4_cell {w : World} {base : Nat} {sa : Option Addr} {n c : Nat} {F : List Nat} (h : SQ EU4 w base (.slice sa n c) n F) (h0 : 0 < n) : ∃ g o, sa = some ⟨g, o, none⟩ ∧ ∀ k (hk : k < F.length), w.cell? ⟨g, o + k, none⟩ = some (.int .u32 (F[k] : Nat)) := by
 obtain ⟨g, o, cap, hsl, -, -, -, hce⟩ := h.form h0
 simp only [Value.slice.injEq] at hsl
 refine ⟨g, o, hsl.1, fun k hk => ?_⟩
 obtain ⟨cs, hR, hcs⟩ := hce k hk
 have e : cs = u32V F[k] := hR
 have := hcs 0 (by decide)
 rw [e, show EU4.size = 1 from rfl, Nat.mul_one, Nat.add_zero] at this
 exact this
theorem EQ.holds {w : World} {base blk off n cap : Nat} {l : List Int} (h : EQ I1 3 w base (.slice (some ⟨blk, off, none⟩) n cap) n l) (h0 : 0 < n) : HoI w blk off l := by
 obtain ⟨g, o, hsl, hce⟩ := i1_form h h0
 cases hsl
 obtain ⟨cr, hcr⟩ := h.row blk rfl
 intro j hj
 have hj2 : j < l.length := by simpa using hj
 refine ⟨?_, hp_frz hcr _⟩
 rw [hce j hj2]
 simp [getElem!_pos, hj2]
theorem HouseV.setTkt {w : World} {base gh : Nat} {vS : Value} {gl o n c : Nat} {S : List (List Nat)} {L : List (Mem × Value)} (h : HouseV w base gh vS (.slice (some ⟨gl, o, none⟩) n c) S L) (i : Nat) (hi : i < L.length) (t : Nat) (ht : t = 0 ∨ t = 1) (x : Trk) (vp : Value) (hp : EQ I1 3 w base vp x.p.length x.p) :
  HouseV (((w.setCell ⟨gl, o + i * 9 + 1 + t * 3, none⟩ (.bool x.is)).setCell ⟨gl, o + i * 9 + 1 + t * 3 + 1, none⟩ (.int .i64 x.c)).setCell ⟨gl, o + i * 9 + 1 + t * 3 + 2, none⟩ vp) base gh vS (.slice (some ⟨gl, o, none⟩) n c) S (L.set i (L[i].1.setTk (t : Nat) x, L[i].2)) := by
 rcases ht with rfl | rfl
 ·exact h.setTk0 i hi x vp hp
 ·exact h.setTk1 i hi x vp hp
theorem ixT0 (a b c d e f : Value) (w : World) : (Instr.index 42 (.agg #[a, b, c, d, e, f]) (.int .i64 0)).run Try.prog w = .ok (.agg #[a, b, c]) w := by kernel_rfl
theorem ixT1 (a b c d e f : Value) (w : World) : (Instr.index 42 (.agg #[a, b, c, d, e, f]) (.int .i64 1)).run Try.prog w = .ok (.agg #[d, e, f]) w := by kernel_rfl
theorem EL.baseI {w : World} {b : Nat} (b' : Nat) : ∀ {l : List Int} {xs : List Value}, EL I1 w b l xs → EL I1 w b' l xs
 | [], _, h => h
 | _ :: _, _, ⟨c, xs', e, h1, h2⟩ => ⟨c, xs', e, h1, EL.baseI b' h2⟩
def placesN (S : List Nat) (F : List Nat) : List Int := F.map fun x => ixUN S x 0
theorem placesN_succ (S F : List Nat) (k : Nat) (hk : k < F.length) : (placesN S F).take (k + 1) = (placesN S F).take k ++ [ixUN S F[k] 0] := by
 unfold placesN
 rw [List.take_succ_eq_append_getElem (by simpa using hk), List.getElem_map]
set_option maxRecDepth 100000 in
set_option maxHeartbeats 8000000 in
theorem pub_ok (gs gh gl o n c base i t : Nat) (vS : Value) (S : List (List Nat)) (L : List (Mem × Value)) (hi : i < L.length) (hiS : i < S.length) (hSs : S[i].length ≤ 1000) (ht : t = 0 ∨ t = 1) (ly : Int) (hly0 : 0 ≤ ly) (hly3 : ly < 3) (kd nn rm ow : Int) (sf : Option Addr) (nf cf : Nat) (hnf1 : 1 ≤ nf) (hnf4 : nf ≤ 4) (F : List Nat) (hF : ∀ x ∈ F, x < 4294967296) (sc : Option Addr) (nc cc : Nat) (C : List Chg) (hnc : nc ≤ 100) (hpa : L[i].1.a.p.length ≤ 4) (hpb : L[i].1.b.p.length ≤ 4) (w : World) (hbase : base ≤ w.heap.size) (h : HpB w gs (.cells (stC gh kd (i : Nat) nn rm (t : Nat) ow ly sf nf cf gl (o + i * 9) (.slice sc nc cc)) 73)) (hH : HouseV w base gh vS (.slice (some ⟨gl, o, none⟩) n c) S L) (hq : EQ ECh 89 w base (.slice sc nc cc) nc C) (hsF : SQ EU4 w 0 (.slice sf nf cf) nf F) :
  Calls Try.prog 19 #[.pointer (some ⟨gs, 0, none⟩)] w fun e w' => OrP (!(L[i].1.tk t).is) (RefP 10 w e w') (OrP (!decide (0 ≤ ixIN (placesN S[i] F) (-1) 0)) (RefP 9 w e w') (∃ b : Bool, (nf + L[i].1.a.p.length + L[i].1.b.p.length ≤ 1 → b = true) ∧ OrP b (RefP 1 w e w') (e = .returned (.tuple #[.int .i64 (nf : Nat), .int .i64 0]) ∧ StepP w w' base gs gh gl o n c vS S (L.set i (L[i].1.setTk (t : Nat) ⟨true, ly, placesN S[i] F⟩, L[i].2)) kd (i : Nat) nn rm (t : Nat) ow ly sf nf cf (o + i * 9) 200 (.slice sc nc cc)))) := by
 have ht2 : t < 2 := by omega
 have s5 := (hp_cell h 5).trans (show _ = some (.int .i64 (t : Nat)) from rfl)
 have s7 := (hp_cell h 7).trans (show _ = some (.int .i64 ly) from rfl)
 have s8 := (hp_cell h 8).trans (show _ = some (.slice sf nf cf) from rfl)
 have s9 := (hp_cell h 9).trans (show _ = some (.pointer (some ⟨gl, o + i * 9, none⟩)) from rfl)
 have cT := Lib.hid (fun y : World => (track_any (t : Nat) y).mono fun e w' (h : _ ∧ _) => (⟨by rw [h.1, decide_eq_true (by omega), decide_eq_true (by omega)]; rfl, h.2.symm⟩ : e = .returned (.bool true) ∧ w' = y))
 obtain ⟨_, _, he, hcf1, hcf2⟩ := hsF.len
 cases he
 unfold maxLen at hcf2
 obtain ⟨vp, zt, -, -, -⟩ := hH.tkc i hi t ht
 have d2 : decide (ly < 0) = false := decide_eq_false (by omega)
 have d3 : decide (3 ≤ ly) = false := decide_eq_false (by omega)
 have d4 : decide ((nf : Int) < 1) = false := decide_eq_false (by omega)
 have d5 : decide (4 < (nf : Int)) = false := decide_eq_false (by omega)
 have hS := Lib.hid h
 have hHH := Lib.hid hH
 have hQ := Lib.hid hq
 have hFF := Lib.hid hsF
 have hFb := Lib.hid hF
 generalize htis : (L[i].1.tk (t : Nat)).is = ti at *
 clear h hH hq hsF hF
 replace htis := Lib.hid htis
 replace hly0 := Lib.hid hly0
 replace hly3 := Lib.hid hly3
 replace ht := Lib.hid ht
 replace hSs := Lib.hid hSs
 go_enter Try.func19, Try.ntmps19
 go_wp2_with fail
 refine Calls.mono (cT.out w) ?_
 rintro e w1 ⟨rfl, rfl⟩
 clear cT
 dsimp only
 go_upto_region 4 with (fail)
 have m5 : ∀ y : LaterS [] w1, _ := fun y => y.bw.cell s5
 have m9 : ∀ y : LaterS [] w1, _ := fun y => y.bw.cell s9
 have mt : ∀ y : LaterS [] w1, _ := fun y => y.bw.cell zt
 refine wp_region_gg [] [] [] (by kernel_rfl) ?_
 refine hoist [] [] (a1 := ?_) 0 rfl (by kernel_rfl) (.inl ⟨rfl, rfl⟩) rfl rfl rfl (fun x K hK => ?_) ?_
 rotate_left
 ·go_big_quiet_op
  exact hK
 refine hoist [] [] (a1 := ?_) 1 rfl (by kernel_rfl) (.inl ⟨rfl, rfl⟩) rfl rfl rfl (fun x K hK => ?_) ?_
 rotate_left
 ·go_big_quiet_op
  exact hK
 refine hoist [] [] (a1 := ?_) 2 rfl (by kernel_rfl) (.inl ⟨rfl, rfl⟩) rfl rfl rfl (fun x K hK => ?_) ?_
 rotate_left
 ·go_big_quiet_op
  exact hK
 refine hoist [] [] (a1 := ?_) 3 rfl (by kernel_rfl) (.inl ⟨rfl, rfl⟩) rfl rfl rfl (fun x K hK => ?_) ?_
 rotate_left
 ·go_big_quiet_op
  exact hK
 refine hoist [] [] (a1 := ?_) 4 rfl (by kernel_rfl) (.inl ⟨rfl, rfl⟩) rfl rfl rfl (fun x K hK => ?_) ?_
 rotate_left
 ·go_big_quiet_op
  exact hK
 refine hoist [] [] (a1 := ?_) 5 rfl (by kernel_rfl) (.inl ⟨rfl, rfl⟩) rfl rfl rfl (fun x K hK => ?_) ?_
 rotate_left
 ·go_big_quiet_op
  exact hK
 refine hoist [] [] (a1 := ?_) 6 rfl (by kernel_rfl) (.inl ⟨rfl, rfl⟩) rfl rfl rfl (fun x K hK => ?_) ?_
 rotate_left
 ·go_big_quiet_op
  exact hK
 refine hoist [] [] (a1 := ?_) 7 rfl (by kernel_rfl) (.inl ⟨rfl, rfl⟩) rfl rfl rfl (fun x K hK => ?_) ?_
 rotate_left
 ·go_big_quiet_op
  exact hK
 refine hoist [] [] (a1 := ?_) 8 rfl (by kernel_rfl) (.inl ⟨rfl, rfl⟩) rfl rfl rfl (fun x K hK => ?_) ?_
 rotate_left
 ·go_big_quiet_op
  exact hK
 refine hoist [] [] (a1 := ?_) 9 rfl (by kernel_rfl) (.inl ⟨rfl, rfl⟩) rfl rfl rfl (fun x K hK => ?_) ?_
 rotate_left
 ·go_big_quiet_op
  exact hK
 refine hoist [] [] (a1 := ?_) 10 rfl (by kernel_rfl) (.inl ⟨rfl, rfl⟩) rfl rfl rfl (fun x K hK => ?_) ?_
 rotate_left
 ·go_big_quiet_op
  exact hK
 refine hoist [] [] (a1 := ?_) 11 rfl (by kernel_rfl) (.inl ⟨rfl, rfl⟩) rfl rfl rfl (fun x K hK => ?_) ?_
 rotate_left
 ·go_big_quiet_op
  exact hK
 refine hoist [] [] (a1 := ?_) 12 rfl (by kernel_rfl) (.inl ⟨rfl, rfl⟩) rfl rfl rfl (fun x K hK => ?_) ?_
 rotate_left
 ·go_big_quiet_op
  exact hK
 refine hoist [] [] (a1 := ?_) 13 rfl (by kernel_rfl) (.inl ⟨rfl, rfl⟩) rfl rfl rfl (fun x K hK => ?_) ?_
 rotate_left
 ·go_big_quiet_op
  exact hK
 refine hoist [] [] (a1 := ?_) 14 rfl (by kernel_rfl) (.inl ⟨rfl, rfl⟩) rfl rfl rfl (fun x K hK => ?_) ?_
 rotate_left
 ·go_big_quiet_op
  exact hK
 refine done (by kernel_rfl) (fun xr => ?_)
 have B2 := Lib.hid xr.bw
 replace s8 := xr.bw.cell s8
 replace s9 := xr.bw.cell s9
 clear m5 m9 mt zt s5 s7
 generalize xr.now = w2 at *
 clear xr
 cases ti with
 | true =>
  go_wp2_with fail
  go_ret2
  exact OrP.no ⟨rfl, B2.out⟩
 | false =>
 go_upto_region 8 with (fail)
 clear s8 s9
 have hdl := Lib.hid hFF.out.1
 obtain ⟨gq, oq, rfl, hcell⟩ := u4_cell hFF.out (by omega)
 replace hcell := Lib.hid hcell
 go_loopg [5, 71] nf (fun m' pl ix wx => ∃ (k : Nat) (s1 : Option Addr) (c1 : Nat), m' = nf - k ∧ k ≤ nf ∧ ix = .int .i64 (k : Nat) ∧ pl = .slice s1 k c1 ∧ c1 ≤ 9223372036854775807 ∧ Hid (EQ I1 3 wx w1.heap.size (.slice s1 k c1) k ((placesN S[i] F).take k)) ∧ Hid (BW w1 wx))
 case atStart => exact ⟨0, none, 0, by omega, by omega, rfl, rfl, by omega, EQ.nil _ _ _ _, B2⟩
 case round =>
  clear B2
  obtain ⟨k, s1, c1, rfl, hk, rfl, rfl, hc1, E2, B2⟩ := hrel
  by_cases hkn : k < nf
  ·have d1 : decide ((k : Int) < (nf : Int)) = true := by simp; omega
   have hkF : k < F.length := by rw [hdl.out]; exact hkn
   have zk := B2.out.cell (hcell.out k hkF)
   have hfx : F[k] < 4294967296 := hFb.out _ (List.getElem_mem hkF)
   have hpl := placesN_succ S[i] F k hkF
   have cO := Lib.hid (own_ok gs gh base i F[k] kd nn rm (t : Nat) ow ly (some ⟨gq, oq, none⟩) nf cf gl (o + i * 9) (.slice sc nc cc) vS (.slice (some ⟨gl, o, none⟩) n c) S L hiS hSs.out hfx wr (hS.out.bw B2.out) (hHH.out.bw B2.out))
   generalize F[k] = x at *
   generalize ixUN S[i] x 0 = r at *
   replace hpl := Lib.hid hpl
   replace hfx := Lib.hid hfx
   go_wp2_with fail
   refine Calls.mono cO.out ?_
   rintro e w3 ⟨rfl, hb⟩
   have BA : BW w3 (w3.alloc (.cells #[.int .i64 r] 3)) := (BW.refl w3).alloc
   have L4 := Lib.hid (Sls.newI w3 r)
   have E4 := Lib.hid (E2.out.bw (hb.trans BA))
   have B4 := Lib.hid ((B2.out.trans hb).trans BA)
   have hz4 := Lib.hid B4.out.size
   clear cO hb BA E2 B2 zk
   dsimp only
   go_upto_region 11 with (at_builtin; go_must (refine wpList_apEQ slIn rfl _ _ rfl w1.heap.size (.slice s1 k c1) k _ rfl E4.out _ rfl 1 [r] [.int .i64 r] L4.out (EL.single rfl) rfl (by omega) hz4.out (fun _ _ => trivial) ?_; intro s5 c5 w5 hc5 hm5 E5 T5 B5 G5; unfold maxLen at hm5; replace E5 := Lib.hid E5; replace T5 := Lib.hid T5; clear B5 G5))
   have B6 := Lib.hid (BW.stP B4.out T5.out (fun j hj => E4.out.ge' j (by simpa using hj)))
   clear L4 E4 B4 T5 hz4
   try simp only [Act.put, List.setIfInBounds_toArray, List.set_cons_succ, List.set_cons_zero]
   go_wp2_with fail
   go_roundg (nf - (k + 1))
   case measure => omega
   case rel => exact ⟨k + 1, s5, c5, rfl, by omega, by first | rfl | (push_cast; rfl), rfl, by omega, by rw [hpl.out]; exact E5, B6⟩
  ·obtain rfl : k = nf := by omega
   have d1 : decide ((k : Int) < (k : Int)) = false := by simp
   have hPl : (placesN S[i] F).length = k := by unfold placesN; rw [List.length_map]; exact hdl.out
   have E3 := E2.out
   rw [List.take_of_length_le (by omega)] at E3
   have hset := Lib.hid (fun (y : World) (hy : BW w1 y) (v : Value) (hv : EQ I1 3 y base v (placesN S[i] F).length (placesN S[i] F)) => (hHH.out.bw hy).setTkt i hi t ht.out ⟨true, ly, placesN S[i] F⟩ v hv)
   generalize hPe : placesN S[i] F = P at *
   have cC := Lib.hid (hasI w1.heap.size k _ P (-1) wr E3.sq (by omega))
   have cK := Lib.hid (clint w1.heap.size k c1 s1 P wr E3.sq (by omega))
   have E4 := Lib.hid E3
   clear E2 E3
   generalize hhb : decide (0 ≤ ixIN P (-1) 0) = hb at *
   replace hPl := Lib.hid hPl
   replace hPe := Lib.hid hPe
   replace hhb := Lib.hid hhb
   go_wp2_with fail
   refine Calls.mono cC.out ?_
   rintro e w3 ⟨rfl, rfl⟩
   clear cC
   have BK := B2.out.size
   cases hb with
   | true =>
    clear hset cK BK
    dsimp only
    go_wp2_with fail
    go_ret2
    rw [hPe.out, hhb.out]
    exact OrP.yes (OrP.no ⟨rfl, B2.out⟩)
   | false =>
   dsimp only
   go_wp2_with fail
   refine Calls.mono cK.out ?_
   rintro e w4 ⟨s4, c4, rfl, K4, hb4⟩
   have hc4 : c4 ≤ 9223372036854775807 := by
    obtain ⟨_, _, e, -, h2⟩ := K4.len
    cases e
    unfold maxLen at h2
    omega
   have K4' := Lib.hid (K4.up (Nat.le_refl wr.heap.size))
   have B4 := Lib.hid (B2.out.trans hb4)
   have E4b := Lib.hid (E4.out.bw hb4)
   have hz4 := Lib.hid B4.out.size
   have hwr := Lib.hid hb4.size
   have hown1 : Hid (∀ g, (Value.slice s1 k c1).ownBlock = some g → g < wr.heap.size) := Lib.hid (fun g hg => E4.out.lt' g hg)
   clear cK K4 hb4 E4 B2
   have S4 := hS.out.bw B4.out
   have s9 := (hp_cell S4 9).trans (show _ = some (.pointer (some ⟨gl, o + i * 9, none⟩)) from rfl)
   obtain ⟨va, vb, hm, hva, hvb⟩ := hHH.out.mem i hi
   have z1 := B4.out.cell <| (hm 1 (by decide)).trans (show _ = some (.bool L[i].1.a.is) from rfl)
   have z2 := B4.out.cell <| (hm 2 (by decide)).trans (show _ = some (.int .i64 L[i].1.a.c) from rfl)
   have z3 := B4.out.cell <| (hm 3 (by decide)).trans (show _ = some va from rfl)
   have z4 := B4.out.cell <| (hm 4 (by decide)).trans (show _ = some (.bool L[i].1.b.is) from rfl)
   have z5 := B4.out.cell <| (hm 5 (by decide)).trans (show _ = some (.int .i64 L[i].1.b.c) from rfl)
   have z6 := B4.out.cell <| (hm 6 (by decide)).trans (show _ = some vb from rfl)
   obtain ⟨sa, ca, rfl, -, -⟩ := hva.len
   obtain ⟨sb, cb, rfl, -, -⟩ := hvb.len
   generalize L[i].1.a.is = ais at *
   generalize L[i].1.a.c = ac at *
   generalize L[i].1.b.is = bis at *
   generalize L[i].1.b.c = bc at *
   generalize hpae : L[i].1.a.p = pa at *
   generalize hpbe : L[i].1.b.p = pb at *
   generalize hna : pa.length = na at *
   generalize hnb : pb.length = nb at *
   replace hva := Lib.hid hva
   replace hvb := Lib.hid hvb
   clear hm S4
   replace hpae := Lib.hid hpae
   replace hpbe := Lib.hid hpbe
   replace hna := Lib.hid hna
   replace hnb := Lib.hid hnb
   dsimp only
   go_upto_region 16 with (fail)
   generalize wr.heap.size = bo at *
   clear s9 z1 z2 z3 z4 z5 z6
   replace BK := Lib.hid BK
   go_loopg [8, 93] 2 (fun m' tk ix wx => ∃ (j nl : Nat) (s2 : Option Addr) (c2 : Nat) (l : List Int), m' = 2 - j ∧ j ≤ 2 ∧ ix = .int .i64 (j : Nat) ∧ tk = .slice s2 nl c2 ∧ c2 ≤ 9223372036854775807 ∧ nl = k + (if 1 ≤ j then na else 0) + (if 2 ≤ j then nb else 0) ∧ Hid (bo ≤ wx.heap.size) ∧ Hid (EQ I1 3 wx bo (.slice s2 nl c2) nl l) ∧ Hid (EQ I1 3 wx w1.heap.size (.slice s1 k c1) k P) ∧ Hid (BW w1 wx))
   case atStart => exact ⟨0, k, s4, c4, P, by omega, by omega, rfl, rfl, hc4, by simp, hwr, K4', E4b, B4⟩
   case round =>
    clear K4' E4b B4 hwr hz4
    obtain ⟨j, nl, s2, c2, l, rfl, hj, rfl, rfl, hc2, hnl, hwr, K5, E5, B5⟩ := hrel
    have hnaz : na ≤ 4 := hpa
    have hnbz : nb ≤ 4 := hpb
    obtain rfl | rfl | rfl : j = 0 ∨ j = 1 ∨ j = 2 := by omega
    ·have hnl2 : nl = k := by simpa using hnl
     subst hnl2
     clear hnl
     have BA : BW wr (wr.alloc (.cells #[.bool ais, .int .i64 ac, .slice sa na ca] 41)) := (BW.refl wr).alloc
     have K6 := Lib.hid (K5.out.bw BA)
     have E6 := Lib.hid (E5.out.bw BA)
     have B6 := Lib.hid (B5.out.trans BA)
     have hwr6 := Lib.hid (Nat.le_trans hwr.out BA.size)
     obtain ⟨hsl, ys, hSl, hEl⟩ := (hva.out.bw B6.out).sq
     replace hSl := Lib.hid hSl
     have hEl2 := EL.baseI bo hEl
     replace hEl := Lib.hid hEl2
     clear hEl2
     clear BA K5 E5 B5 hwr
     have hix0 := ixT0
     have hix1 := ixT1
     go_upto_region 19 with (at_builtin; go_must (refine wpList_apEQ slIn rfl _ _ rfl bo (.slice s2 nl c2) nl _ rfl K6.out _ rfl na pa ys hSl.out hEl.out hsl (by omega) hwr6.out (fun _ _ => trivial) ?_; intro s7 c7 w7 hc7 hm7 K7 T7 B7 G7; unfold maxLen at hm7; replace K7 := Lib.hid K7; replace T7 := Lib.hid T7; clear B7 G7))
     have E7 := Lib.hid (E6.out.still T7.out (fun _ _ => trivial) (fun g hg hm => by
      have h1 := K6.out.ge' g (by simpa using hm)
      have h2 := hown1.out g hg
      omega))
     have B8 := Lib.hid (BW.stP B6.out T7.out (fun g hg => Nat.le_trans BK.out (K6.out.ge' g (by simpa using hg))))
     have hwr7 := Lib.hid (Nat.le_trans hwr6.out T7.out.size)
     clear hSl hEl K6 E6 B6 T7 hwr6
     try simp only [Act.put, List.setIfInBounds_toArray, List.set_cons_succ, List.set_cons_zero]
     go_wp2_with fail
     go_roundg 1
     case measure => omega
     case rel => exact ⟨1, nl + na, s7, c7, l ++ pa, rfl, by omega, rfl, rfl, by omega, by simp, hwr7, K7, E7, B8⟩
    ·have hnl2 : nl = k + na := by simpa using hnl
     clear hnl
     have hnlz : nl ≤ 8 := by omega
     replace hnl2 := Lib.hid hnl2
     have BA : BW wr (wr.alloc (.cells #[.bool bis, .int .i64 bc, .slice sb nb cb] 41)) := (BW.refl wr).alloc
     have K6 := Lib.hid (K5.out.bw BA)
     have E6 := Lib.hid (E5.out.bw BA)
     have B6 := Lib.hid (B5.out.trans BA)
     have hwr6 := Lib.hid (Nat.le_trans hwr.out BA.size)
     obtain ⟨hsl, ys, hSl, hEl⟩ := (hvb.out.bw B6.out).sq
     replace hSl := Lib.hid hSl
     have hEl2 := EL.baseI bo hEl
     replace hEl := Lib.hid hEl2
     clear hEl2
     clear BA K5 E5 B5 hwr
     have hix0 := ixT0
     have hix1 := ixT1
     go_upto_region 19 with (at_builtin; go_must (refine wpList_apEQ slIn rfl _ _ rfl bo (.slice s2 nl c2) nl _ rfl K6.out _ rfl nb pb ys hSl.out hEl.out hsl (by omega) hwr6.out (fun _ _ => trivial) ?_; intro s7 c7 w7 hc7 hm7 K7 T7 B7 G7; unfold maxLen at hm7; replace K7 := Lib.hid K7; replace T7 := Lib.hid T7; clear B7 G7))
     have E7 := Lib.hid (E6.out.still T7.out (fun _ _ => trivial) (fun g hg hm => by
      have h1 := K6.out.ge' g (by simpa using hm)
      have h2 := hown1.out g hg
      omega))
     have B8 := Lib.hid (BW.stP B6.out T7.out (fun g hg => Nat.le_trans BK.out (K6.out.ge' g (by simpa using hg))))
     have hwr7 := Lib.hid (Nat.le_trans hwr6.out T7.out.size)
     clear hSl hEl K6 E6 B6 T7 hwr6
     try simp only [Act.put, List.setIfInBounds_toArray, List.set_cons_succ, List.set_cons_zero]
     go_wp2_with fail
     go_roundg 0
     case measure => omega
     case rel => exact ⟨2, nl + nb, s7, c7, l ++ pb, rfl, by omega, rfl, rfl, by omega, by simp [hnl2.out], hwr7, K7, E7, B8⟩
    ·have hnl2 : nl = k + na + nb := by simpa using hnl
     clear hnl
     have hll := K5.out.1
     obtain ⟨blk, off, e2, -⟩ := i1_form K5.out (by omega)
     subst e2
     have hlt := K5.out.lt' blk rfl
     have hbb := Lib.hid (K5.out.ge' blk rfl)
     have cS := Lib.hid (sort_ok blk off c2 l wr (K5.out.holds (by omega)) hlt (by omega))
     obtain ⟨_, _, he, hnc2, -⟩ := K5.out.len
     cases he
     rw [hll] at cS
     have hnlz : nl ≤ 12 := by omega
     clear hlt K5
     replace hll := Lib.hid hll
     replace hnl2 := Lib.hid hnl2
     go_wp2_with fail
     refine Calls.mono cS.out ?_
     rintro e w5 ⟨rfl, l', hl', hl1, hH5, T5⟩
     have E6 := Lib.hid (E5.out.still T5 (fun _ _ => trivial) (fun g hg hm => by
      obtain rfl := List.mem_singleton.1 hm
      have h1 := hbb.out
      have h2 := hown1.out g hg
      omega))
     have B6 := Lib.hid (BW.stP B5.out T5 (fun g hg => by
      obtain rfl := List.mem_singleton.1 hg
      exact Nat.le_trans BK.out hbb.out))
     have cP := Lib.hid (compact_ok blk off c2 l' w5 hH5 (by omega) (by omega))
     rw [hl'] at cP
     clear cS T5 hH5 E5 B5 hl1 hl'
     dsimp only
     go_wp2_with fail
     refine Calls.mono cP.out ?_
     rintro e w6 ⟨m, rfl, hm1, hm2, T6⟩
     have E7 := Lib.hid (E6.out.still T6 (fun _ _ => trivial) (fun g hg hm => by
      obtain rfl := List.mem_singleton.1 hm
      have h1 := hbb.out
      have h2 := hown1.out g hg
      omega))
     have B7 := Lib.hid (BW.stP B6.out T6 (fun g hg => by
      obtain rfl := List.mem_singleton.1 hg
      exact Nat.le_trans BK.out hbb.out))
     clear cP T6 E6 B6 hwr hown1 hbb
     have hm2' := Lib.hid hm2
     clear hm2
     dsimp only
     go_upto_region 24 with (fail)
     ·rename_i hlt
      go_ret2
      rw [hPe.out, hhb.out, hpae.out, hpbe.out, hna.out, hnb.out]
      refine OrP.yes (OrP.yes ⟨false, fun h => ?_, OrP.no ⟨rfl, B7.out⟩⟩)
      have h1 := hm2'.out (by have := hnl2.out; have := hll.out; omega)
      have := hll.out
      omega
     have hfz := hS.out.bw B7.out
     have s5 := (hp_cell hfz 5).trans (show _ = some (.int .i64 (t : Nat)) from rfl)
     have s7 := (hp_cell hfz 7).trans (show _ = some (.int .i64 ly) from rfl)
     have s9 := (hp_cell hfz 9).trans (show _ = some (.pointer (some ⟨gl, o + i * 9, none⟩)) from rfl)
     have m5 : ∀ y : LaterS [] w6, _ := fun y => y.bw.cell s5
     have m7 : ∀ y : LaterS [] w6, _ := fun y => y.bw.cell s7
     have m9 : ∀ y : LaterS [] w6, _ := fun y => y.bw.cell s9
     clear s5 s7 s9 hfz
     try simp only [Act.put, List.setIfInBounds_toArray, List.set_cons_succ, List.set_cons_zero]
     refine wp_region_gg [] [] [18] (by kernel_rfl) ?_
     refine hoist [] [] (a1 := ?_) 0 rfl (by kernel_rfl) (.inl ⟨rfl, rfl⟩) rfl rfl rfl (fun x K hK => ?_) ?_
     rotate_left
     ·go_big_quiet_op
      exact hK
     refine hoist [] [] (a1 := ?_) 1 rfl (by kernel_rfl) (.inl ⟨rfl, rfl⟩) rfl rfl rfl (fun x K hK => ?_) ?_
     rotate_left
     ·go_big_quiet_op
      exact hK
     refine hoist [] [] (a1 := ?_) 2 rfl (by kernel_rfl) (.inl ⟨rfl, rfl⟩) rfl rfl rfl (fun x K hK => ?_) ?_
     rotate_left
     ·go_big_quiet_op
      exact hK
     refine hoist [] [] (a1 := ?_) 3 rfl (by kernel_rfl) (.inl ⟨rfl, rfl⟩) rfl rfl rfl (fun x K hK => ?_) ?_
     rotate_left
     ·go_big_quiet_op
      exact hK
     refine hoist [] [] (a1 := ?_) 4 rfl (by kernel_rfl) (.inl ⟨rfl, rfl⟩) rfl rfl rfl (fun x K hK => ?_) ?_
     rotate_left
     ·go_big_quiet_op
      exact hK
     refine hoist [] [] (a1 := ?_) 5 rfl (by kernel_rfl) (.inl ⟨rfl, rfl⟩) rfl rfl rfl (fun x K hK => ?_) ?_
     rotate_left
     ·go_big_quiet_op
      exact hK
     refine hoist [] [] (a1 := ?_) 6 rfl (by kernel_rfl) (.inl ⟨rfl, rfl⟩) rfl rfl rfl (fun x K hK => ?_) ?_
     rotate_left
     ·go_big_quiet_op
      exact hK
     refine hoist [] [] (a1 := ?_) 7 rfl (by kernel_rfl) (.inl ⟨rfl, rfl⟩) rfl rfl rfl (fun x K hK => ?_) ?_
     rotate_left
     ·go_big_quiet_op
      exact hK
     refine hoist [] [] (a1 := ?_) 8 rfl (by kernel_rfl) (.inl ⟨rfl, rfl⟩) rfl rfl rfl (fun x K hK => ?_) ?_
     rotate_left
     ·go_big_quiet_op
      exact hK
     refine hoist [] [] (a1 := ?_) 9 rfl (by kernel_rfl) (.inl ⟨rfl, rfl⟩) rfl rfl rfl (fun x K hK => ?_) ?_
     rotate_left
     ·go_big_quiet_op
      exact hK
     refine hoist [] [] (a1 := ?_) 10 rfl (by kernel_rfl) (.inl ⟨rfl, rfl⟩) rfl rfl rfl (fun x K hK => ?_) ?_
     rotate_left
     ·go_big_quiet_op
      exact hK
     refine hoist [] [] (a1 := ?_) 11 rfl (by kernel_rfl) (.inl ⟨rfl, rfl⟩) rfl rfl rfl (fun x K hK => ?_) ?_
     rotate_left
     ·go_big_quiet_op
      exact hK
     refine hoist [] [] (a1 := ?_) 12 rfl (by kernel_rfl) (.inl ⟨rfl, rfl⟩) rfl rfl rfl (fun x K hK => ?_) ?_
     rotate_left
     ·go_big_quiet_op
      exact hK
     refine hoist [] [] (a1 := ?_) 13 rfl (by kernel_rfl) (.inl ⟨rfl, rfl⟩) rfl rfl rfl (fun x K hK => ?_) ?_
     rotate_left
     ·go_big_quiet_op
      exact hK
     refine hoist [] [] (a1 := ?_) 14 rfl (by kernel_rfl) (.inl ⟨rfl, rfl⟩) rfl rfl rfl (fun x K hK => ?_) ?_
     rotate_left
     ·go_big_quiet_op
      exact hK
     refine hoist [] [] (a1 := ?_) 15 rfl (by kernel_rfl) (.inl ⟨rfl, rfl⟩) rfl rfl rfl (fun x K hK => ?_) ?_
     rotate_left
     ·go_big_quiet_op
      exact hK
     refine hoist [] [] (a1 := ?_) 16 rfl (by kernel_rfl) (.inl ⟨rfl, rfl⟩) rfl rfl rfl (fun x K hK => ?_) ?_
     rotate_left
     ·go_big_quiet_op
      exact hK
     refine hoist [] [] (a1 := ?_) 17 rfl (by kernel_rfl) (.inl ⟨rfl, rfl⟩) rfl rfl rfl (fun x K hK => ?_) ?_
     rotate_left
     ·go_big_quiet_op
      exact hK
     refine tail 18 rfl (by kernel_rfl) rfl (fun xr => ?_)
     simp only [List.drop_succ_cons, List.drop_zero]
     have B8 := Lib.hid (B7.out.trans xr.bw)
     have E8 := Lib.hid (E7.out.bw xr.bw)
     clear B7 E7 m5 m7 m9
     generalize xr.now = w8 at *
     clear xr
     have H8 := hHH.out.bw B8.out
     obtain ⟨cr, hcr⟩ := H8.row
     obtain ⟨vq, z1, z2, z3, -⟩ := H8.tkc i hi t ht.out
     have y1 : w8.frozen? ⟨gl, o + i * 9 + 1 + t * 3, none⟩ = false := hp_frz hcr _
     have y2 : w8.frozen? ⟨gl, o + i * 9 + 1 + t * 3 + 1, none⟩ = false := hp_frz hcr _
     have y3 : w8.frozen? ⟨gl, o + i * 9 + 1 + t * 3 + 2, none⟩ = false := hp_frz hcr _
     have H9 := Lib.hid (hset.out w8 B8.out (.slice s1 k c1) (by rw [hPl.out]; exact E8.out.up hbase))
     have T9 : Still [gl] w8 (((w8.setCell ⟨gl, o + i * 9 + 1 + t * 3, none⟩ (.bool true)).setCell ⟨gl, o + i * 9 + 1 + t * 3 + 1, none⟩ (.int .i64 ly)).setCell ⟨gl, o + i * 9 + 1 + t * 3 + 2, none⟩ (.slice s1 k c1)) := ((still_sc w8 gl _ _).trans (still_sc _ gl _ _)).trans (still_sc _ gl _ _)
     have S9 := Lib.hid ((hS.out.bw B8.out).st T9 (fun hm => by
      obtain rfl : gs = gl := by simpa using hm
      have := (hS.out.bw B8.out).symm.trans hcr
      cases this))
     have Q9 := Lib.hid ((hQ.out.bw B8.out).still T9 (fun _ _ => trivial) (fun g hg hm => by
      obtain rfl : g = gl := by simpa using hm
      exact (hQ.out.bw B8.out).ne hcr (by decide) _ hg rfl))
     have T10 := Lib.hid ((B8.out.still (gs :: gl :: (Value.slice sc nc cc).ownBlock.toList)).trans (T9.weaken (fun x hx => by
      obtain rfl : x = gl := by simpa using hx
      simp)))
     clear T9 H8 hcr hset
     go_wp2_with fail
     go_ret2
     rw [hPe.out, hhb.out, hpae.out, hpbe.out, hna.out, hnb.out]
     exact OrP.yes (OrP.yes ⟨true, fun _ => rfl, OrP.yes ⟨rfl, ⟨sc, nc, cc, C, by omega, S9.out, Q9.out, fun j hj => .inl hj⟩, H9.out, T10.out⟩⟩)
end Go.Proofs.Ytebeifkgjhgmeaa
