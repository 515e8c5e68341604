/- The reference's Frames (printed by wip/gen/genOfV.py). No condition but the sizes'. -/
import Derived.Test.YtafhnlnhflehhaaDoorOfU
namespace Go.Proofs.YtafhnlnhflehhaaDoor
open Go.RowKit
set_option maxRecDepth 100000 in
set_option maxHeartbeats 8000000 in
theorem rframes_any (cs : Array Value) (d : OffD) (sW : Option Addr) (cW : Nat) (sH : Option Addr) (cH : Nat) (rm : Int) (nonce : Nat) (w : World) (h : OffV w cs d sW cW sH cH) (hW : d.W.length ≤ 40) (hnH : d.H.length ≤ 40) :
  Calls Tryd.prog 9 #[.agg cs, .int .i64 rm, .int .u64 (nonce : Nat)] w fun e w' => FrRes w w' w.heap.size d rm nonce (fun x => decide (0 ≤ x.l)) e ∧ BW w w' := by
 obtain ⟨rfl, hw, hh⟩ := h
 obtain ⟨seat, W, H⟩ := d
 dsimp only at hw hh hW hnH ⊢
 obtain ⟨_, _, he, hWc, hWm⟩ := hw.len
 cases he
 obtain ⟨_, _, he, hHc, hHm⟩ := hh.len
 cases he
 unfold maxLen at hWm hHm
 obtain ⟨nW, hnW⟩ : ∃ n, W.length = n := ⟨_, rfl⟩
 obtain ⟨nH, hnHe⟩ : ∃ n, H.length = n := ⟨_, rfl⟩
 unfold offC
 dsimp only
 rw [hnW] at hw hWc hW ⊢
 rw [hnHe] at hh hHc hnH ⊢
 have B := (BW.refl w).alloc (o := .cells #[.int .i64 seat, .slice sW nW cW, .slice sH nH cH] 25)
 have X := HpB.new w (.cells #[.int .i64 seat, .slice sW nW cW, .slice sH nH cH] 25)
 have hH := Lib.hid hh
 have hWQ := Lib.hid hw
 obtain ⟨base, hbase⟩ : ∃ b, w.heap.size = b := ⟨_, rfl⟩
 have hb0 := Lib.hid hbase
 rw [hbase]
 clear hbase hh hw
 replace hnW := Lib.hid hnW
 replace hnHe := Lib.hid hnHe
 replace B := Lib.hid B
 replace X := Lib.hid X
 go_enter Tryd.func9, Tryd.ntmps9
 go_upto_region 1 with (fail)
 generalize w.alloc _ = w2 at *
 generalize hgw : w.heap.size = g at *
 have hb1 : Hid (w.heap.size = base) := Lib.hid (hgw.trans hb0.out)
 clear hb0 hgw
 have q0 := (hp_cell X.out 0).trans (show _ = some (.int .i64 seat) from rfl)
 have hz : Hid (base ≤ w2.heap.size) := Lib.hid (by rw [← hb1.out]; exact B.out.size)
 have Q := Lib.hid (EQ.new1 (E := EFm w) w2 43 base (joinF seat rm) (frC 1 seat 0 rm 0 0 (-1) (.slice none 0 0)).toList ⟨none, 0, 0, rfl, SrcR.nil w _ base⟩ hz.out)
 have hb := (BW.refl w2).alloc (o := .cells (frC 1 seat 0 rm 0 0 (-1) (.slice none 0 0)).toList.toArray 43)
 unfold frC at Q hb
 replace B := Lib.hid (B.out.trans hb)
 replace X := Lib.hid (X.out.bw hb)
 clear hb hz
 go_upto_region 2 with (fail)
 clear q0
 generalize w2.alloc _ = w3 at *
 generalize w2.heap.size = g3 at *
 have Q1 : Hid (EQ (EFm w) 43 w3 base (.slice (some ⟨g3, 0, none⟩) 1 1) 1 (pubL seat rm (W.take 0))) := Lib.hid Q.out
 clear Q
 go_upto_region 3 with (fail)
 go_loopg [7, 8] nW (fun m' v7 v24 wx => ∃ (k n cp : Nat) (s : Option Addr), m' = nW - k ∧ k ≤ nW ∧ v24 = .int .i64 (k : Nat) ∧ v7 = .slice s n cp ∧ Hid (n = k + 1) ∧ n ≤ 50 ∧ Hid (EQ (EFm w) 43 wx base (.slice s n cp) n (pubL seat rm (W.take k))) ∧ Hid (HpB wx g (.cells #[.int .i64 seat, .slice sW nW cW, .slice sH nH cH] 25)) ∧ Hid (BW w wx))
 case atStart => exact ⟨0, 1, 1, _, by omega, by omega, rfl, rfl, Lib.hid rfl, by omega, Q1, X, B⟩
 case round =>
  clear Q1 X B
  obtain ⟨k, n, cp, s, rfl, hk, rfl, rfl, hnk, hn50, Q, X, B⟩ := hrel
  have q1 := (hp_cell X.out 1).trans (show _ = some (.slice sW nW cW) from rfl)
  by_cases hkn : k < nW
  ·have dk : decide ((k : Int) < (nW : Int)) = true := by simp; omega
   have hkL : k < W.length := by rw [hnW.out]; exact hkn
   obtain ⟨gw, ow, rfl, -, hc⟩ := wi_form hWQ.out (by omega)
   obtain ⟨sk, mk, ck, y0, y1, y2, hkq⟩ := hc k hkL
   rw [← wi_get hkL] at y0 y1 hkq
   replace hkq := Lib.hid hkq
   replace y0 := B.out.cell y0
   replace y1 := B.out.cell y1
   replace y2 := B.out.cell y2
   clear hc
   have hpl : Hid (pubL seat rm (W.take (k + 1)) = pubL seat rm (W.take k) ++ [pubF seat (wi W k)]) := Lib.hid (pubL_take seat rm W hkL)
   have hpu : Hid (pubF seat (wi W k) = ⟨3, seat, 0, 0, (wi W k).t, 0, (wi W k).c, (wi W k).s⟩) := Lib.hid rfl
   generalize wi W k = wk at *
   obtain ⟨t, c, ss⟩ := wk
   dsimp only at *
   replace hkL := Lib.hid hkL
   go_upto_region 5 with (fail)
   have q0 := (hp_cell X.out 0).trans (show _ = some (.int .i64 seat) from rfl)
   have m0 : ∀ y : LaterS [] wr, _ := fun y => y.bw.cell q0
   have m1 : ∀ y : LaterS [] wr, _ := fun y => y.bw.cell q1
   have n0 : ∀ y : LaterS [] wr, _ := fun y => y.bw.cell y0
   have n1 : ∀ y : LaterS [] wr, _ := fun y => y.bw.cell y1
   have n2 : ∀ y : LaterS [] wr, _ := fun y => y.bw.cell y2
   have cP := fun y : World => pub_any seat t c sk mk ck y
   unfold wiC frC at cP
   replace cP := Lib.hid cP
   obtain ⟨_, _, he, hncp, hcpm⟩ := Q.out.len
   cases he
   unfold maxLen at hcpm
   clear q0 q1 y0 y1 y2
   refine wp_region_gg ((Value.slice s n cp).ownBlock.toList) [10] [11] (by kernel_rfl) ?_
   refine hoist [] [10] (a1 := ?_) 0 rfl (by kernel_rfl) (.inl ⟨rfl, rfl⟩) rfl rfl rfl (fun x K hK => ?_) ?_
   rotate_left
   ·go_big_quiet_op
    exact hK
   refine hoist [] [10] (a1 := ?_) 1 rfl (by kernel_rfl) (.inl ⟨rfl, rfl⟩) rfl rfl rfl (fun x K hK => ?_) ?_
   rotate_left
   ·go_big_quiet_op
    exact hK
   refine hoist [] [10] (a1 := ?_) 2 rfl (by kernel_rfl) (.inl ⟨rfl, rfl⟩) rfl rfl rfl (fun x K hK => ?_) ?_
   rotate_left
   ·go_big_quiet_op
    exact hK
   refine hoist [] [10] (a1 := ?_) 3 rfl (by kernel_rfl) (.inl ⟨rfl, rfl⟩) rfl rfl rfl (fun x K hK => ?_) ?_
   rotate_left
   ·go_big_quiet_op
    exact hK
   refine hoist [] [10] (a1 := ?_) 4 rfl (by kernel_rfl) (.inl ⟨rfl, rfl⟩) rfl rfl rfl (fun x K hK => ?_) ?_
   rotate_left
   ·go_big_quiet_op
    exact hK
   refine hoist [] [10] (a1 := ?_) 5 rfl (by kernel_rfl) (.inl ⟨rfl, rfl⟩) rfl rfl rfl (fun x K hK => ?_) ?_
   rotate_left
   ·go_big_quiet_op
    exact hK
   refine hoist [] [10] (a1 := ?_) 6 rfl (by kernel_rfl) (.inl ⟨rfl, rfl⟩) rfl rfl rfl (fun x K hK => ?_) ?_
   rotate_left
   ·go_big_quiet_op
    exact hK
   refine hoist [] [10] (a1 := ?_) 7 rfl (by kernel_rfl) (.inl ⟨rfl, rfl⟩) rfl rfl rfl (fun x K hK => ?_) ?_
   rotate_left
   ·go_big_quiet_op
    exact hK
   refine hoist_call [] [10] (a1 := ?_) 8 rfl (by kernel_rfl) (.inl ⟨rfl, rfl⟩) rfl rfl rfl (fun x K hK => ?_) ?_
   rotate_left
   ·go_big_quiet_op
    apply Exists.intro
    refine ⟨fun y => ?_, ?_⟩
    ·exact Calls.laterS_of (cP.out y.now)
    ·exact hK
   refine effect 9 rfl (by kernel_rfl) (by kernel_rfl) rfl (fun x9 K hK => ?_)
   go_simp
   refine hK _ _ (Still.of_below ((Below.refl _ _).alloc (Nat.le_refl _) _)) ?_
   clear hK K m0 m1 n0 n1 n2
   have L := Lib.hid (Sls.new1 (E := EFm w) x9.now 43 (frC 3 seat 0 0 t 0 c (.slice sk mk ck)).toList rfl)
   have hb := x9.bw.alloc (o := .cells (frC 3 seat 0 0 t 0 c (.slice sk mk ck)).toList.toArray 43)
   have hR : Hid ((EFm w).R w base ⟨3, seat, 0, 0, t, 0, c, ss⟩ (frC 3 seat 0 0 t 0 c (.slice sk mk ck)).toList) := Lib.hid ⟨sk, mk, ck, rfl, .inl hkq.out⟩
   replace B := Lib.hid (B.out.trans hb)
   replace Q := Lib.hid (Q.out.bw hb)
   replace X := Lib.hid (X.out.bw hb)
   clear hb
   unfold frC at L B Q X hR
   generalize x9.now.alloc _ = w9 at *
   generalize x9.now.heap.size = g9 at *
   try simp only [Act.put, List.setIfInBounds_toArray, List.set_cons_succ, List.set_cons_zero]
   refine effect 10 rfl (by kernel_rfl) (by kernel_rfl) rfl (fun x10 K hK => ?_)
   have B9 := Lib.hid (B.out.trans x10.bw)
   have Q9 := Lib.hid (Q.out.bw x10.bw)
   have X9 := Lib.hid (X.out.bw x10.bw)
   refine wp_apEQ slFr _ _ rfl base (.slice s n cp) n _ rfl Q9.out _ rfl 1 [⟨3, seat, 0, 0, t, 0, c, ss⟩] _ (L.out.bw x10.bw) (EL.single ((EFm w).bw hR.out B9.out)) rfl (by omega) (by rw [← hb1.out]; exact B9.out.size) (Q9.out.noU (by decide)) ?_
   intro s7 c7 w7 hc7 hm7 E7 T7 B7 G7
   unfold maxLen at hm7
   refine hK _ _ T7 ?_
   clear hK K
   have X7 := Lib.hid (X9.out.st T7 (fun hm => Q9.out.ne X9.out (by decide) _ (by simpa using hm) rfl))
   have BB := Lib.hid (B9.out.step B7 (Nat.le_of_eq hb1.out))
   have E8 : Hid (EQ (EFm w) 43 w7 base (.slice s7 (n + 1) c7) (n + 1) (pubL seat rm (W.take (k + 1)))) := Lib.hid (by rw [hpl.out, hpu.out]; exact E7)
   clear T7 X Q E7 B7 G7 hpl hpu X9 Q9 B9 L hR B
   try simp only [Act.put, List.setIfInBounds_toArray, List.set_cons_succ, List.set_cons_zero]
   refine tail 11 rfl (by kernel_rfl) rfl (fun xr => ?_)
   simp only [List.drop_succ_cons, List.drop_zero]
   have X8 := Lib.hid (X7.out.bw xr.bw)
   have B8 := Lib.hid (BB.out.trans xr.bw)
   have E9 := Lib.hid (E8.out.bw xr.bw)
   clear X7 BB E8
   generalize xr.now = w11 at *
   clear xr
   go_wp2_with fail
   go_roundg (nW - (k + 1))
   case measure => omega
   case rel => exact ⟨k + 1, n + 1, c7, s7, rfl, by omega, by first | rfl | (push_cast; rfl), rfl, Lib.hid (by rw [hnk.out]), by have := hnk.out; omega, E9, X8, B8⟩
  ·obtain rfl : k = nW := by omega
   have dk : decide ((k : Int) < (k : Int)) = false := by simp
   have hall : W.take k = W := by rw [← hnW.out, List.take_length]
   rw [hall] at Q
   clear hall
   have Q2 : Hid (EQ (EFm w) 43 wr base (.slice s n cp) n (pubL seat rm W ++ heL seat (fun x => decide (0 ≤ x.l)) (H.take 0))) := Lib.hid (by
    rw [show heL seat (fun x => decide (0 ≤ x.l)) (H.take 0) = [] from rfl, List.append_nil]; exact Q.out)
   clear Q
   go_upto_region 7 with (fail)
   clear q1 dk
   go_loopg [7, 9] nH (fun m' v7 v39 wx => ∃ (j n cp : Nat) (s : Option Addr), m' = nH - j ∧ j ≤ nH ∧ v39 = .int .i64 (j : Nat) ∧ v7 = .slice s n cp ∧ n ≤ 50 + 2 * j ∧ 0 < n ∧ Hid (EQ (EFm w) 43 wx base (.slice s n cp) n (pubL seat rm W ++ heL seat (fun x => decide (0 ≤ x.l)) (H.take j))) ∧ Hid (HpB wx g (.cells #[.int .i64 seat, .slice sW k cW, .slice sH nH cH] 25)) ∧ Hid (BW w wx))
   case atStart => exact ⟨0, n, cp, s, by omega, by omega, rfl, rfl, by omega, by have := hnk.out; omega, Q2, X, B⟩
   case round =>
    clear Q2 X B hnk hn50
    obtain ⟨j, n, cp, s, rfl, hj, rfl, rfl, hn2, hn0, Q, X, B⟩ := hrel
    have q2 := (hp_cell X.out 2).trans (show _ = some (.slice sH nH cH) from rfl)
    by_cases hjn : j < nH
    ·have dj : decide ((j : Int) < (nH : Int)) = true := by simp; omega
     have hjL : j < H.length := by rw [hnHe.out]; exact hjn
     obtain ⟨gh, oh, rfl, hc⟩ := he_form hH.out (by omega)
     obtain ⟨y0, y1, y2⟩ := hc j hjL
     replace y0 := B.out.cell y0
     replace y1 := B.out.cell y1
     replace y2 := B.out.cell y2
     clear hc
     have hpl : Hid (heL seat (fun x => decide (0 ≤ x.l)) (H.take (j + 1)) = heL seat (fun x => decide (0 ≤ x.l)) (H.take j) ++ subL seat (he H j) (decide (0 ≤ (he H j).l))) := Lib.hid (heL_take seat (fun x => decide (0 ≤ x.l)) H hjL)
     generalize he H j = hj' at *
     obtain ⟨o, t, l⟩ := hj'
     dsimp only at y0 y1 y2 hpl
     have cP := fun y : World => sub_any w seat ⟨o, t, l⟩ (decide (0 ≤ l)) rfl y
     unfold heC at cP
     replace cP := Lib.hid cP
     replace hjL := Lib.hid hjL
     go_upto_region 9 with (fail)
     have q0 := (hp_cell X.out 0).trans (show _ = some (.int .i64 seat) from rfl)
     have m0 : ∀ y : LaterS [] wr, _ := fun y => y.bw.cell q0
     have m1 : ∀ y : LaterS [] wr, _ := fun y => y.bw.cell q2
     have n0 : ∀ y : LaterS [] wr, _ := fun y => y.bw.cell y0
     have n1 : ∀ y : LaterS [] wr, _ := fun y => y.bw.cell y1
     have n2 : ∀ y : LaterS [] wr, _ := fun y => y.bw.cell y2
     obtain ⟨_, _, he, hncp, hcpm⟩ := Q.out.len
     cases he
     unfold maxLen at hcpm
     clear q0 q2 y0 y1 y2
     refine wp_region_gg ((Value.slice s n cp).ownBlock.toList) [9] [10] (by kernel_rfl) ?_
     refine hoist [] [9] (a1 := ?_) 0 rfl (by kernel_rfl) (.inl ⟨rfl, rfl⟩) rfl rfl rfl (fun x K hK => ?_) ?_
     rotate_left
     ·go_big_quiet_op
      exact hK
     refine hoist [] [9] (a1 := ?_) 1 rfl (by kernel_rfl) (.inl ⟨rfl, rfl⟩) rfl rfl rfl (fun x K hK => ?_) ?_
     rotate_left
     ·go_big_quiet_op
      exact hK
     refine hoist [] [9] (a1 := ?_) 2 rfl (by kernel_rfl) (.inl ⟨rfl, rfl⟩) rfl rfl rfl (fun x K hK => ?_) ?_
     rotate_left
     ·go_big_quiet_op
      exact hK
     refine hoist [] [9] (a1 := ?_) 3 rfl (by kernel_rfl) (.inl ⟨rfl, rfl⟩) rfl rfl rfl (fun x K hK => ?_) ?_
     rotate_left
     ·go_big_quiet_op
      exact hK
     refine hoist [] [9] (a1 := ?_) 4 rfl (by kernel_rfl) (.inl ⟨rfl, rfl⟩) rfl rfl rfl (fun x K hK => ?_) ?_
     rotate_left
     ·go_big_quiet_op
      exact hK
     refine hoist [] [9] (a1 := ?_) 5 rfl (by kernel_rfl) (.inl ⟨rfl, rfl⟩) rfl rfl rfl (fun x K hK => ?_) ?_
     rotate_left
     ·go_big_quiet_op
      exact hK
     refine hoist [] [9] (a1 := ?_) 6 rfl (by kernel_rfl) (.inl ⟨rfl, rfl⟩) rfl rfl rfl (fun x K hK => ?_) ?_
     rotate_left
     ·go_big_quiet_op
      exact hK
     refine hoist [] [9] (a1 := ?_) 7 rfl (by kernel_rfl) (.inl ⟨rfl, rfl⟩) rfl rfl rfl (fun x K hK => ?_) ?_
     rotate_left
     ·go_big_quiet_op
      exact hK
     refine effect 8 rfl (by kernel_rfl) (by kernel_rfl) rfl (fun x8 K hK => ?_)
     go_simp
     refine Calls.mono (cP.out x8.now) ?_
     rintro e w8 ⟨s', n', c', rfl, hn', hq, hb8⟩
     refine hK _ _ (hb8.still _) ?_
     clear hK K m0 m1 n0 n1 n2
     have hz4 : base ≤ x8.now.heap.size := by rw [← hb1.out]; exact (B.out.trans x8.bw).size
     replace hq := hq.up hz4
     have hb := x8.bw.trans hb8
     replace B := Lib.hid (B.out.trans hb)
     replace Q := Lib.hid (Q.out.bw hb)
     replace X := Lib.hid (X.out.bw hb)
     obtain ⟨hql, xs, hqS, hqE⟩ := hq.sq
     replace hql := Lib.hid hql
     replace hqS := Lib.hid hqS
     replace hqE := Lib.hid hqE
     clear hb hb8 hq hz4 cP
     try simp only [Act.put, List.setIfInBounds_toArray, List.set_cons_succ, List.set_cons_zero]
     refine effect 9 rfl (by kernel_rfl) (by kernel_rfl) rfl (fun x9 K hK => ?_)
     have B9 := Lib.hid (B.out.trans x9.bw)
     have Q9 := Lib.hid (Q.out.bw x9.bw)
     have X9 := Lib.hid (X.out.bw x9.bw)
     refine wp_apEQ slFr _ _ rfl base (.slice s n cp) n _ rfl Q9.out _ rfl n' (subL seat ⟨o, t, l⟩ (decide (0 ≤ l))) xs (hqS.out.bw x9.bw) (EL.mono (fun _ _ h => (EFm w).bw h x9.bw) hqE.out) hql.out (by omega) (by rw [← hb1.out]; exact B9.out.size) (Q9.out.noU (by decide)) ?_
     intro s7 c7 w7 hc7 hm7 E7 T7 B7 G7
     unfold maxLen at hm7
     refine hK _ _ T7 ?_
     clear hK K
     have X7 := Lib.hid (X9.out.st T7 (fun hm => Q9.out.ne X9.out (by decide) _ (by simpa using hm) rfl))
     have BB := Lib.hid (B9.out.step B7 (Nat.le_of_eq hb1.out))
     have E8 : Hid (EQ (EFm w) 43 w7 base (.slice s7 (n + n') c7) (n + n') (pubL seat rm W ++ heL seat (fun x => decide (0 ≤ x.l)) (H.take (j + 1)))) := Lib.hid (by rw [hpl.out, ← List.append_assoc]; exact E7)
     clear T7 X Q E7 B7 G7 hpl X9 Q9 B9 hqS hqE hql B
     try simp only [Act.put, List.setIfInBounds_toArray, List.set_cons_succ, List.set_cons_zero]
     refine tail 10 rfl (by kernel_rfl) rfl (fun xr => ?_)
     simp only [List.drop_succ_cons, List.drop_zero]
     have X8 := Lib.hid (X7.out.bw xr.bw)
     have B8 := Lib.hid (BB.out.trans xr.bw)
     have E9 := Lib.hid (E8.out.bw xr.bw)
     clear X7 BB E8
     generalize xr.now = w11 at *
     clear xr
     go_wp2_with fail
     go_roundg (nH - (j + 1))
     case measure => omega
     case rel => exact ⟨j + 1, n + n', c7, s7, rfl, by omega, by first | rfl | (push_cast; rfl), rfl, by omega, by omega, E9, X8, B8⟩
    ·obtain rfl : j = nH := by omega
     have dj : decide ((j : Int) < (j : Int)) = false := by simp
     have hall : H.take j = H := by rw [← hnHe.out, List.take_length]
     rw [hall] at Q
     have Q3 : Hid (EQ (EFm w) 43 wr base (.slice s n cp) n (numN nonce (rawL ⟨seat, W, H⟩ rm (fun x => decide (0 ≤ x.l))) 0)) := Lib.hid Q.out
     have hlen : Hid (n = (rawL ⟨seat, W, H⟩ rm (fun x => decide (0 ≤ x.l))).length) := Lib.hid Q.out.1.symm
     clear hall Q X
     generalize hrw : rawL ⟨seat, W, H⟩ rm (fun x => decide (0 ≤ x.l)) = L at *
     obtain ⟨gr, orr, rfl, -⟩ := fm_form Q3.out hn0
     obtain ⟨_, _, he, hncp, hcpm⟩ := Q3.out.len
     cases he
     unfold maxLen at hcpm
     have hn1000 : n ≤ 1000 := by omega
     replace hrw := Lib.hid hrw
     go_upto_region 11 with (fail)
     clear dj q2
     go_loopg [10] n (fun m' v52 wx => ∃ i : Nat, m' = n - i ∧ i ≤ n ∧ v52 = .int .i64 (i : Nat) ∧ Hid (EQ (EFm w) 43 wx base (.slice (some ⟨gr, orr, none⟩) n cp) n (numN nonce L i)) ∧ Hid (BW w wx))
     case atStart => exact ⟨0, by omega, by omega, rfl, Q3, B⟩
     case round =>
      clear Q3 B
      obtain ⟨i, rfl, hi, rfl, Q, B⟩ := hrel
      by_cases hin : i < n
      ·have di : decide ((i : Int) < (n : Int)) = true := by simp; omega
       obtain ⟨g2, o2, hsl, hc⟩ := fm_form Q.out hn0
       cases hsl
       have z2 := hc i hin
       have f2 := Q.out.frz hn0 (orr + i * 8 + 2)
       have hset := Lib.hid (fm_set Q.out i hin ((nonce + i) % 18446744073709551616))
       generalize (frG (numN nonce L i) i).nonce = old at *
       clear hc
       have hsz : i % 18446744073709551616 = i := Nat.mod_eq_of_lt (by omega)
       have hst : Hid (∀ u : Value, Still [gr] wr (wr.setCell ⟨gr, orr + i * 8 + 2, none⟩ u)) := Lib.hid (fun u => still_setR wr gr (orr + i * 8 + 2) u)
       have hge : Hid (base ≤ gr) := Lib.hid (Q.out.ge' gr (by simp [Value.ownBlock]))
       clear Q
       go_wp2_with fail
       go_roundg (n - (i + 1))
       case measure => omega
       case rel => exact ⟨i + 1, rfl, by omega, by first | rfl | (push_cast; rfl), hset, Lib.hid (B.out.stP (hst.out _) (fun k hk => by obtain rfl : k = gr := (by simpa using hk); rw [hb1.out]; exact hge.out))⟩
      ·obtain rfl : i = n := by omega
       have di : decide ((i : Int) < (i : Int)) = false := by simp
       go_wp2_with fail
       go_ret
       exact ⟨⟨_, _, _, rfl, by rw [hrw.out]; exact hlen.out, hn1000, by rw [hrw.out]; exact Q.out⟩, B.out⟩
end Go.Proofs.YtafhnlnhflehhaaDoor
