/- The law RoomWhole. No condition. -/
import Derived.Test.YtebeifkgjhgmeaaRnK
namespace Go.Proofs.Ytebeifkgjhgmeaa
open Go.RowKit
set_option maxRecDepth 100000 in
set_option maxHeartbeats 8000000 in
theorem law_whole (sa : Option Addr) (n cap : Nat) (sb : Option Addr) (m capb : Nat) (w : World) (h0 : Rd w (.loop seatTy) [.slice sa n cap]) (h1 : Rd w (.loop frTy) [.slice sb m capb]) :
  Calls Try.prog 3 #[.slice sa n cap, .slice sb m capb] w fun e w' => e = .returned (.bool true) ∧ Below w.heap.size w w' := by
 obtain ⟨X, hX, hSe, hnc, hcap⟩ := seats_of_Rd h0
 obtain ⟨hFr, hmc, hcapb⟩ := frs_of_Rd h1
 unfold maxLen at hcap hcapb
 clear h0 h1
 replace hFr := Lib.hid hFr
 go_enter Try.func3, Try.ntmps3
 go_wp2_with fail
 refine Calls.mono (room_alive w) ?_
 rintro e w1 ⟨rfl, hb1⟩
 dsimp only
 go_wp2_with fail
 refine Calls.mono (src_ok sa n cap X hX hnc hcap w1 (hSe.bw hb1)) ?_
 rintro e _ ⟨b, rfl, h20, rfl⟩
 replace hb1 := Lib.hid hb1
 cases b with
 | false =>
  dsimp only
  go_wp2_with fail
  go_ret
  exact ⟨rfl, hb1.out⟩
 | true =>
 replace h20 := h20 rfl
 have cN := Lib.hid (hs_new sa n cap X hX hnc hcap h20 w1 (hSe.bw hb1.out))
 have hSl : Hid (∀ s ∈ X.take (min n 6), s.length ≤ 20) := Lib.hid (fun s hs => h20 s (List.mem_of_mem_take hs))
 clear h20
 dsimp only
 go_wp2_with fail
 refine Calls.mono cN.out ?_
 rintro e w2 ⟨gh, T, rfl, H2, hb2⟩
 clear cN hSl
 generalize X.take (min n 6) = S at *
 generalize List.replicate (min n 6) mem0 = H0 at *
 have hbase := Lib.hid hb1.out.size
 generalize hbs : w1.heap.size = base at *
 replace H2 := Lib.hid H2
 have B2 := Lib.hid (hb1.out.trans hb2)
 clear hb2 hb1
 replace hbs := Lib.hid hbs
 dsimp only
 go_upto_block 0 with (fail)
 go_cut [] (fun wc => ∃ (H : List Mem) (T : List Nat), Hid (HS wc base gh S H T) ∧ Hid (BW w wc))
 case first =>
  go_upto_region 9 with (fail)
  go_loopg [6] m (fun m' ix wx => ∃ (k : Nat) (H : List Mem) (T : List Nat), m' = m - k ∧ k ≤ m ∧ ix = .int .i64 (k : Nat) ∧ Hid (HS wx base gh S H T) ∧ Hid (BW w wx))
  case atStart => exact ⟨0, H0, T, by omega, by omega, rfl, H2, B2⟩
  case round =>
   clear H2 B2
   obtain ⟨k, H, T, rfl, hk, rfl, H3, B3⟩ := hrel
   by_cases hkm : k < m
   ·have d1 : decide ((k : Int) < (m : Int)) = true := by simp; omega
    by_cases hk6 : k < 60
    ·have d2 : decide ((k : Int) < 60) = true := by simp; omega
     obtain ⟨b, o, ⟨kd, st, nn, rm, tr, ow, ly, sf, nf, cf, F⟩, rfl, hR0, hok, hown⟩ := hFr.out k hkm
     have hR : Hid (wr.rangeAt b (o + k * 8) (frA kd st (nn : Nat) rm tr ow ly sf nf cf).toList) := Lib.hid (rangeAt_bw hR0 B3.out)
     have cG := Lib.hid (great_ok kd st (nn : Nat) rm tr ow ly sf nf cf wr)
     have hok2 := Lib.hid (hok.bw B3.out)
     have hsf : Hid (0 < nf → ∀ g, (Value.slice sf nf cf).ownBlock = some g → g ∉ T) := Lib.hid (fun q0 g hg hm => by
      have h1 := hown q0 g hg
      have h2 := (H3.out.ht g hm).1
      have h3 := hbase.out
      omega)
     clear hR0 hok hown
     go_wp2_with (refine swLdC swFr rfl rfl rfl hR.out rfl ?_)
     refine Calls.mono cG.out ?_
     rintro e w4 ⟨rfl, hb4⟩
     replace H3 := Lib.hid (H3.out.bw hb4)
     replace B3 := Lib.hid (B3.out.trans hb4)
     replace hR := Lib.hid (rangeAt_bw hR.out hb4)
     replace hok2 := Lib.hid (hok2.out.bw hb4)
     clear cG hb4
     by_cases h40 : 40 < nf
     ·have d4 : decide ((40 : Int) < (nf : Int)) = true := by simp; omega
      rw [d4]
      dsimp only
      go_wp2_with fail
      go_ret
      exact ⟨rfl, B3.out⟩
     have d4 : decide ((40 : Int) < (nf : Int)) = false := by simp; omega
     rw [d4]
     have cD := Lib.hid (hs_do base gh S H T kd st rm tr ow ly nn hok2.out.nn sf nf cf F w4 H3.out hok2.out.sq hok2.out.F (by omega) hsf.out)
     clear h40
     dsimp only
     go_wp2_with (refine swLdC swFr rfl rfl rfl hR.out rfl ?_)
     refine Calls.mono cD.out ?_
     rintro e w5 ⟨H', T', cd, v, sc, nc, cc, rfl, -, -, -, H5, hT⟩
     replace B3 := Lib.hid (BW.stP B3.out hT (fun g hg => Nat.le_trans hbase.out (H3.out.ht g hg).1))
     replace H5 := Lib.hid H5
     clear cD hT H3 hR hok2 hsf
     dsimp only
     go_wp2_with fail
     go_roundg (m - (k + 1))
     case measure => omega
     case rel => exact ⟨k + 1, H', T', rfl, by omega, by first | rfl | (push_cast; rfl), H5, B3⟩
    ·have d2 : decide ((k : Int) < 60) = false := by simp; omega
     go_wp2_with fail
     go_meet
     exact ⟨H, T, H3, B3⟩
   ·have d1 : decide ((k : Int) < (m : Int)) = false := by simp; omega
    go_wp2_with fail
    go_meet
    exact ⟨H, T, H3, B3⟩
 case rest =>
  clear H2 B2
  obtain ⟨H, T, H3, B3⟩ := hcut
  have hcz := Lib.hid (rfl : True = True)
  clear hcz
  generalize hbo : wc.heap.size = bo at *
  replace hbo := Lib.hid hbo
  go_upto_region 16 with (fail)
  go_loopg [7, 8] 6 (fun m' sv ix wx => ∃ (k ns : Nat) (s1 : Option Addr) (c1 : Nat) (l : List Nat), m' = 6 - k ∧ k ≤ 6 ∧ ix = .int .i64 (k : Nat) ∧ sv = .slice s1 ns c1 ∧ c1 ≤ 9223372036854775807 ∧ ns ≤ 4 * k ∧ Hid (EQ EU4 48 wx bo (.slice s1 ns c1) ns l) ∧ Hid (∀ y ∈ l, ∃ (s' : Nat) (q : Mem), H[s']? = some q ∧ s' < k ∧ y ∈ q.subs.map Sbs.s) ∧ Hid (BW wc wx))
  case atStart => exact ⟨0, 0, none, 0, [], by omega, by omega, rfl, rfl, by omega, by omega, EQ.nil _ _ _ _, (fun y hy => by cases hy), BW.refl _⟩
  case round =>
   obtain ⟨k, ns, s1, c1, l, rfl, hk, rfl, rfl, hc1, hns, E4, hl, B4⟩ := hrel
   by_cases hk6 : k < 6
   ·have d1 : decide ((k : Int) < 6) = true := by simp; omega
    have cM := Lib.hid (hs_member base gh S H T (k : Nat) wr (H3.out.bw B4.out))
    go_wp2_with fail
    refine Calls.mono cM.out ?_
    rintro e w5 ⟨q, va, vb, vs, ok, rfl, hMV, hb5, hor⟩
    have hq : ∀ x ∈ q.subs, H[k]? = some q := fun x hx => by
     rcases hor with ⟨-, s', e1, e2⟩ | ⟨-, -, rfl⟩
     ·obtain rfl : k = s' := by omega
      exact e2
     ·cases hx
    have hq4 : q.subs.length ≤ 4 := by
     rcases hor with ⟨-, s', e1, e2⟩ | ⟨-, -, rfl⟩
     ·exact (H3.out.ok s' q e2).n
     ·exact Nat.zero_le _
    clear hor cM
    obtain ⟨ss, cs, rfl, -, hcs⟩ := hMV.s.len
    obtain ⟨sa9, ca9, rfl, -, -⟩ := hMV.a.len
    obtain ⟨sb9, cb9, rfl, -, -⟩ := hMV.b.len
    unfold maxLen at hcs
    have BA : BW w5 (w5.alloc (.cells (memA q (.slice sa9 q.a.p.length ca9) (.slice sb9 q.b.p.length cb9) (.slice ss q.subs.length cs)) 45)) := (BW.refl w5).alloc
    have M6 := Lib.hid (HpB.new w5 (.cells (memA q (.slice sa9 q.a.p.length ca9) (.slice sb9 q.b.p.length cb9) (.slice ss q.subs.length cs)) 45))
    have V6 := Lib.hid (hMV.s.bw BA)
    have E6 := Lib.hid (E4.out.bw (hb5.trans BA))
    have B6 := Lib.hid ((B4.out.trans hb5).trans BA)
    clear BA hMV hb5 E4 B4
    unfold memA memC at *
    dsimp only
    go_upto_region 19 with (fail)
    generalize w5.alloc _ = w6 at *
    generalize w5.heap.size = g9 at *
    generalize hqr : q.r = qr at *
    generalize hqn : q.subs.length = nq at *
    have d4 : decide ((4 : Int) < (nq : Int)) = false := by simp; omega
    have z0 := hp_cell (M6.out) 0
    have z1 := hp_cell (M6.out) 1
    have z2 := hp_cell (M6.out) 2
    have z3 := hp_cell (M6.out) 3
    have z4 := hp_cell (M6.out) 4
    have z5 := hp_cell (M6.out) 5
    have z6 := hp_cell (M6.out) 6
    have z7 := hp_cell (M6.out) 7
    have z8 := hp_cell (M6.out) 8
    simp only [List.getElem?_toArray, List.getElem?_cons_zero, List.getElem?_cons_succ] at z0 z1 z2 z3 z4 z5 z6 z7 z8
    go_upto_region 22 with (fail)
    generalize wr.heap.size = b6 at *
    clear z0 z1 z2 z3 z4 z5 z6 z7 z8
    go_loopg [7, 11] nq (fun m' sv jx wx => ∃ (j ns2 : Nat) (s2 : Option Addr) (c2 : Nat) (l2 : List Nat), m' = nq - j ∧ j ≤ nq ∧ jx = .int .i64 (j : Nat) ∧ sv = .slice s2 ns2 c2 ∧ c2 ≤ 9223372036854775807 ∧ ns2 ≤ 4 * k + j ∧ Hid (EQ EU4 48 wx bo (.slice s2 ns2 c2) ns2 l2) ∧ Hid (∀ y ∈ l2, (∃ (s' : Nat) (q : Mem), H[s']? = some q ∧ s' < k ∧ y ∈ q.subs.map Sbs.s) ∨ y ∈ (q.subs.take j).map Sbs.s) ∧ Hid (HpB wx g9 (.cells #[.int .i64 qr, .bool q.a.is, .int .i64 q.a.c, .slice sa9 q.a.p.length ca9, .bool q.b.is, .int .i64 q.b.c, .slice sb9 q.b.p.length cb9, .slice ss nq cs, .int .u64 (q.n : Nat)] 45)) ∧ Hid (EQ ESb 50 wx b6 (.slice ss nq cs) nq q.subs) ∧ Hid (BW wc wx))
    case atStart => exact ⟨0, ns, s1, c1, l, by omega, by omega, rfl, rfl, hc1, by omega, E6, (fun y hy => .inl (hl.out y hy)), M6, V6, B6⟩
    case round =>
     clear E6 M6 V6 B6 hl
     obtain ⟨j, ns2, s2, c2, l2, rfl, hj, rfl, rfl, hc2, hns2, E6, hl2, M6, V6, B6⟩ := hrel
     by_cases hjn : j < nq
     ·have d5 : decide ((j : Int) < (nq : Int)) = true := by simp; omega
      have hjq : j < q.subs.length := by rw [hqn]; exact hjn
      obtain ⟨gv, ov, rfl, -, hcell⟩ := sb_form V6.out (by omega)
      have hR := Lib.hid (rangeAt_of (hcell j hjq) rfl)
      have hHk := hq _ (List.getElem_mem hjq)
      have hok := H3.out.ok k q hHk
      have hso := hok.x _ (List.getElem_mem hjq)
      have htk : q.subs.take (j + 1) = q.subs.take j ++ [q.subs[j]] := List.take_succ_eq_append_getElem hjq
      have hnew : ∀ y ∈ l2, y ≠ q.subs[j].s := fun y hy e => by
       rcases hl2.out y hy with ⟨s', q', e1, e2, e3⟩ | e1
       ·obtain ⟨x, hx, rfl⟩ := List.mem_map.1 e3
        exact H3.out.ok.apart e1 hHk (by omega) hx (List.getElem_mem hjq) e
       ·obtain ⟨x, hx, rfl⟩ := List.mem_map.1 e1
        obtain ⟨i, hi, rfl⟩ := List.mem_iff_getElem.1 hx
        rw [List.length_take] at hi
        have hd := List.pairwise_iff_getElem.1 hok.d i j (by simpa using (by omega : i < q.subs.length)) (by simpa using hjq) (by omega)
        rw [List.getElem_map, List.getElem_map] at hd
        rw [List.getElem_take] at e
        exact hd e
      generalize q.subs[j] = x at *
      clear hcell hok
      obtain ⟨xo, xt, xl, xs⟩ := x
      obtain ⟨⟨kk, e1, e2, q2, e3, e4, e5, e6⟩, e7, e8, e9, -⟩ := hso
      dsimp only at e1 e5 e6 e7 e8
      obtain ⟨t, rfl, ht⟩ : ∃ t : Nat, xt = (t : Int) ∧ (t = 0 ∨ t = 1) := ⟨xt.toNat, by omega, by omega⟩
      subst e1
      replace e4 := Lib.hid e4
      replace e5 := Lib.hid e5
      replace e6 := Lib.hid e6
      have BA : BW wr (wr.alloc (.cells (sbA ⟨(kk : Nat), (t : Nat), xl, xs⟩) 50)) := (BW.refl wr).alloc
      have X7 := Lib.hid (HpB.new wr (.cells (sbA ⟨(kk : Nat), (t : Nat), xl, xs⟩) 50))
      have z0 := hp_cell (M6.out) 0
      have z1 := hp_cell (M6.out) 1
      have z2 := hp_cell (M6.out) 2
      have z3 := hp_cell (M6.out) 3
      have z4 := hp_cell (M6.out) 4
      have z5 := hp_cell (M6.out) 5
      have z6 := hp_cell (M6.out) 6
      have z7 := hp_cell (M6.out) 7
      have z8 := hp_cell (M6.out) 8
      simp only [List.getElem?_toArray, List.getElem?_cons_zero, List.getElem?_cons_succ] at z0 z1 z2 z3 z4 z5 z6 z7 z8
      have M7 := Lib.hid (M6.out.bw BA)
      have V7 := Lib.hid (V6.out.bw BA)
      have E7 := Lib.hid (E6.out.bw BA)
      have B7 := Lib.hid (B6.out.trans BA)
      have cM2 := Lib.hid (hs_member base gh S H T (kk : Nat) _ (H3.out.bw B7.out))
      clear M6 V6 E6 B6 BA
      have htk' := Lib.hid htk
      have hnew' := Lib.hid hnew
      have hHk' := Lib.hid hHk
      have hqh := Lib.hid hq
      clear htk hnew hHk hq
      unfold sbA at *
      go_upto_region 25 with (first | (refine swLdC swSb rfl rfl rfl hR.out rfl ?_) | (refine swStN swSb rfl rfl rfl rfl rfl rfl (by kernel_rfl) ?_))
      generalize wr.alloc _ = w7 at *
      generalize wr.heap.size = g12 at *
      clear z0 z1 z2 z3 z4 z5 z6 z7 z8
      have x0 := (hp_cell X7.out 0).trans (show _ = some (.int .i64 (kk : Nat)) from rfl)
      try simp only [Act.put, List.setIfInBounds_toArray, List.set_cons_succ, List.set_cons_zero]
      go_wp2_with fail
      refine Calls.mono cM2.out ?_
      rintro e w8 ⟨q2', va, vb, vs, ok, rfl, hMV, hb8, hor⟩
      obtain ⟨rfl, rfl⟩ : ok = true ∧ q2' = q2 := by
       rcases hor with ⟨h1, s', h2, h3⟩ | ⟨-, h2, -⟩
       ·obtain rfl : kk = s' := by omega
        exact ⟨h1, Option.some.inj (h3.symm.trans e3)⟩
       ·exact absurd ⟨by omega, by have := (List.getElem?_eq_some_iff.1 e3).1; omega⟩ h2
      obtain ⟨ss2, cs2, rfl, -, -⟩ := hMV.s.len
      obtain ⟨sa2, ca2, rfl, -, hca2⟩ := hMV.a.len
      obtain ⟨sb2, cb2, rfl, -, hcb2⟩ := hMV.b.len
      unfold maxLen at hca2 hcb2
      have BA : BW w8 (w8.alloc (.cells (memA q2' (.slice sa2 q2'.a.p.length ca2) (.slice sb2 q2'.b.p.length cb2) (.slice ss2 q2'.subs.length cs2)) 45)) := (BW.refl w8).alloc
      have O9 := Lib.hid (HpB.new w8 (.cells (memA q2' (.slice sa2 q2'.a.p.length ca2) (.slice sb2 q2'.b.p.length cb2) (.slice ss2 q2'.subs.length cs2)) 45))
      replace X7 := Lib.hid (X7.out.bw (hb8.trans BA))
      replace M7 := Lib.hid (M7.out.bw (hb8.trans BA))
      replace V7 := Lib.hid (V7.out.bw (hb8.trans BA))
      replace E7 := Lib.hid (E7.out.bw (hb8.trans BA))
      replace B7 := Lib.hid (B7.out.trans (hb8.trans BA))
      clear BA hMV hb8 hor cM2 x0
      unfold memA memC at *
      dsimp only
      go_upto_region 26 with (fail)
      generalize w8.alloc _ = w9 at *
      generalize w8.heap.size = g13 at *
      have hpl : ∃ (sp : Option Addr) (np cp : Nat), (((xl : Int) < (np : Int))) ∧ w9.cell? ⟨g13, 1 + t * 3, none⟩ = some (.bool true) ∧ w9.cell? ⟨g13, 1 + t * 3 + 2, none⟩ = some (.slice sp np cp) := by
       rcases ht with rfl | rfl
       ·exact ⟨sa2, q2'.a.p.length, ca2, e6.out, (hp_cell O9.out 1).trans (by rw [show q2'.a.is = true from e5.out]; rfl), (hp_cell O9.out 3).trans rfl⟩
       ·exact ⟨sb2, q2'.b.p.length, cb2, e6.out, (hp_cell O9.out 4).trans (by rw [show q2'.b.is = true from e5.out]; rfl), (hp_cell O9.out 6).trans rfl⟩
      obtain ⟨sp, np, cp, hnp, zi, zp⟩ := hpl
      have o0 := (hp_cell O9.out 0).trans (show _ = some (.int .i64 q2'.r) from rfl)
      rw [show q2'.r = qr by rw [e4.out, hqr]] at o0
      have z0 := (hp_cell M7.out 0).trans (show _ = some (.int .i64 qr) from rfl)
      have x0 := (hp_cell X7.out 0).trans (show _ = some (.int .i64 (kk : Nat)) from rfl)
      have x1 := (hp_cell X7.out 1).trans (show _ = some (.int .i64 (t : Nat)) from rfl)
      have x2 := (hp_cell X7.out 2).trans (show _ = some (.int .i64 xl) from rfl)
      have mo0 : ∀ y : LaterS [] w9, _ := fun y => y.bw.cell o0
      have mzi : ∀ y : LaterS [] w9, _ := fun y => y.bw.cell zi
      have mzp : ∀ y : LaterS [] w9, _ := fun y => y.bw.cell zp
      have mz0 : ∀ y : LaterS [] w9, _ := fun y => y.bw.cell z0
      have mx0 : ∀ y : LaterS [] w9, _ := fun y => y.bw.cell x0
      have mx1 : ∀ y : LaterS [] w9, _ := fun y => y.bw.cell x1
      have mx2 : ∀ y : LaterS [] w9, _ := fun y => y.bw.cell x2
      have d6 : (((kk : Nat) : Int) == ((k : Nat) : Int)) = false := beq_eq_false_iff_ne.2 (by omega)
      have d7 : (qr != qr) = false := by simp
      have d8 : decide (qr < 0) = false := decide_eq_false (by rw [← hqr]; omega)
      have d9 : decide (((t : Nat) : Int) < 0) = false := decide_eq_false (by omega)
      have d10 : decide ((1 : Int) < ((t : Nat) : Int)) = false := decide_eq_false (by omega)
      have d11 : decide (xl < -1) = false := decide_eq_false (by omega)
      have d12 : decide ((np : Int) ≤ xl) = false := decide_eq_false (by omega)
      have d13 : decide (xl < (np : Int)) = true := decide_eq_true (by omega)
      have ht2 : t < 2 := by omega
      clear o0 zi zp z0 x0 x1 x2 O9 e3 e4 e5 e6 e7 e8 e9 hnp ht
      replace hqr := Lib.hid hqr
      try simp only [Act.put, List.setIfInBounds_toArray, List.set_cons_succ, List.set_cons_zero]
      refine wp_region_gg [] [] [] (by kernel_rfl) ?_
      refine hoist [] [] (a1 := ?_) 0 rfl (by kernel_rfl) (.inl ⟨rfl, rfl⟩) rfl rfl rfl (fun x K hK => ?_) ?_
      rotate_left
      ·go_big_quiet_op
       exact hK
      refine hoist [] [] (a1 := ?_) 1 rfl (by kernel_rfl) (.inl ⟨rfl, rfl⟩) rfl rfl rfl (fun x K hK => ?_) ?_
      rotate_left
      ·go_big_quiet_op
       exact hK
      refine hoist [] [] (a1 := ?_) 2 rfl (by kernel_rfl) (.inl ⟨rfl, rfl⟩) rfl rfl rfl (fun x K hK => ?_) ?_
      rotate_left
      ·go_big_quiet_op
       exact hK
      refine hoist [] [] (a1 := ?_) 3 rfl (by kernel_rfl) (.inl ⟨rfl, rfl⟩) rfl rfl rfl (fun x K hK => ?_) ?_
      rotate_left
      ·go_big_quiet_op
       exact hK
      refine hoist [] [] (a1 := ?_) 4 rfl (by kernel_rfl) (.inl ⟨rfl, rfl⟩) rfl rfl rfl (fun x K hK => ?_) ?_
      rotate_left
      ·go_big_quiet_op
       exact hK
      refine hoist [] [] (a1 := ?_) 5 rfl (by kernel_rfl) (.inl ⟨rfl, rfl⟩) rfl rfl rfl (fun x K hK => ?_) ?_
      rotate_left
      ·go_big_quiet_op
       exact hK
      refine hoist [] [] (a1 := ?_) 6 rfl (by kernel_rfl) (.inl ⟨rfl, rfl⟩) rfl rfl rfl (fun x K hK => ?_) ?_
      rotate_left
      ·go_big_quiet_op
       exact hK
      refine hoist [] [] (a1 := ?_) 7 rfl (by kernel_rfl) (.inl ⟨rfl, rfl⟩) rfl rfl rfl (fun x K hK => ?_) ?_
      rotate_left
      ·go_big_quiet_op
       exact hK
      refine hoist [] [] (a1 := ?_) 8 rfl (by kernel_rfl) (.inl ⟨rfl, rfl⟩) rfl rfl rfl (fun x K hK => ?_) ?_
      rotate_left
      ·go_big_quiet_op
       exact hK
      refine hoist [] [] (a1 := ?_) 9 rfl (by kernel_rfl) (.inl ⟨rfl, rfl⟩) rfl rfl rfl (fun x K hK => ?_) ?_
      rotate_left
      ·go_big_quiet_op
       exact hK
      refine hoist [] [] (a1 := ?_) 10 rfl (by kernel_rfl) (.inl ⟨rfl, rfl⟩) rfl rfl rfl (fun x K hK => ?_) ?_
      rotate_left
      ·go_big_quiet_op
       exact hK
      refine hoist [] [] (a1 := ?_) 11 rfl (by kernel_rfl) (.inl ⟨rfl, rfl⟩) rfl rfl rfl (fun x K hK => ?_) ?_
      rotate_left
      ·go_big_quiet_op
       exact hK
      refine hoist [] [] (a1 := ?_) 12 rfl (by kernel_rfl) (.inl ⟨rfl, rfl⟩) rfl rfl rfl (fun x K hK => ?_) ?_
      rotate_left
      ·go_big_quiet_op
       exact hK
      refine hoist [] [] (a1 := ?_) 13 rfl (by kernel_rfl) (.inl ⟨rfl, rfl⟩) rfl rfl rfl (fun x K hK => ?_) ?_
      rotate_left
      ·go_big_quiet_op
       exact hK
      refine hoist [] [] (a1 := ?_) 14 rfl (by kernel_rfl) (.inl ⟨rfl, rfl⟩) rfl rfl rfl (fun x K hK => ?_) ?_
      rotate_left
      ·go_big_quiet_op
       exact hK
      refine hoist [] [] (a1 := ?_) 15 rfl (by kernel_rfl) (.inl ⟨rfl, rfl⟩) rfl rfl rfl (fun x K hK => ?_) ?_
      rotate_left
      ·go_big_quiet_op
       exact hK
      refine hoist [] [] (a1 := ?_) 16 rfl (by kernel_rfl) (.inl ⟨rfl, rfl⟩) rfl rfl rfl (fun x K hK => ?_) ?_
      rotate_left
      ·go_big_quiet_op
       exact hK
      refine hoist [] [] (a1 := ?_) 17 rfl (by kernel_rfl) (.inl ⟨rfl, rfl⟩) rfl rfl rfl (fun x K hK => ?_) ?_
      rotate_left
      ·go_big_quiet_op
       exact hK
      refine hoist [] [] (a1 := ?_) 18 rfl (by kernel_rfl) (.inl ⟨rfl, rfl⟩) rfl rfl rfl (fun x K hK => ?_) ?_
      rotate_left
      ·go_big_quiet_op
       exact hK
      refine hoist [] [] (a1 := ?_) 19 rfl (by kernel_rfl) (.inl ⟨rfl, rfl⟩) rfl rfl rfl (fun x K hK => ?_) ?_
      rotate_left
      ·go_big_quiet_op
       exact hK
      refine hoist [] [] (a1 := ?_) 20 rfl (by kernel_rfl) (.inl ⟨rfl, rfl⟩) rfl rfl rfl (fun x K hK => ?_) ?_
      rotate_left
      ·go_big_quiet_op
       exact hK
      refine hoist [] [] (a1 := ?_) 21 rfl (by kernel_rfl) (.inl ⟨rfl, rfl⟩) rfl rfl rfl (fun x K hK => ?_) ?_
      rotate_left
      ·go_big_quiet_op
       exact hK
      refine hoist [] [] (a1 := ?_) 22 rfl (by kernel_rfl) (.inl ⟨rfl, rfl⟩) rfl rfl rfl (fun x K hK => ?_) ?_
      rotate_left
      ·go_big_quiet_op
       exact hK
      refine hoist [] [] (a1 := ?_) 23 rfl (by kernel_rfl) (.inl ⟨rfl, rfl⟩) rfl rfl rfl (fun x K hK => ?_) ?_
      rotate_left
      ·go_big_quiet_op
       exact hK
      refine hoist [] [] (a1 := ?_) 24 rfl (by kernel_rfl) (.inl ⟨rfl, rfl⟩) rfl rfl rfl (fun x K hK => ?_) ?_
      rotate_left
      ·go_big_quiet_op
       exact hK
      refine hoist [] [] (a1 := ?_) 25 rfl (by kernel_rfl) (.inl ⟨rfl, rfl⟩) rfl rfl rfl (fun x K hK => ?_) ?_
      rotate_left
      ·go_big_quiet_op
       exact hK
      refine hoist [] [] (a1 := ?_) 26 rfl (by kernel_rfl) (.inl ⟨rfl, rfl⟩) rfl rfl rfl (fun x K hK => ?_) ?_
      rotate_left
      ·go_big_quiet_op
       exact hK
      refine hoist [] [] (a1 := ?_) 27 rfl (by kernel_rfl) (.inl ⟨rfl, rfl⟩) rfl rfl rfl (fun x K hK => ?_) ?_
      rotate_left
      ·go_big_quiet_op
       exact hK
      refine hoist [] [] (a1 := ?_) 28 rfl (by kernel_rfl) (.inl ⟨rfl, rfl⟩) rfl rfl rfl (fun x K hK => ?_) ?_
      rotate_left
      ·go_big_quiet_op
       exact hK
      refine hoist [] [] (a1 := ?_) 29 rfl (by kernel_rfl) (.inl ⟨rfl, rfl⟩) rfl rfl rfl (fun x K hK => ?_) ?_
      rotate_left
      ·go_big_quiet_op
       exact hK
      refine hoist [] [] (a1 := ?_) 30 rfl (by kernel_rfl) (.inl ⟨rfl, rfl⟩) rfl rfl rfl (fun x K hK => ?_) ?_
      rotate_left
      ·go_big_quiet_op
       exact hK
      refine hoist [] [] (a1 := ?_) 31 rfl (by kernel_rfl) (.inl ⟨rfl, rfl⟩) rfl rfl rfl (fun x K hK => ?_) ?_
      rotate_left
      ·go_big_quiet_op
       exact hK
      refine hoist [] [] (a1 := ?_) 32 rfl (by kernel_rfl) (.inl ⟨rfl, rfl⟩) rfl rfl rfl (fun x K hK => ?_) ?_
      rotate_left
      ·go_big_quiet_op
       exact hK
      refine hoist [] [] (a1 := ?_) 33 rfl (by kernel_rfl) (.inl ⟨rfl, rfl⟩) rfl rfl rfl (fun x K hK => ?_) ?_
      rotate_left
      ·go_big_quiet_op
       exact hK
      refine hoist [] [] (a1 := ?_) 34 rfl (by kernel_rfl) (.inl ⟨rfl, rfl⟩) rfl rfl rfl (fun x K hK => ?_) ?_
      rotate_left
      ·go_big_quiet_op
       exact hK
      refine hoist [] [] (a1 := ?_) 35 rfl (by kernel_rfl) (.inl ⟨rfl, rfl⟩) rfl rfl rfl (fun x K hK => ?_) ?_
      rotate_left
      ·go_big_quiet_op
       exact hK
      refine hoist [] [] (a1 := ?_) 36 rfl (by kernel_rfl) (.inl ⟨rfl, rfl⟩) rfl rfl rfl (fun x K hK => ?_) ?_
      rotate_left
      ·go_big_quiet_op
       exact hK
      refine hoist [] [] (a1 := ?_) 37 rfl (by kernel_rfl) (.inl ⟨rfl, rfl⟩) rfl rfl rfl (fun x K hK => ?_) ?_
      rotate_left
      ·go_big_quiet_op
       exact hK
      refine hoist [] [] (a1 := ?_) 38 rfl (by kernel_rfl) (.inl ⟨rfl, rfl⟩) rfl rfl rfl (fun x K hK => ?_) ?_
      rotate_left
      ·go_big_quiet_op
       exact hK
      refine hoist [] [] (a1 := ?_) 39 rfl (by kernel_rfl) (.inl ⟨rfl, rfl⟩) rfl rfl rfl (fun x K hK => ?_) ?_
      rotate_left
      ·go_big_quiet_op
       exact hK
      refine hoist [] [] (a1 := ?_) 40 rfl (by kernel_rfl) (.inl ⟨rfl, rfl⟩) rfl rfl rfl (fun x K hK => ?_) ?_
      rotate_left
      ·go_big_quiet_op
       exact hK
      refine hoist [] [] (a1 := ?_) 41 rfl (by kernel_rfl) (.inl ⟨rfl, rfl⟩) rfl rfl rfl (fun x K hK => ?_) ?_
      rotate_left
      ·go_big_quiet_op
       exact hK
      refine hoist [] [] (a1 := ?_) 42 rfl (by kernel_rfl) (.inl ⟨rfl, rfl⟩) rfl rfl rfl (fun x K hK => ?_) ?_
      rotate_left
      ·go_big_quiet_op
       exact hK
      refine hoist [] [] (a1 := ?_) 43 rfl (by kernel_rfl) (.inl ⟨rfl, rfl⟩) rfl rfl rfl (fun x K hK => ?_) ?_
      rotate_left
      ·go_big_quiet_op
       exact hK
      refine hoist [] [] (a1 := ?_) 44 rfl (by kernel_rfl) (.inl ⟨rfl, rfl⟩) rfl rfl rfl (fun x K hK => ?_) ?_
      rotate_left
      ·go_big_quiet_op
       exact hK
      refine hoist [] [] (a1 := ?_) 45 rfl (by kernel_rfl) (.inl ⟨rfl, rfl⟩) rfl rfl rfl (fun x K hK => ?_) ?_
      rotate_left
      ·go_big_quiet_op
       exact hK
      refine hoist [] [] (a1 := ?_) 46 rfl (by kernel_rfl) (.inl ⟨rfl, rfl⟩) rfl rfl rfl (fun x K hK => ?_) ?_
      rotate_left
      ·go_big_quiet_op
       exact hK
      refine hoist [] [] (a1 := ?_) 47 rfl (by kernel_rfl) (.inl ⟨rfl, rfl⟩) rfl rfl rfl (fun x K hK => ?_) ?_
      rotate_left
      ·go_big_quiet_op
       exact hK
      refine hoist [] [] (a1 := ?_) 48 rfl (by kernel_rfl) (.inl ⟨rfl, rfl⟩) rfl rfl rfl (fun x K hK => ?_) ?_
      rotate_left
      ·go_big_quiet_op
       exact hK
      refine hoist [] [] (a1 := ?_) 49 rfl (by kernel_rfl) (.inl ⟨rfl, rfl⟩) rfl rfl rfl (fun x K hK => ?_) ?_
      rotate_left
      ·go_big_quiet_op
       exact hK
      refine hoist [] [] (a1 := ?_) 50 rfl (by kernel_rfl) (.inl ⟨rfl, rfl⟩) rfl rfl rfl (fun x K hK => ?_) ?_
      rotate_left
      ·go_big_quiet_op
       exact hK
      refine hoist [] [] (a1 := ?_) 51 rfl (by kernel_rfl) (.inl ⟨rfl, rfl⟩) rfl rfl rfl (fun x K hK => ?_) ?_
      rotate_left
      ·go_big_quiet_op
       exact hK
      refine hoist [] [] (a1 := ?_) 52 rfl (by kernel_rfl) (.inl ⟨rfl, rfl⟩) rfl rfl rfl (fun x K hK => ?_) ?_
      rotate_left
      ·go_big_quiet_op
       exact hK
      refine hoist [] [] (a1 := ?_) 53 rfl (by kernel_rfl) (.inl ⟨rfl, rfl⟩) rfl rfl rfl (fun x K hK => ?_) ?_
      rotate_left
      ·go_big_quiet_op
       exact hK
      refine hoist [] [] (a1 := ?_) 54 rfl (by kernel_rfl) (.inl ⟨rfl, rfl⟩) rfl rfl rfl (fun x K hK => ?_) ?_
      rotate_left
      ·go_big_quiet_op
       exact hK
      refine hoist [] [] (a1 := ?_) 55 rfl (by kernel_rfl) (.inl ⟨rfl, rfl⟩) rfl rfl rfl (fun x K hK => ?_) ?_
      rotate_left
      ·go_big_quiet_op
       exact hK
      refine done (by kernel_rfl) (fun xr => ?_)
      replace X7 := Lib.hid (X7.out.bw xr.bw)
      replace M7 := Lib.hid (M7.out.bw xr.bw)
      replace V7 := Lib.hid (V7.out.bw xr.bw)
      replace E7 := Lib.hid (E7.out.bw xr.bw)
      replace B7 := Lib.hid (B7.out.trans xr.bw)
      clear mo0 mzi mzp mz0 mx0 mx1 mx2 d6 d7 d8 d9 d10 d11
      generalize xr.now = w10 at *
      clear xr
      clear d12 d13
      go_upto_region 29 with (fail)
      go_loopg [15] ns2 (fun m' nx wx => ∃ i : Nat, m' = ns2 - i ∧ i ≤ ns2 ∧ nx = .int .i64 (i : Nat) ∧ Hid (BW w10 wx))
      case atStart => exact ⟨0, by omega, by omega, rfl, BW.refl _⟩
      case round =>
       obtain ⟨i, rfl, hi, rfl, B10⟩ := hrel
       have x3 := (hp_cell (X7.out.bw B10.out) 3).trans (show _ = some (.int .u32 (xs : Nat)) from rfl)
       have hll : l2.length = ns2 := E7.out.1
       by_cases hin : i < ns2
       ·have d6 : decide ((i : Int) < (ns2 : Int)) = true := by simp; omega
        have hil : i < l2.length := by omega
        obtain ⟨gq, oq, rfl, hcell⟩ := u4_cell (E7.out.bw B10.out).sq (by omega)
        have zc := hcell i hil
        have d7 : (((l2[i] : Nat) : Int) == ((xs : Nat) : Int)) = false := beq_eq_false_iff_ne.2 (fun e => hnew'.out l2[i] (List.getElem_mem hil) (by omega))
        generalize l2[i] = y at *
        clear hcell
        go_upto_region 31 with (fail)
        have mx3 : ∀ y : LaterS [] wr, _ := fun y => y.bw.cell x3
        have mzc : ∀ y : LaterS [] wr, _ := fun y => y.bw.cell zc
        clear x3 zc
        replace hll := Lib.hid hll
        try simp only [Act.put, List.setIfInBounds_toArray, List.set_cons_succ, List.set_cons_zero]
        refine wp_region_gg [] [] [] (by kernel_rfl) ?_
        refine hoist [] [] (a1 := ?_) 0 rfl (by kernel_rfl) (.inl ⟨rfl, rfl⟩) rfl rfl rfl (fun x K hK => ?_) ?_
        rotate_left
        ·go_big_quiet_op
         exact hK
        refine hoist [] [] (a1 := ?_) 1 rfl (by kernel_rfl) (.inl ⟨rfl, rfl⟩) rfl rfl rfl (fun x K hK => ?_) ?_
        rotate_left
        ·go_big_quiet_op
         exact hK
        refine hoist [] [] (a1 := ?_) 2 rfl (by kernel_rfl) (.inl ⟨rfl, rfl⟩) rfl rfl rfl (fun x K hK => ?_) ?_
        rotate_left
        ·go_big_quiet_op
         exact hK
        refine hoist [] [] (a1 := ?_) 3 rfl (by kernel_rfl) (.inl ⟨rfl, rfl⟩) rfl rfl rfl (fun x K hK => ?_) ?_
        rotate_left
        ·go_big_quiet_op
         exact hK
        refine hoist [] [] (a1 := ?_) 4 rfl (by kernel_rfl) (.inl ⟨rfl, rfl⟩) rfl rfl rfl (fun x K hK => ?_) ?_
        rotate_left
        ·go_big_quiet_op
         exact hK
        refine hoist [] [] (a1 := ?_) 5 rfl (by kernel_rfl) (.inl ⟨rfl, rfl⟩) rfl rfl rfl (fun x K hK => ?_) ?_
        rotate_left
        ·go_big_quiet_op
         exact hK
        refine hoist [] [] (a1 := ?_) 6 rfl (by kernel_rfl) (.inl ⟨rfl, rfl⟩) rfl rfl rfl (fun x K hK => ?_) ?_
        rotate_left
        ·go_big_quiet_op
         exact hK
        refine done (by kernel_rfl) (fun xr => ?_)
        replace B10 := Lib.hid (B10.out.trans xr.bw)
        clear mx3 mzc
        generalize xr.now = w11 at *
        clear xr
        go_wp2_with fail
        go_roundg (ns2 - (i + 1))
        case measure => omega
        case rel => exact ⟨i + 1, rfl, by omega, by first | rfl | (push_cast; rfl), B10⟩
       ·obtain rfl : i = ns2 := by omega
        have d6 : decide ((i : Int) < (i : Int)) = false := by simp
        have BA : BW wr (wr.alloc (.cells #[.int .u32 (xs : Nat)] 48)) := (BW.refl wr).alloc
        have L11 : Hid (Sls (wr.alloc (.cells #[.int .u32 (xs : Nat)] 48)) EU4.size (.slice (some ⟨wr.heap.size, 0, none⟩) 1 1) 1 (u32V xs)) := Lib.hid (Sls.new1 (E := EU4) wr 48 (u32V xs) rfl)
        have hb11 := B10.out.trans BA
        have M11 := Lib.hid (M7.out.bw hb11)
        have V11 := Lib.hid (V7.out.bw hb11)
        have E11 := Lib.hid (E7.out.bw hb11)
        have B11 := Lib.hid (B7.out.trans hb11)
        have hz11 := Lib.hid (Nat.le_trans (Nat.le_of_eq hbo.out.symm) B11.out.size)
        clear BA hb11 M7 V7 E7 B7 B10 X7 hll
        go_upto_region 23 with (at_builtin; go_must (refine wpList_apEQ slU4 rfl _ _ rfl bo (.slice s2 i c2) i _ rfl E11.out _ rfl 1 [xs] (u32V xs) L11.out (EL.single rfl) rfl (by omega) hz11.out (fun _ _ => trivial) ?_; intro s12 c12 w12 hc12 hm12 E12 T12 B12 G12; unfold maxLen at hm12; replace E12 := Lib.hid E12; replace T12 := Lib.hid T12; clear B12 G12))
        have M12 := Lib.hid (M11.out.st T12.out (fun hm => E11.out.ne M11.out (by decide) _ (by simpa using hm) rfl))
        have V12 := Lib.hid (V11.out.still T12.out (fun _ _ => trivial) (fun g hg hm => by
         obtain ⟨cs, hcs⟩ := E11.out.row g (by simpa using hm)
         exact V11.out.ne hcs (by decide) _ hg rfl))
        have B12 := Lib.hid (BW.stP B11.out T12.out (fun g hg => by rw [hbo.out]; exact E11.out.ge' g (by simpa using hg)))
        have hl3 : Hid (∀ y ∈ l2 ++ [xs], (∃ (s' : Nat) (q : Mem), H[s']? = some q ∧ s' < k ∧ y ∈ q.subs.map Sbs.s) ∨ y ∈ (q.subs.take (j + 1)).map Sbs.s) := Lib.hid (fun y hy => by
         rw [htk'.out, List.map_append]
         rcases List.mem_append.1 hy with hy | hy
         ·exact (hl2.out y hy).imp_right (fun h => List.mem_append_left _ h)
         ·obtain rfl := List.mem_singleton.1 hy
          exact .inr (List.mem_append_right _ (by simp)))
        clear T12 M11 V11 E11 B11 L11 hz11 x3 hl2
        try simp only [Act.put, List.setIfInBounds_toArray, List.set_cons_succ, List.set_cons_zero]
        go_wp2_with fail
        go_roundg (nq - (j + 1))
        case measure => omega
        case rel => exact ⟨j + 1, i + 1, s12, c12, l2 ++ [xs], rfl, by omega, by first | rfl | (push_cast; rfl), rfl, hm12, by omega, E12, hl3, M12, V12, B12⟩
     ·have d5 : decide ((j : Int) < (nq : Int)) = false := by simp; omega
      have hend : Hid (∀ y ∈ l2, ∃ (s' : Nat) (q : Mem), H[s']? = some q ∧ s' < k + 1 ∧ y ∈ q.subs.map Sbs.s) := Lib.hid (fun y hy => by
       rcases hl2.out y hy with ⟨s', q', e1, e2, e3⟩ | e1
       ·exact ⟨s', q', e1, by omega, e3⟩
       ·obtain ⟨x, hx, rfl⟩ := List.mem_map.1 e1
        have hx := List.mem_of_mem_take hx
        exact ⟨k, q, hq x hx, by omega, List.mem_map.2 ⟨x, hx, rfl⟩⟩)
      have z0 := hp_cell (M6.out) 0
      have z1 := hp_cell (M6.out) 1
      have z2 := hp_cell (M6.out) 2
      have z3 := hp_cell (M6.out) 3
      have z4 := hp_cell (M6.out) 4
      have z5 := hp_cell (M6.out) 5
      have z6 := hp_cell (M6.out) 6
      have z7 := hp_cell (M6.out) 7
      have z8 := hp_cell (M6.out) 8
      simp only [List.getElem?_toArray, List.getElem?_cons_zero, List.getElem?_cons_succ] at z0 z1 z2 z3 z4 z5 z6 z7 z8
      clear hq
      go_wp2_with fail
      go_roundg (6 - (k + 1))
      case measure => omega
      case rel => exact ⟨k + 1, ns2, s2, c2, l2, rfl, by omega, by first | rfl | (push_cast; rfl), rfl, hc2, by omega, E6, hend, B6⟩
   ·have d1 : decide ((k : Int) < 6) = false := by simp; omega
    go_wp2_with fail
    go_ret
    exact ⟨rfl, (B3.out.trans B4.out)⟩
end Go.Proofs.Ytebeifkgjhgmeaa
