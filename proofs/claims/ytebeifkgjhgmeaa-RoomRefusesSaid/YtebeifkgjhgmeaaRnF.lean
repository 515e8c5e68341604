/- Do of a house without seats; Member. No condition but the sizes'. -/
import Derived.Test.YtebeifkgjhgmeaaRnE
namespace Go.Proofs.Ytebeifkgjhgmeaa
open Go.RowKit
set_option maxRecDepth 100000 in
set_option maxHeartbeats 8000000 in
theorem do_none (gh c : Nat) (vS : Value) (sl : Option Addr) (kd st rm tr ow ly : Int) (nn : Nat) (sf : Option Addr) (nf cf : Nat) (w : World) (hH0 : HpB w gh (.cells #[vS, .slice sl 0 c] 64)) (hnn : nn < 18446744073709551616) :
  Calls Try.prog 9 #[.pointer (some ⟨gh, 0, none⟩), .agg (frA kd st (nn : Nat) rm tr ow ly sf nf cf)] w fun e w' => e = .returned (.tuple #[.slice none 0 0, .agg (repA nn 9 0)]) ∧ BW w w' := by
 have BA : BW w (((w.alloc (.cells (frA kd st (nn : Nat) rm tr ow ly sf nf cf) 32)).alloc (.cells #[.int .u64 0, .int .i64 0, .int .i64 0] 36)).alloc (.cells #[.int .u64 (nn : Nat), .int .i64 0, .int .i64 0] 36)) := (((BW.refl w).alloc).alloc).alloc
 have G1 := Lib.hid ((HpB.new w (.cells (frA kd st (nn : Nat) rm tr ow ly sf nf cf) 32)).bw (show BW _ (((w.alloc (.cells (frA kd st (nn : Nat) rm tr ow ly sf nf cf) 32)).alloc (.cells #[.int .u64 0, .int .i64 0, .int .i64 0] 36)).alloc (.cells #[.int .u64 (nn : Nat), .int .i64 0, .int .i64 0] 36)) from ((BW.refl _).alloc).alloc))
 have G2 := Lib.hid ((HpB.new (w.alloc (.cells (frA kd st (nn : Nat) rm tr ow ly sf nf cf) 32)) (.cells #[.int .u64 0, .int .i64 0, .int .i64 0] 36)).bw (show BW _ (((w.alloc (.cells (frA kd st (nn : Nat) rm tr ow ly sf nf cf) 32)).alloc (.cells #[.int .u64 0, .int .i64 0, .int .i64 0] 36)).alloc (.cells #[.int .u64 (nn : Nat), .int .i64 0, .int .i64 0] 36)) from (BW.refl _).alloc))
 have G3 := Lib.hid (HpB.new ((w.alloc (.cells (frA kd st (nn : Nat) rm tr ow ly sf nf cf) 32)).alloc (.cells #[.int .u64 0, .int .i64 0, .int .i64 0] 36)) (.cells #[.int .u64 (nn : Nat), .int .i64 0, .int .i64 0] 36))
 simp only [World.size_alloc] at G2 G3
 have B1 := Lib.hid BA
 have hH := Lib.hid (hH0.bw BA)
 clear BA hH0
 unfold frA at *
 go_enter Try.func9, Try.ntmps9
 go_upto_region 2 with (fail)
 generalize (((w.alloc _).alloc _).alloc _) = w1 at *
 generalize hgf : w.heap.size = gf at *
 generalize hgr : gf + 1 = gr at *
 generalize hgp : gr + 1 = gp at *
 have hnew : Hid (w.heap.size ≤ gf ∧ gf ≠ gr ∧ gf ≠ gp ∧ gr ≠ gp ∧ w.heap.size ≤ gr ∧ w.heap.size ≤ gp) := Lib.hid (by omega)
 clear hgf hgr hgp
 have cK := Lib.hid (kinds_any w1)
 go_wp2_with fail
 refine Calls.mono cK.out ?_
 rintro e w2 ⟨rfl, hb⟩
 have BA : BW w2 (w2.alloc (.cells kindA 67)) := (BW.refl w2).alloc
 replace hb := hb.trans BA
 replace G1 := Lib.hid (G1.out.bw hb)
 replace G2 := Lib.hid (G2.out.bw hb)
 replace G3 := Lib.hid (G3.out.bw hb)
 replace hH := Lib.hid (hH.out.bw hb)
 replace B1 := Lib.hid (B1.out.trans hb)
 have G4 := Lib.hid (HpB.new w2 (.cells kindA 67))
 clear hb BA cK
 dsimp only
 go_upto_region 3 with (refine swStN swKd rfl rfl rfl rfl rfl rfl (by kernel_rfl) ?_)
 generalize w2.alloc _ = w3 at *
 generalize w2.heap.size = gk at *
 have f1 := (hp_cell G1.out 1).trans (show _ = some (.int .i64 st) from rfl)
 have f2 := (hp_cell G1.out 2).trans (show _ = some (.int .u64 (nn : Nat)) from rfl)
 have z1 := (hp_cell G3.out 1).trans (show _ = some (.int .i64 0) from rfl)
 have y1 := hp_frz G3.out 1
 have cS := Lib.hid (seat_any gh vS _ 0 c st w3 hH.out)
 go_wp2_with fail
 refine Calls.mono cS.out ?_
 rintro e w4 ⟨rfl, rfl⟩
 clear cS
 rw [show (decide (0 ≤ st) && decide (st < ((0 : Nat) : Int))) = false by rw [Bool.and_eq_false_iff, decide_eq_false_iff_not, decide_eq_false_iff_not]; omega]
 dsimp only
 go_upto_region 5 with (fail)
 have G5 : Hid (HpB (w3.setCell ⟨gp, 1, none⟩ (.int .i64 9)) gp (.cells (repA nn 9 0) 36)) := Lib.hid (hp_set G3.out 1 (.int .i64 9))
 have B5 := Lib.hid (B1.out.set (g := gp) (o := 1) (v := .int .i64 9) hnew.out.2.2.2.2.2)
 have G6 := Lib.hid (G2.out.st (still_sc w3 gp 1 (.int .i64 9)) (by simpa using hnew.out.2.2.2.1))
 clear z1 y1 f1 f2 G1 G2 G3 B1 hH
 generalize w3.setCell ⟨gp, 1, none⟩ (.int .i64 9) = w5 at *
 try simp only [Act.put, List.setIfInBounds_toArray, List.set_cons_succ, List.set_cons_zero]
 refine wp_region_gg [] [] [2] (by kernel_rfl) ?_
 refine hoist [] [] (a1 := ?_) 0 rfl (by kernel_rfl) (.inl ⟨rfl, rfl⟩) rfl rfl rfl (fun x K hK => ?_) ?_
 rotate_left
 ·refine swQlC swRp rfl (by rfl) (c := repA nn 9 0) rfl (fun w' hw => by subst hw; exact (G5.out.bw x.bw).range 0 _ rfl) (by simp only [Act.put, List.setIfInBounds_toArray, List.set_cons_succ, List.set_cons_zero]; rfl) ?_
  exact hK
 refine hoist [] [] (a1 := ?_) 1 rfl (by kernel_rfl) (.inl ⟨rfl, rfl⟩) rfl rfl rfl (fun x K hK => ?_) ?_
 rotate_left
 ·go_big_quiet_op
  exact hK
 refine tail 2 rfl (by kernel_rfl) rfl (fun xr => ?_)
 simp only [List.drop_succ_cons, List.drop_zero]
 replace B5 := Lib.hid (B5.out.trans xr.bw)
 replace G6 := Lib.hid (G6.out.bw xr.bw)
 clear G5
 generalize xr.now = w6 at *
 have G7 := G6.out.rowS (repA nn 9 0)
 have B7 := Lib.hid (B5.out.row hnew.out.2.2.2.2.1 (repA nn 9 0))
 go_wp2_with (refine swSt swRp rfl rfl rfl rfl G6.out rfl rfl (by kernel_rfl) ?_)
 have q0 := (hp_cell G7 0).trans (show _ = some (.int .u64 (nn : Nat)) from rfl)
 have q1 := (hp_cell G7 1).trans (show _ = some (.int .i64 9) from rfl)
 have q2 := (hp_cell G7 2).trans (show _ = some (.int .i64 0) from rfl)
 refine bodyPost_ret (v := .tuple #[.slice none 0 0, .agg #[.int .u64 (nn : Nat), .int .i64 9, .int .i64 0]]) ?_ rfl ⟨rfl, B7.out⟩
 simp [results, Try.results9, go_sem, q0, q1, q2]
theorem swMb : SwT 45 9 := ⟨⟨_, Try.underlying45, rfl, rfl⟩, by kernel_rfl⟩
def memA (m : Mem) (va vb vs : Value) : Array Value := (memC m va vb vs).toArray
def mem0A : Array Value := #[.int .i64 0, .bool false, .int .i64 0, .slice none 0 0, .bool false, .int .i64 0, .slice none 0 0, .slice none 0 0, .int .u64 0]
set_option maxRecDepth 100000 in
set_option maxHeartbeats 8000000 in
theorem member_no (gh n c : Nat) (vS : Value) (sl : Option Addr) (k : Int) (w : World) (hH : HpB w gh (.cells #[vS, .slice sl n c] 64)) (hk : ¬ (0 ≤ k ∧ k < (n : Int))) :
  Calls Try.prog 10 #[.pointer (some ⟨gh, 0, none⟩), .int .i64 k] w fun e w' => e = .returned (.tuple #[.agg mem0A, .bool false]) ∧ BW w w' := by
 have cS := Lib.hid (fun (y : World) (hy : BW w y) => seat_any gh vS sl n c k y (hH.bw hy))
 have hb : (decide (0 ≤ k) && decide (k < (n : Int))) = false := by
  rw [← Bool.not_eq_true, Bool.and_eq_true, decide_eq_true_eq, decide_eq_true_eq]; exact hk
 rw [hb] at cS
 have BA : BW w (w.alloc (.cells mem0A 45)) := (BW.refl w).alloc
 have X1 := Lib.hid (HpB.new w (.cells mem0A 45))
 have cS1 := Lib.hid (cS.out _ BA)
 have B1 := Lib.hid BA
 clear hk hb hH cS BA
 unfold mem0A at *
 go_enter Try.func10, Try.ntmps10
 go_wp2_with fail
 refine Calls.mono cS1.out ?_
 rintro e w1 ⟨rfl, rfl⟩
 clear cS1
 generalize w.alloc _ = w1 at *
 generalize hgx : w.heap.size = gx at *
 have X2 := Lib.hid (X1.out.rowS mem0A)
 have B2 := Lib.hid (B1.out.row (Nat.le_of_eq hgx) mem0A)
 unfold mem0A at *
 dsimp only
 go_wp2_with (refine swSt swMb rfl rfl rfl rfl X1.out rfl rfl (by kernel_rfl) ?_)
 have q0 := hp_cell (X2.out) 0
 have q1 := hp_cell (X2.out) 1
 have q2 := hp_cell (X2.out) 2
 have q3 := hp_cell (X2.out) 3
 have q4 := hp_cell (X2.out) 4
 have q5 := hp_cell (X2.out) 5
 have q6 := hp_cell (X2.out) 6
 have q7 := hp_cell (X2.out) 7
 have q8 := hp_cell (X2.out) 8
 simp only [List.getElem?_toArray, List.getElem?_cons_zero, List.getElem?_cons_succ] at q0 q1 q2 q3 q4 q5 q6 q7 q8
 refine bodyPost_ret (v := .tuple #[.agg mem0A, .bool false]) ?_ rfl ⟨rfl, B2.out⟩
 simp [results, Try.results10, go_sem, mem0A, q0, q1, q2, q3, q4, q5, q6, q7, q8]
set_option maxRecDepth 100000 in
set_option maxHeartbeats 8000000 in
theorem member_ok (base gh gl o n c i : Nat) (vS : Value) (S : List (List Nat)) (L : List (Mem × Value)) (hi : i < L.length) (h4 : L[i].1.subs.length ≤ 4) (hp2 : L[i].1.a.p.length ≤ 4 ∧ L[i].1.b.p.length ≤ 4) (w : World) (hH : HouseV w base gh vS (.slice (some ⟨gl, o, none⟩) n c) S L) :
  Calls Try.prog 10 #[.pointer (some ⟨gh, 0, none⟩), .int .i64 (i : Nat)] w fun e w' => ∃ va vb vs, e = .returned (.tuple #[.agg (memA L[i].1 va vb vs), .bool true]) ∧ EQ I1 3 w' w.heap.size va L[i].1.a.p.length L[i].1.a.p ∧ EQ I1 3 w' w.heap.size vb L[i].1.b.p.length L[i].1.b.p ∧ EQ ESb 50 w' w.heap.size vs L[i].1.subs.length L[i].1.subs ∧ BW w w' := by
 have hln : n = L.length := by
  obtain ⟨_, _, e, _⟩ := hH.mb.len
  cases e; rfl
 have hcn : n ≤ c ∧ c ≤ maxLen := by
  obtain ⟨_, _, e, k1, k2⟩ := hH.mb.len
  cases e
  exact ⟨by rw [hln]; exact k1, k2⟩
 unfold maxLen at hcn
 obtain ⟨hcn1, hcn2⟩ := hcn
 have hin : i < n := by omega
 obtain ⟨va, vb, hm, hva, hvb⟩ := hH.mem i hi
 have hvs := hH.sb L[i] (List.getElem_mem hi)
 obtain ⟨sa, ca, rfl, -, -⟩ := hva.len
 obtain ⟨sb, cb, rfl, -, -⟩ := hvb.len
 obtain ⟨ss, cs, hss, -, -⟩ := hvs.len
 rw [hss] at hvs hm
 have hR := rangeAt_of (c := memA L[i].1 (.slice sa L[i].1.a.p.length ca) (.slice sb L[i].1.b.p.length cb) (.slice ss L[i].1.subs.length cs)) (n := 9) (fun j hj => (hm j hj).trans (by unfold memA; rw [List.getElem?_toArray])) rfl
 have cS := Lib.hid (fun (y : World) (hy : BW w y) => seat_any gh vS _ n c (i : Nat) y (hH.hp.bw hy))
 rw [show (decide (0 ≤ ((i : Nat) : Int)) && decide (((i : Nat) : Int) < (n : Int))) = true by rw [decide_eq_true (by omega), decide_eq_true (by omega)]; rfl] at cS
 have BA : BW w (w.alloc (.cells mem0A 45)) := (BW.refl w).alloc
 have X1 := Lib.hid (HpB.new w (.cells mem0A 45))
 have cS1 := Lib.hid (cS.out _ BA)
 have B1 := Lib.hid BA
 have hHp := Lib.hid hH.hp
 unfold memA at *
 clear hH cS BA hm
 generalize hL0 : L[i].1 = L0 at *
 clear hL0 hss hi
 obtain ⟨mr, ⟨ais, ac, ap⟩, ⟨bis, bc, bp⟩, ms, mn⟩ := L0
 dsimp only [memC] at *
 replace hva := Lib.hid hva
 replace hvb := Lib.hid hvb
 replace hvs := Lib.hid hvs
 replace hR := Lib.hid hR
 obtain ⟨hp2a, hp2b⟩ := hp2
 generalize hna : ap.length = na at *
 generalize hnb : bp.length = nb at *
 generalize hns : ms.length = ns at *
 replace hna := Lib.hid hna
 replace hnb := Lib.hid hnb
 replace hns := Lib.hid hns
 replace hln := Lib.hid hln
 unfold mem0A at *
 go_enter Try.func10, Try.ntmps10
 go_wp2_with fail
 refine Calls.mono cS1.out ?_
 rintro e w1 ⟨rfl, rfl⟩
 clear cS1
 generalize w.alloc _ = w1 at *
 generalize hgx : w.heap.size = gx at *
 replace hR := Lib.hid (rangeAt_bw hR.out B1.out)
 have zh := (hp_cell (hHp.out.bw B1.out) 1).trans (show _ = some (.slice (some ⟨gl, o, none⟩) n c) from rfl)
 dsimp only
 go_upto_region 4 with (first | (refine swLdC swMb rfl rfl rfl hR.out rfl ?_) | (refine swStN swMb rfl rfl rfl rfl rfl rfl (by kernel_rfl) ?_))
 have BA : BW w1 (w1.alloc (.cells #[.int .i64 mr, .bool ais, .int .i64 ac, .slice sa na ca, .bool bis, .int .i64 bc, .slice sb nb cb, .slice ss ns cs, .int .u64 (mn : Nat)] 45)) := (BW.refl w1).alloc
 have Y2 := Lib.hid (HpB.new w1 (.cells #[.int .i64 mr, .bool ais, .int .i64 ac, .slice sa na ca, .bool bis, .int .i64 bc, .slice sb nb cb, .slice ss ns cs, .int .u64 (mn : Nat)] 45))
 have X2 := Lib.hid (X1.out.bw BA)
 have B2 := Lib.hid (B1.out.trans BA)
 have hgy0 : Hid (gx < w1.heap.size ∧ w.heap.size ≤ w1.heap.size) := Lib.hid ⟨X1.out.lt, B1.out.size⟩
 clear BA X1 B1 hR zh
 generalize w1.alloc _ = w2 at *
 generalize hgy : w1.heap.size = gy at *
 have hgyx : Hid (gx ≠ gy ∧ w.heap.size ≤ gy) := Lib.hid (by have := hgy0.out; omega)
 clear hgy0
 replace hgx := Lib.hid hgx
 replace hgy := Lib.hid hgy
 have z7 := (hp_cell Y2.out 7).trans (show _ = some (.slice ss ns cs) from rfl)
 have cK := Lib.hid (clsub base ns cs ss ms w2 ((hvs.out.bw B2.out).sq) (by omega))
 try simp only [Act.put, List.setIfInBounds_toArray, List.set_cons_succ, List.set_cons_zero]
 go_wp2_with fail
 refine Calls.mono cK.out ?_
 rintro e w3 ⟨s3, c3, rfl, K3, hb3⟩
 have Y3 := Y2.out.bw hb3
 have z7 := (hp_cell Y3 7).trans (show _ = some (.slice ss ns cs) from rfl)
 have y7 := hp_frz Y3 7
 have T4 := still_sc w3 gy 7 (.slice s3 ns c3)
 have Y4 : Hid (HpB (w3.setCell ⟨gy, 7, none⟩ (.slice s3 ns c3)) gy (.cells #[.int .i64 mr, .bool ais, .int .i64 ac, .slice sa na ca, .bool bis, .int .i64 bc, .slice sb nb cb, .slice s3 ns c3, .int .u64 (mn : Nat)] 45)) := Lib.hid (hp_set Y3 7 (.slice s3 ns c3))
 have X4 := Lib.hid ((X2.out.bw hb3).st T4 (by simpa using hgyx.out.1))
 have K3' := K3.up (Nat.le_trans (Nat.le_of_eq hgx.out.symm) B2.out.size)
 have E4 := Lib.hid (K3'.still T4 (fun _ _ => trivial) (fun g hg hm => by
  obtain rfl := List.mem_singleton.1 hm
  exact K3'.ne Y3 (by decide) g hg rfl))
 have B4 := Lib.hid (BW.stP (B2.out.trans hb3) T4 (fun g hg => by
  obtain rfl := List.mem_singleton.1 hg
  exact hgyx.out.2))
 clear T4 K3 K3' Y3 cK Y2 X2 B2 hb3
 dsimp only
 go_upto_region 6 with (fail)
 clear z7 y7
 generalize w3.setCell ⟨gy, 7, none⟩ (.slice s3 ns c3) = w4 at *
 go_loopg [24] 2 (fun m' ix wx => ∃ (k : Nat) (v3 v6 : Value), m' = 2 - k ∧ k ≤ 2 ∧ ix = .int .i64 (k : Nat) ∧ Hid (HpB wx gy (.cells #[.int .i64 mr, .bool ais, .int .i64 ac, v3, .bool bis, .int .i64 bc, v6, .slice s3 ns c3, .int .u64 (mn : Nat)] 45)) ∧ Hid (HpB wx gx (.cells #[.int .i64 0, .bool false, .int .i64 0, .slice none 0 0, .bool false, .int .i64 0, .slice none 0 0, .slice none 0 0, .int .u64 0] 45)) ∧ Hid (EQ ESb 50 wx gx (.slice s3 ns c3) ns ms) ∧ Hid (BW w wx) ∧ Hid (if 1 ≤ k then EQ I1 3 wx gx v3 na ap else v3 = .slice sa na ca) ∧ Hid (if 2 ≤ k then EQ I1 3 wx gx v6 nb bp else v6 = .slice sb nb cb))
 case atStart => exact ⟨0, .slice sa na ca, .slice sb nb cb, by omega, by omega, rfl, Y4, X4, E4, B4, rfl, rfl⟩
 case round =>
  clear Y4 X4 E4 B4
  obtain ⟨k, v3, v6, rfl, hk, rfl, Y4, X4, E4, B4, a3, b3⟩ := hrel
  obtain rfl | rfl | rfl : k = 0 ∨ k = 1 ∨ k = 2 := by omega
  ·have e3 : v3 = .slice sa na ca := by simpa using a3.out
   have e6 : v6 = .slice sb nb cb := by simpa using b3.out
   subst e3 e6
   have cK := Lib.hid (clint base na ca sa ap wr ((hva.out.bw B4.out).sq) (by omega))
   have z0 := hp_cell (Y4.out) 0
   have y0 := hp_frz (Y4.out) 0
   have z1 := hp_cell (Y4.out) 1
   have y1 := hp_frz (Y4.out) 1
   have z2 := hp_cell (Y4.out) 2
   have y2 := hp_frz (Y4.out) 2
   have z3 := hp_cell (Y4.out) 3
   have y3 := hp_frz (Y4.out) 3
   have z4 := hp_cell (Y4.out) 4
   have y4 := hp_frz (Y4.out) 4
   have z5 := hp_cell (Y4.out) 5
   have y5 := hp_frz (Y4.out) 5
   have z6 := hp_cell (Y4.out) 6
   have y6 := hp_frz (Y4.out) 6
   have z7 := hp_cell (Y4.out) 7
   have y7 := hp_frz (Y4.out) 7
   have z8 := hp_cell (Y4.out) 8
   have y8 := hp_frz (Y4.out) 8
   simp only [List.getElem?_toArray, List.getElem?_cons_zero, List.getElem?_cons_succ] at z0 z1 z2 z3 z4 z5 z6 z7 z8
   go_wp2_with fail
   refine Calls.mono cK.out ?_
   rintro e w5 ⟨s5, c5, rfl, K5, hb5⟩
   have Y5 := Y4.out.bw hb5
   clear cK
   clear z0 z1 z2 z3 z4 z5 z6 z7 z8 y0 y1 y2 y3 y4 y5 y6 y7 y8
   have z0 := hp_cell (Y5) 0
   have y0 := hp_frz (Y5) 0
   have z1 := hp_cell (Y5) 1
   have y1 := hp_frz (Y5) 1
   have z2 := hp_cell (Y5) 2
   have y2 := hp_frz (Y5) 2
   have z3 := hp_cell (Y5) 3
   have y3 := hp_frz (Y5) 3
   have z4 := hp_cell (Y5) 4
   have y4 := hp_frz (Y5) 4
   have z5 := hp_cell (Y5) 5
   have y5 := hp_frz (Y5) 5
   have z6 := hp_cell (Y5) 6
   have y6 := hp_frz (Y5) 6
   have z7 := hp_cell (Y5) 7
   have y7 := hp_frz (Y5) 7
   have z8 := hp_cell (Y5) 8
   have y8 := hp_frz (Y5) 8
   simp only [List.getElem?_toArray, List.getElem?_cons_zero, List.getElem?_cons_succ] at z0 z1 z2 z3 z4 z5 z6 z7 z8
   have T6 := still_sc w5 gy 3 (.slice s5 na c5)
   have Y6 := Lib.hid (hp_set Y5 3 (.slice s5 na c5))
   have X6 := Lib.hid ((X4.out.bw hb5).st T6 (by simpa using hgyx.out.1))
   have hny : ∀ {α : Type} {E : Elt α} {t : TypeId} {v : Value} {m : Nat} {l : List α}, EQ E t w5 gx v m l → 45 ≠ t → ∀ g, v.ownBlock = some g → g ∉ [gy] := fun hq ht g hg hm => by
    obtain rfl := List.mem_singleton.1 hm
    exact hq.ne Y5 ht g hg rfl
   have E5 := E4.out.bw hb5
   have E6 := Lib.hid (E5.still T6 (fun _ _ => trivial) (hny E5 (by decide)))
   have K5' := K5.up (Nat.le_trans (Nat.le_of_eq hgx.out.symm) B4.out.size)
   have K6 := Lib.hid (K5'.still T6 (fun _ _ => trivial) (hny K5' (by decide)))
   have B6 := Lib.hid (BW.stP (B4.out.trans hb5) T6 (fun g hg => by
    obtain rfl := List.mem_singleton.1 hg
    exact hgyx.out.2))
   clear T6 hny E5 K5 K5' Y5 Y4 X4 E4 B4 hb5 a3 b3
   dsimp only
   go_wp2_with fail
   go_roundg 1
   case measure => omega
   case rel => exact ⟨1, .slice s5 na c5, .slice sb nb cb, rfl, by omega, rfl, Y6, X6, E6, B6, K6, rfl⟩
  ·have K3 : EQ I1 3 wr gx v3 na ap := by simpa using a3.out
   have e6 : v6 = .slice sb nb cb := by simpa using b3.out
   obtain ⟨s3v, c3v, rfl, -, -⟩ := K3.len
   subst e6
   replace K3 := Lib.hid K3
   have cK := Lib.hid (clint base nb cb sb bp wr ((hvb.out.bw B4.out).sq) (by omega))
   have z0 := hp_cell (Y4.out) 0
   have y0 := hp_frz (Y4.out) 0
   have z1 := hp_cell (Y4.out) 1
   have y1 := hp_frz (Y4.out) 1
   have z2 := hp_cell (Y4.out) 2
   have y2 := hp_frz (Y4.out) 2
   have z3 := hp_cell (Y4.out) 3
   have y3 := hp_frz (Y4.out) 3
   have z4 := hp_cell (Y4.out) 4
   have y4 := hp_frz (Y4.out) 4
   have z5 := hp_cell (Y4.out) 5
   have y5 := hp_frz (Y4.out) 5
   have z6 := hp_cell (Y4.out) 6
   have y6 := hp_frz (Y4.out) 6
   have z7 := hp_cell (Y4.out) 7
   have y7 := hp_frz (Y4.out) 7
   have z8 := hp_cell (Y4.out) 8
   have y8 := hp_frz (Y4.out) 8
   simp only [List.getElem?_toArray, List.getElem?_cons_zero, List.getElem?_cons_succ] at z0 z1 z2 z3 z4 z5 z6 z7 z8
   go_wp2_with fail
   refine Calls.mono cK.out ?_
   rintro e w5 ⟨s5, c5, rfl, K5, hb5⟩
   have Y5 := Y4.out.bw hb5
   clear cK
   clear z0 z1 z2 z3 z4 z5 z6 z7 z8 y0 y1 y2 y3 y4 y5 y6 y7 y8
   have z0 := hp_cell (Y5) 0
   have y0 := hp_frz (Y5) 0
   have z1 := hp_cell (Y5) 1
   have y1 := hp_frz (Y5) 1
   have z2 := hp_cell (Y5) 2
   have y2 := hp_frz (Y5) 2
   have z3 := hp_cell (Y5) 3
   have y3 := hp_frz (Y5) 3
   have z4 := hp_cell (Y5) 4
   have y4 := hp_frz (Y5) 4
   have z5 := hp_cell (Y5) 5
   have y5 := hp_frz (Y5) 5
   have z6 := hp_cell (Y5) 6
   have y6 := hp_frz (Y5) 6
   have z7 := hp_cell (Y5) 7
   have y7 := hp_frz (Y5) 7
   have z8 := hp_cell (Y5) 8
   have y8 := hp_frz (Y5) 8
   simp only [List.getElem?_toArray, List.getElem?_cons_zero, List.getElem?_cons_succ] at z0 z1 z2 z3 z4 z5 z6 z7 z8
   have T6 := still_sc w5 gy 6 (.slice s5 nb c5)
   have Y6 := Lib.hid (hp_set Y5 6 (.slice s5 nb c5))
   have X6 := Lib.hid ((X4.out.bw hb5).st T6 (by simpa using hgyx.out.1))
   have hny : ∀ {α : Type} {E : Elt α} {t : TypeId} {v : Value} {m : Nat} {l : List α}, EQ E t w5 gx v m l → 45 ≠ t → ∀ g, v.ownBlock = some g → g ∉ [gy] := fun hq ht g hg hm => by
    obtain rfl := List.mem_singleton.1 hm
    exact hq.ne Y5 ht g hg rfl
   have E5 := E4.out.bw hb5
   have E6 := Lib.hid (E5.still T6 (fun _ _ => trivial) (hny E5 (by decide)))
   have K5' := K5.up (Nat.le_trans (Nat.le_of_eq hgx.out.symm) B4.out.size)
   have K6 := Lib.hid (K5'.still T6 (fun _ _ => trivial) (hny K5' (by decide)))
   have K3b := K3.out.bw hb5
   have K3c := Lib.hid (K3b.still T6 (fun _ _ => trivial) (hny K3b (by decide)))
   clear K3b K3
   have B6 := Lib.hid (BW.stP (B4.out.trans hb5) T6 (fun g hg => by
    obtain rfl := List.mem_singleton.1 hg
    exact hgyx.out.2))
   clear T6 hny E5 K5 K5' Y5 Y4 X4 E4 B4 hb5 a3 b3
   dsimp only
   go_wp2_with fail
   go_roundg 0
   case measure => omega
   case rel => exact ⟨2, .slice s3v na c3v, .slice s5 nb c5, rfl, by omega, rfl, Y6, X6, E6, B6, K3c, K6⟩
  ·have K3 : EQ I1 3 wr gx v3 na ap := by simpa using a3.out
   have K6 : EQ I1 3 wr gx v6 nb bp := by simpa using b3.out
   obtain ⟨s3v, c3v, rfl, -, -⟩ := K3.len
   obtain ⟨s6v, c6v, rfl, -, -⟩ := K6.len
   clear a3 b3
   have X8 := Lib.hid (X4.out.rowS #[.int .i64 mr, .bool ais, .int .i64 ac, .slice s3v na c3v, .bool bis, .int .i64 bc, .slice s6v nb c6v, .slice s3 ns c3, .int .u64 (mn : Nat)])
   have T8 := still_rowS wr gx #[.int .i64 mr, .bool ais, .int .i64 ac, .slice s3v na c3v, .bool bis, .int .i64 bc, .slice s6v nb c6v, .slice s3 ns c3, .int .u64 (mn : Nat)]
   have hnx : ∀ {α : Type} {E : Elt α} {t : TypeId} {v : Value} {m : Nat} {l : List α}, EQ E t wr gx v m l → 45 ≠ t → ∀ g, v.ownBlock = some g → g ∉ [gx] := fun hq ht g hg hm => by
    obtain rfl := List.mem_singleton.1 hm
    exact hq.ne X4.out ht g hg rfl
   have K3' := Lib.hid (K3.still T8 (fun _ _ => trivial) (hnx K3 (by decide)))
   have K6' := Lib.hid (K6.still T8 (fun _ _ => trivial) (hnx K6 (by decide)))
   have E8 := Lib.hid (E4.out.still T8 (fun _ _ => trivial) (hnx E4.out (by decide)))
   have B8 := Lib.hid (B4.out.row (Nat.le_of_eq hgx.out) #[.int .i64 mr, .bool ais, .int .i64 ac, .slice s3v na c3v, .bool bis, .int .i64 bc, .slice s6v nb c6v, .slice s3 ns c3, .int .u64 (mn : Nat)])
   clear T8 hnx K3 K6 E4 B4
   go_wp2_with (first | (refine swLdM swMb rfl rfl rfl (Y4.out.range 0 [.int .i64 mr, .bool ais, .int .i64 ac, .slice s3v na c3v, .bool bis, .int .i64 bc, .slice s6v nb c6v, .slice s3 ns c3, .int .u64 (mn : Nat)] rfl) rfl ?_) | (refine swSt swMb rfl rfl rfl rfl X4.out rfl rfl (by kernel_rfl) ?_))
   have q0 := hp_cell (X8.out) 0
   have q1 := hp_cell (X8.out) 1
   have q2 := hp_cell (X8.out) 2
   have q3 := hp_cell (X8.out) 3
   have q4 := hp_cell (X8.out) 4
   have q5 := hp_cell (X8.out) 5
   have q6 := hp_cell (X8.out) 6
   have q7 := hp_cell (X8.out) 7
   have q8 := hp_cell (X8.out) 8
   simp only [List.getElem?_toArray, List.getElem?_cons_zero, List.getElem?_cons_succ] at q0 q1 q2 q3 q4 q5 q6 q7 q8
   refine bodyPost_ret (v := .tuple #[.agg #[.int .i64 mr, .bool ais, .int .i64 ac, .slice s3v na c3v, .bool bis, .int .i64 bc, .slice s6v nb c6v, .slice s3 ns c3, .int .u64 (mn : Nat)], .bool true]) ?_ rfl ⟨.slice s3v na c3v, .slice s6v nb c6v, .slice s3 ns c3, rfl, by rw [hgx.out]; exact K3'.out, by rw [hgx.out]; exact K6'.out, by rw [hgx.out]; exact E8.out, B8.out⟩
   simp [results, Try.results10, go_sem, q0, q1, q2, q3, q4, q5, q6, q7, q8]
end Go.Proofs.Ytebeifkgjhgmeaa
