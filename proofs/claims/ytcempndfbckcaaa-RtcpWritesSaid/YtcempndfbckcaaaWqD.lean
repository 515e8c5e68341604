/- The reference's One: the bytes of any packet that may be. No condition but the sizes'. -/
import Derived.Test.YtcempndfbckcaaaWqS
namespace Go.Proofs.Ytcempndfbckcaaa
open Go.RowKit
set_option maxRecDepth 100000 in
set_option maxHeartbeats 8000000 in
theorem rone_gen (k : Int) (s m t st pk oc rt : Nat) (ar an as_ al af : Option Addr) (nr nn ns nl nf cr cn cs cl_ cf : Nat) (reps : List Rep) (nams : List (Nat × List Nat)) (srcs : List Nat) (loss firs : List (Nat × Nat)) (hM : mayC ⟨k, s, m, t, st, pk, oc, reps, nams, srcs, loss, firs, rt⟩ = true) (wf : CtlWf ⟨k, s, m, t, st, pk, oc, reps, nams, srcs, loss, firs, rt⟩) (sm : CtlSm ⟨k, s, m, t, st, pk, oc, reps, nams, srcs, loss, firs, rt⟩) (w : World) (r1 : SQ ER w 0 (.slice ar nr cr) nr reps) (r2 : SQ EM w 0 (.slice an nn cn) nn nams) (r3 : SQ ES w 0 (.slice as_ ns cs) ns srcs) (r4 : SQ EO w 0 (.slice al nl cl_) nl loss) (r5 : SQ EF w 0 (.slice af nf cf) nf firs) :
  Calls Try.prog 88 #[.agg #[.int .i64 k, .int .u32 (s : Nat), .int .u32 (m : Nat), .int .u64 (t : Nat), .int .u32 (st : Nat), .int .u32 (pk : Nat), .int .u32 (oc : Nat), .slice ar nr cr, .slice an nn cn, .slice as_ ns cs, .slice al nl cl_, .slice af nf cf, .int .u64 (rt : Nat)], .int .u64 (manN rt : Nat), .int .i64 (expN rt : Nat)] w fun e w' => ∃ q c, e = .returned (.slice q (partB ⟨k, s, m, t, st, pk, oc, reps, nams, srcs, loss, firs, rt⟩).length c) ∧ OB w' w.heap.size 5 (.slice q (partB ⟨k, s, m, t, st, pk, oc, reps, nams, srcs, loss, firs, rt⟩).length c) (partB ⟨k, s, m, t, st, pk, oc, reps, nams, srcs, loss, firs, rt⟩).length (partB ⟨k, s, m, t, st, pk, oc, reps, nams, srcs, loss, firs, rt⟩) ∧ BW w w' := by
 obtain ⟨hk, e1, e2, e3, e4, e5, hbr, hbn⟩ := may_len hM
 obtain ⟨b1, b2, b3, b4, b5, b6, b7, b8, b9, b10, b11, b12, b13⟩ := wf
 obtain ⟨q1, q2, q3, q4, q5, q6⟩ := sm
 obtain ⟨bd1, bd2, bd3⟩ := may_bnd hM ⟨q1, q2, q3, q4, q5, q6⟩
 have l1 := Lib.hid r1.1
 have l2 := Lib.hid r2.1
 have l3 := Lib.hid r3.1
 have l4 := Lib.hid r4.1
 have l5 := Lib.hid r5.1
 have hPB : partB ⟨k, s, m, t, st, pk, oc, reps, nams, srcs, loss, firs, rt⟩ = ([128 + (hdrW ⟨k, s, m, t, st, pk, oc, reps, nams, srcs, loss, firs, rt⟩).2, (hdrW ⟨k, s, m, t, st, pk, oc, reps, nams, srcs, loss, firs, rt⟩).1] ++ putB 2 ((bodyW ⟨k, s, m, t, st, pk, oc, reps, nams, srcs, loss, firs, rt⟩).length / 4)) ++ bodyW ⟨k, s, m, t, st, pk, oc, reps, nams, srcs, loss, firs, rt⟩ := rfl
 dsimp only at b1 b2 b3 b4 b5 b6 b7 b8 b9 b10 b11 b12 b13 q1 q2 q3 q4 q5 q6 hk e1 e2 e3 e4 e5 hbr hbn
 have hL1 := r1.1
 have hL2 := r2.1
 have hL3 := r3.1
 have hL4 := r4.1
 have hL5 := r5.1
 simp only [hL1, hL2, hL3, hL4, hL5] at q1 q2 q3 q4 q5 e1 e2 e3 e4 e5
 clear hL1 hL2 hL3 hL4 hL5
 have hlos := Lib.hid (any_badR hbr)
 have hnms := Lib.hid (any_badN hbn)
 have hmnl := manN_lt rt
 have hexl := expN_le rt b8
 have hRB : rembB s rt srcs = (((wordsB [s, 0] ++ [82, 69, 77, 66]) ++ putB 1 srcs.length) ++ putB 3 (expN rt * 262144 + manN rt)) ++ wordsB srcs := rfl
 obtain ⟨hd, hHd⟩ : ∃ hd, hdrW ⟨k, s, m, t, st, pk, oc, reps, nams, srcs, loss, firs, rt⟩ = hd := ⟨_, rfl⟩
 obtain ⟨bw, hBw⟩ : ∃ bw, bodyW ⟨k, s, m, t, st, pk, oc, reps, nams, srcs, loss, firs, rt⟩ = bw := ⟨_, rfl⟩
 obtain ⟨pb, hPb⟩ : ∃ pb, partB ⟨k, s, m, t, st, pk, oc, reps, nams, srcs, loss, firs, rt⟩ = pb := ⟨_, rfl⟩
 rw [hHd, hBw, hPb] at hPB
 rw [hBw] at bd3
 rw [hHd] at bd1 bd2
 rw [hPb]
 generalize hmn : manN rt = mn at *
 generalize hex : expN rt = ex at *
 have hml : (mn : Int) ≤ 262143 := by omega
 have hel : (ex : Int) ≤ 46 := by omega
 obtain ⟨q, hq⟩ : ∃ q, ex * 262144 + mn = q := ⟨_, rfl⟩
 rw [hq] at hRB
 have hql : q < 18446744073709551616 := by omega
 have BA : BW w (w.alloc (.cells #[.int .i64 k, .int .u32 (s : Nat), .int .u32 (m : Nat), .int .u64 (t : Nat), .int .u32 (st : Nat), .int .u32 (pk : Nat), .int .u32 (oc : Nat), .slice ar nr cr, .slice an nn cn, .slice as_ ns cs, .slice al nl cl_, .slice af nf cf, .int .u64 (rt : Nat)] 111)) := (BW.refl w).alloc
 have P := Lib.hid (HpB.new w (.cells #[.int .i64 k, .int .u32 (s : Nat), .int .u32 (m : Nat), .int .u64 (t : Nat), .int .u32 (st : Nat), .int .u32 (pk : Nat), .int .u32 (oc : Nat), .slice ar nr cr, .slice an nn cn, .slice as_ ns cs, .slice al nl cl_, .slice af nf cf, .int .u64 (rt : Nat)] 111))
 have BX := Lib.hid BA
 replace r1 := Lib.hid (r1.bw BA)
 replace r2 := Lib.hid (r2.bw BA)
 replace r3 := Lib.hid (r3.bw BA)
 replace r4 := Lib.hid (r4.bw BA)
 replace r5 := Lib.hid (r5.bw BA)
 clear hM hbr hbn
 replace BA := Lib.hid BA
 replace hHd := Lib.hid hHd
 replace hBw := Lib.hid hBw
 replace hPb := Lib.hid hPb
 replace hPB := Lib.hid hPB
 replace bd1 := Lib.hid bd1
 replace bd2 := Lib.hid bd2
 replace bd3 := Lib.hid bd3
 replace hRB := Lib.hid hRB
 replace hq := Lib.hid hq
 replace b9 := Lib.hid b9
 replace b10 := Lib.hid b10
 replace b11 := Lib.hid b11
 replace b12 := Lib.hid b12
 replace b13 := Lib.hid b13
 replace q6 := Lib.hid q6
 replace hmn := Lib.hid hmn
 replace hex := Lib.hid hex
 replace hk := Lib.hid hk
 replace e1 := Lib.hid e1
 replace e2 := Lib.hid e2
 replace e3 := Lib.hid e3
 replace e4 := Lib.hid e4
 replace e5 := Lib.hid e5
 replace hmnl := Lib.hid hmnl
 replace hexl := Lib.hid hexl
 replace hql := Lib.hid hql
 go_enter Try.func88, Try.ntmps88
 go_upto_region 1 with (fail)
 generalize (w.alloc _) = w1 at *
 generalize hgp : w.heap.size = gp at *
 clear BA
 replace hgp := Lib.hid hgp
 go_upto_region 2 with (fail)
 have m0 : ∀ y : LaterS [] w1, y.now.cell? ⟨gp, 0, none⟩ = some (.int .i64 k) := fun y => (hp_cell (P.out.bw y.bw) 0).trans rfl
 have m7 : ∀ y : LaterS [] w1, y.now.cell? ⟨gp, 7, none⟩ = some (.slice ar nr cr) := fun y => (hp_cell (P.out.bw y.bw) 7).trans rfl
 have m8 : ∀ y : LaterS [] w1, y.now.cell? ⟨gp, 8, none⟩ = some (.slice an nn cn) := fun y => (hp_cell (P.out.bw y.bw) 8).trans rfl
 have m9 : ∀ y : LaterS [] w1, y.now.cell? ⟨gp, 9, none⟩ = some (.slice as_ ns cs) := fun y => (hp_cell (P.out.bw y.bw) 9).trans rfl
 have u1 : IntKind.i64.wrap ((nr : Int) + (nn : Int)) = (nr : Int) + (nn : Int) := IntWalk.i64_in _ (by omega)
 have u2 : IntKind.i64.wrap ((nr : Int) + (nn : Int) + (ns : Int)) = (nr : Int) + (nn : Int) + (ns : Int) := IntWalk.i64_in _ (by omega)
 refine wp_region_gg [] [] [] (by kernel_rfl) ?_
 refine hoist [] [] (a1 := ?_) 0 rfl (by kernel_rfl) (.inl ⟨rfl, rfl⟩) rfl rfl rfl (fun x K hK => ?_) ?_
 rotate_left
 ·go_big_quiet_op
  exact hK
 refine hoist [] [] (a1 := ?_) 1 rfl (by kernel_rfl) (.inl ⟨rfl, rfl⟩) rfl rfl rfl (fun x K hK => ?_) ?_
 rotate_left
 ·go_big_quiet_op
  exact hK
 refine hoist [] [] (a1 := ?_) 2 rfl (by kernel_rfl) (.inl ⟨rfl, rfl⟩) rfl rfl rfl (fun x K hK => ?_) ?_
 rotate_left
 ·go_big_quiet_op
  exact hK
 refine hoist [] [] (a1 := ?_) 3 rfl (by kernel_rfl) (.inl ⟨rfl, rfl⟩) rfl rfl rfl (fun x K hK => ?_) ?_
 rotate_left
 ·go_big_quiet_op
  exact hK
 refine hoist [] [] (a1 := ?_) 4 rfl (by kernel_rfl) (.inl ⟨rfl, rfl⟩) rfl rfl rfl (fun x K hK => ?_) ?_
 rotate_left
 ·go_big_quiet_op
  exact hK
 refine hoist [] [] (a1 := ?_) 5 rfl (by kernel_rfl) (.inl ⟨rfl, rfl⟩) rfl rfl rfl (fun x K hK => ?_) ?_
 rotate_left
 ·go_big_quiet_op
  exact hK
 refine hoist [] [] (a1 := ?_) 6 rfl (by kernel_rfl) (.inl ⟨rfl, rfl⟩) rfl rfl rfl (fun x K hK => ?_) ?_
 rotate_left
 ·go_big_quiet_op
  exact hK
 refine hoist [] [] (a1 := ?_) 7 rfl (by kernel_rfl) (.inl ⟨rfl, rfl⟩) rfl rfl rfl (fun x K hK => ?_) ?_
 rotate_left
 ·go_big_quiet_op
  exact hK
 refine hoist [] [] (a1 := ?_) 8 rfl (by kernel_rfl) (.inl ⟨rfl, rfl⟩) rfl rfl rfl (fun x K hK => ?_) ?_
 rotate_left
 ·go_big_quiet_op
  exact hK
 refine hoist [] [] (a1 := ?_) 9 rfl (by kernel_rfl) (.inl ⟨rfl, rfl⟩) rfl rfl rfl (fun x K hK => ?_) ?_
 rotate_left
 ·go_big_quiet_op
  exact hK
 refine hoist [] [] (a1 := ?_) 10 rfl (by kernel_rfl) (.inl ⟨rfl, rfl⟩) rfl rfl rfl (fun x K hK => ?_) ?_
 rotate_left
 ·go_big_quiet_op
  exact hK
 refine hoist [] [] (a1 := ?_) 11 rfl (by kernel_rfl) (.inl ⟨rfl, rfl⟩) rfl rfl rfl (fun x K hK => ?_) ?_
 rotate_left
 ·go_big_quiet_op
  exact hK
 refine hoist [] [] (a1 := ?_) 12 rfl (by kernel_rfl) (.inl ⟨rfl, rfl⟩) rfl rfl rfl (fun x K hK => ?_) ?_
 rotate_left
 ·go_big_quiet_op
  exact hK
 refine hoist [] [] (a1 := ?_) 13 rfl (by kernel_rfl) (.inl ⟨rfl, rfl⟩) rfl rfl rfl (fun x K hK => ?_) ?_
 rotate_left
 ·go_big_quiet_op
  exact hK
 refine hoist [] [] (a1 := ?_) 14 rfl (by kernel_rfl) (.inl ⟨rfl, rfl⟩) rfl rfl rfl (fun x K hK => ?_) ?_
 rotate_left
 ·go_big_quiet_op
  exact hK
 refine done (by kernel_rfl) (fun xr => ?_)
 have B := Lib.hid xr.bw
 clear m0 m7 m8 m9 u1 u2
 generalize xr.now = w2 at *
 rename_i K2 hK2
 refine hK2 _ _ ?_
 refine wp_seq_k ?_
 intro K3 hK3
 clear hK2
 try simp only [Act.put, List.setIfInBounds_toArray, List.set_cons_succ, List.set_cons_zero]
 obtain ⟨L0, hL0⟩ : ∃ L0, (if k = 202 ∨ k = 203 then [] else putB 4 s) = L0 := ⟨_, rfl⟩
 replace hL0 := Lib.hid hL0
 go_cut [7] (fun v wc => ∃ (n0 : Nat) (sb : Option Addr) (cb : Nat), n0 ≤ 4 ∧ n0 % 4 = 0 ∧ v = .slice sb n0 cb ∧ n0 ≤ cb ∧ cb ≤ 9223372036854775807 ∧ Hid (OB wc w1.heap.size 5 (.slice sb n0 cb) n0 L0) ∧ Hid (BW w1 wc))
 case first =>
  have z0 := (hp_cell (P.out.bw B.out) 0).trans (show _ = some (.int .i64 k) from rfl)
  by_cases hk2 : k = 202 ∨ k = 203
  ·obtain rfl : [] = L0 := by have := hL0.out; rwa [if_pos hk2] at this
   rcases hk2 with rfl | rfl
   all_goals
    go_wp2_with fail
    go_meet
    exact ⟨0, none, 0, by omega, by omega, rfl, by omega, by omega, OB.nil _ _ _, B⟩
  ·obtain rfl : putB 4 s = L0 := by have := hL0.out; rwa [if_neg hk2] at this
   have d1 : (k != 202) = true := by simp; omega
   have d2 : (k != 203) = true := by simp; omega
   have z1 := (hp_cell (P.out.bw B.out) 1).trans (show _ = some (.int .u32 (s : Nat)) from rfl)
   have c1 := Lib.hid (rpw_ok (.slice none 0 0) 0 [] 4 s 4 (by decide) (by decide) rfl (by omega) (by omega) w2 (OB.nil w2 0 5).sb)
   clear hk2
   go_wp2_with fail
   refine Calls.mono c1.out ?_
   rintro e w3 ⟨s3, c3, rfl, hc3, O, hb⟩
   replace O := Lib.hid (O.up B.out.size)
   replace B := Lib.hid (B.out.trans hb)
   clear hb c1
   dsimp only
   go_wp2_with fail
   go_meet
   exact ⟨0 + 4, s3, c3, by omega, by omega, rfl, hc3.1, hc3.2, by rw [List.nil_append] at O; exact O, B⟩
 case rest =>
 clear B
 obtain ⟨n0, sb, cb, hn0, hm0, rfl, hc0, hc1, O, B⟩ := hcut
 rename World => w3
 go_upto_region 5 with (fail)
 have z0 := (hp_cell (P.out.bw B.out) 0).trans (show _ = some (.int .i64 k) from rfl)
 go_upto_block 0 with (fail)
 clear z0
 refine one_sw k hk.out s m t st pk oc rt ar an as_ al af nr nn ns nl nf cr cn cs cl_ cf reps nams srcs loss firs mn ex q gp n0 cb sb L0 hd bw l1 l2 l3 l4 l5 b2 b3 b4 b5 b6 b7 b12 b13 q1 q2 q3 q4 q5 hml hel hql hq hRB e1 e2 e3 e4 e5 hHd hBw hL0 hn0 hm0 hc0 hc1 w1 w3 r4 r5 P O B _ _ _ _ _ _ _ _ _ _ _ _ _ _ _ _ _ _ _ _ _ _ _ _ _ _ _ _ _ _ _ _ _ _ _ _ _ _ _ _ _ _ _ _ _ _ _ _ _ _ _ _ _ _ _ _ _ _ _ _ _ _ _ _ _ _ _ _ _ _ _ _ _ _ _ _ _ _ _ _ _ _ _ _ _ _ _ _ _ _ _ _ _ _ _ _ _ _ _ _ _ _ _ _ _ _ _ _ _ _ _ _ _ _ _ _ _ _ _ _ _ _ _ _ _ _ _ _ _ _ _ _ _ _ _ _ _ _ _ _ _ _ _ _ _ _ _ _ _ _ _ _ _ _ _ _ _ _ _ _ _ _ _ _ _ _ _ _ _ _ _ _ _ _ _ _ _ _ _ _ _ _ _ _ _ _ _ _ _ _ _ _ _ _ _ _ _ _ _ _ _ _ _ _ _ _ _ _ _ _ _ _ _ _ _ _ _ _ _ _ _ _ _ _ _ _ _ _ _ _ _ _ _ _ _ _ _ _ _ _ _ _ _ _ _ _ _ _ _ _ _ _ _ _ _ _ _ _ ?_
 refine Lib.hid ?_
 intro L sb' cb' n typ cnt y10 y11 y44 y45 y46 y47 y48 y49 y50 y51 y52 y53 y54 y55 y56 y57 y58 y59 y60 y61 y62 y63 y64 y65 y66 y67 y68 y69 y70 y71 y72 y73 y74 y75 y76 y77 y78 y79 y80 y81 y82 y83 y84 y85 y86 y87 y88 y89 y90 y91 y92 y93 y94 y95 y96 y97 y98 y99 y100 y101 y102 y103 y104 y105 y106 y107 y108 y109 y110 y111 y112 y113 y114 y115 y116 y117 y118 y119 y120 y121 y122 y123 y124 y125 y126 y127 y128 y129 y130 y131 y132 y133 y134 y135 y136 y137 y138 y139 y140 y141 y142 y143 y144 y145 y146 vt vc wc hvt hvc hc0' hc1' hn hm hho hbo O' B'
 subst hvt
 subst hvc
 clear O B hL0 hn0 hm0 hc0 hc1 e1 e2 e3 e4 e5 hk
 have O := Lib.hid O'
 have B := Lib.hid B'
 have hc0 := hc0'
 have hc1 := hc1'
 clear O' B' hc0' hc1'
 replace hho := Lib.hid hho
 replace hbo := Lib.hid hbo
 rename World => w4
 go_upto_region 35 with (fail)
 have hR9 : repsB (reps.take nr) = repsB reps := by rw [← l1.out, List.take_length]
 have hst := fun j (h : j < reps.length) => repsB_snoc reps j h
 replace hR9 := Lib.hid hR9
 replace hst := Lib.hid hst
 go_loopg [7, 12] nr (fun m' v a wx => ∃ (j : Nat) (s1 : Option Addr) (c1 : Nat), m' = nr - j ∧ j ≤ nr ∧ v = .slice s1 (n + 24 * j) c1 ∧ n + 24 * j ≤ c1 ∧ c1 ≤ 9223372036854775807 ∧ a = .int .i64 (j : Nat) ∧ Hid (OB wx w1.heap.size 5 (.slice s1 (n + 24 * j) c1) (n + 24 * j) (L ++ repsB (reps.take j))) ∧ Hid (BW w1 wx))
 case atStart => exact ⟨0, sb', cb', rfl, by omega, rfl, hc0, hc1, rfl, by show OB _ _ _ _ _ _; simpa [repsB] using O.out, B⟩
 case round =>
  clear O B
  obtain ⟨j, s1, c1, rfl, hj, rfl, hc5, hc6, rfl, O, B⟩ := hrel
  have z7 := (hp_cell (P.out.bw B.out) 7).trans (show _ = some (.slice ar nr cr) from rfl)
  by_cases hjn : j < nr
  ·have d : decide ((j : Int) < (nr : Int)) = true := by simp; omega
   have hjl : j < reps.length := by rw [l1.out]; exact hjn
   obtain ⟨ga, oa, rfl, -, hca⟩ := sq_cells (r1.out.bw B.out) (by omega)
   obtain ⟨xa, hxa, hya⟩ := hca j hjl
   replace hxa : xa = repV (reps[j]) := hxa
   replace hya : ∀ q, q < 7 → wr.cell? ⟨ga, oa + j * 7 + q, none⟩ = (repV (reps[j]))[q]? := fun q hq => by rw [← hxa]; exact hya q hq
   have hs1 := hst.out j hjl
   have hwf := b9.out _ (List.getElem_mem hjl)
   have hlo := hlos.out _ (List.getElem_mem hjl)
   clear hxa hca
   generalize reps[j] = E at *
   obtain ⟨e0, e1', lost, e3', e4', e5', e6⟩ := E
   obtain ⟨v0, v1, -, -, v3, v4, v5, v6⟩ := hwf
   obtain ⟨hlo, hhi⟩ := hlo
   dsimp only at v0 v1 v3 v4 v5 v6 hlo hhi
   obtain ⟨x, hx⟩ : ∃ x : Nat, lost + 16777216 = (x : Int) := ⟨(lost + 16777216).toNat, by omega⟩
   have hpl := put_lost lost hlo
   rw [hx, Int.toNat_natCast] at hpl
   have y0 : wr.cell? ⟨ga, oa + j * 7, none⟩ = some (.int .u32 (e0 : Nat)) := hya 0 (by decide)
   have y1 : wr.cell? ⟨ga, oa + j * 7 + 1, none⟩ = some (.int .u8 (e1' : Nat)) := hya 1 (by decide)
   have y2 : wr.cell? ⟨ga, oa + j * 7 + 2, none⟩ = some (.int .i32 lost) := hya 2 (by decide)
   have y3 : wr.cell? ⟨ga, oa + j * 7 + 3, none⟩ = some (.int .u32 (e3' : Nat)) := hya 3 (by decide)
   have y4 : wr.cell? ⟨ga, oa + j * 7 + 4, none⟩ = some (.int .u32 (e4' : Nat)) := hya 4 (by decide)
   have y5 : wr.cell? ⟨ga, oa + j * 7 + 5, none⟩ = some (.int .u32 (e5' : Nat)) := hya 5 (by decide)
   have y6 : wr.cell? ⟨ga, oa + j * 7 + 6, none⟩ = some (.int .u32 (e6 : Nat)) := hya 6 (by decide)
   clear hya
   generalize hX : L ++ repsB (reps.take j) = X at *
   have hfin : L ++ repsB (reps.take (j + 1)) = ((((((X ++ putB 4 e0) ++ putB 1 e1') ++ putB 3 x) ++ putB 4 e3') ++ putB 4 e4') ++ putB 4 e5') ++ putB 4 e6 := by
    rw [hs1, ← List.append_assoc, hX]
    simp [repW, wordsB, hpl, List.append_assoc]
   generalize hnj : n + 24 * j = nj at *
   have hnl : nj ≤ 3400 := by omega
   have hxl : x < 18446744073709551616 := by omega
   have BZ : BW wr (wr.alloc (.cells #[.int .u32 (e0 : Nat), .int .u8 (e1' : Nat), .int .i32 lost, .int .u32 (e3' : Nat), .int .u32 (e4' : Nat), .int .u32 (e5' : Nat), .int .u32 (e6 : Nat)] 187)) := (BW.refl wr).alloc
   have X1 := Lib.hid (HpB.new wr (.cells #[.int .u32 (e0 : Nat), .int .u8 (e1' : Nat), .int .i32 lost, .int .u32 (e3' : Nat), .int .u32 (e4' : Nat), .int .u32 (e5' : Nat), .int .u32 (e6 : Nat)] 187))
   have O2 := Lib.hid (O.out.bw BZ)
   have B2 := Lib.hid (B.out.trans BZ)
   replace BZ := Lib.hid BZ
   replace hfin := Lib.hid hfin
   replace hX := Lib.hid hX
   replace hnj := Lib.hid hnj
   replace hs1 := Lib.hid hs1
   replace hpl := Lib.hid hpl
   go_upto_region 38 with (refine wpList_store_new rfl 187 _ _ rfl _ #[.int .u32 (e0 : Nat), .int .u8 (e1' : Nat), .int .i32 lost, .int .u32 (e3' : Nat), .int .u32 (e4' : Nat), .int .u32 (e5' : Nat), .int .u32 (e6 : Nat)] _ rfl rfl (by kernel_rfl) rfl rfl ?_)
   generalize (wr.alloc _) = w5 at *
   clear y0 y1 y2 y3 y4 y5 y6 z7 BZ O B
   generalize wr.heap.size = gx at *
   have O := O2
   have B := B2
   clear O2 B2
   have m0 : ∀ y : LaterS [] w5, y.now.cell? ⟨gx, 0, none⟩ = some (.int .u32 (e0 : Nat)) := fun y => (hp_cell (X1.out.bw y.bw) 0).trans rfl
   have m1 : ∀ y : LaterS [] w5, y.now.cell? ⟨gx, 1, none⟩ = some (.int .u8 (e1' : Nat)) := fun y => (hp_cell (X1.out.bw y.bw) 1).trans rfl
   have BX5 := Lib.hid (BW.refl w5)
   refine wp_region_gg [] [] [9] (by kernel_rfl) ?_
   refine hoist [] [] (a1 := ?_) 0 rfl (by kernel_rfl) (.inl ⟨rfl, rfl⟩) rfl rfl rfl (fun x K hK => ?_) ?_
   rotate_left
   ·go_big_quiet_op
    exact hK
   refine hoist [] [] (a1 := ?_) 1 rfl (by kernel_rfl) (.inl ⟨rfl, rfl⟩) rfl rfl rfl (fun x K hK => ?_) ?_
   rotate_left
   ·go_big_quiet_op
    exact hK
   refine hoist [] [] (a1 := ?_) 2 rfl (by kernel_rfl) (.inl ⟨rfl, rfl⟩) rfl rfl rfl (fun x K hK => ?_) ?_
   rotate_left
   ·go_big_quiet_op
    exact hK
   refine hoist [] [] (a1 := ?_) 3 rfl (by kernel_rfl) (.inl ⟨rfl, rfl⟩) rfl rfl rfl (fun x K hK => ?_) ?_
   rotate_left
   ·go_big_quiet_op
    exact hK
   refine hoist [] [] (a1 := ?_) 5 rfl (by kernel_rfl) (.inl ⟨rfl, rfl⟩) rfl rfl rfl (fun x K hK => ?_) ?_
   rotate_left
   ·go_big_quiet_op
    exact hK
   refine hoist [] [] (a1 := ?_) 6 rfl (by kernel_rfl) (.inl ⟨rfl, rfl⟩) rfl rfl rfl (fun x K hK => ?_) ?_
   rotate_left
   ·go_big_quiet_op
    exact hK
   refine hoist [] [] (a1 := ?_) 7 rfl (by kernel_rfl) (.inl ⟨rfl, rfl⟩) rfl rfl rfl (fun x K hK => ?_) ?_
   rotate_left
   ·go_big_quiet_op
    exact hK
   refine effect 4 rfl (by kernel_rfl) (by kernel_rfl) rfl (fun x4 K hK => ?_)
   go_simp
   have hx0 := x4.bw
   have hz0 := (B.out.trans hx0).size
   refine Calls.mono (rpw_ok _ (nj) (X) 4 (e0) 4 (by decide) (by decide) rfl (by omega) (by omega) x4.now (O.out.bw hx0).sb) ?_
   rintro e w'4 ⟨s4, c4, rfl, hc4, O1, hb⟩
   refine hK _ _ (hb.still _) ?_
   clear hK K
   replace B := Lib.hid ((B.out.trans hx0).trans hb)
   replace O := Lib.hid (O1.up hz0)
   try replace BX5 := Lib.hid ((BX5.out.trans hx0).trans hb)
   clear hx0 hz0 O1 hb
   try simp only [Act.put, List.setIfInBounds_toArray, List.set_cons_succ, List.set_cons_zero]
   refine effect 8 rfl (by kernel_rfl) (by kernel_rfl) rfl (fun x8 K hK => ?_)
   go_simp
   have hx0 := x8.bw
   have hz0 := (B.out.trans hx0).size
   refine Calls.mono (rpw_ok _ (nj + 4) (X ++ putB 4 e0) 1 (e1') 1 (by decide) (by decide) rfl (by omega) (by omega) x8.now (O.out.bw hx0).sb) ?_
   rintro e w'8 ⟨s8, c8, rfl, hc8, O1, hb⟩
   refine hK _ _ (hb.still _) ?_
   clear hK K
   replace B := Lib.hid ((B.out.trans hx0).trans hb)
   replace O := Lib.hid (O1.up hz0)
   try replace BX5 := Lib.hid ((BX5.out.trans hx0).trans hb)
   clear hx0 hz0 O1 hb
   try simp only [Act.put, List.setIfInBounds_toArray, List.set_cons_succ, List.set_cons_zero]
   refine tail 9 rfl (by kernel_rfl) rfl (fun xr => ?_)
   simp only [List.drop_succ_cons, List.drop_zero]
   replace B := Lib.hid (B.out.trans xr.bw)
   replace O := Lib.hid (O.out.bw xr.bw)
   replace BX5 := Lib.hid (BX5.out.trans xr.bw)
   clear m0 m1
   generalize xr.now = w6 at *
   have X6 := X1.out.bw BX5.out
   have z2 := (hp_cell X6 2).trans (show _ = some (.int .i32 lost) from rfl)
   have c7 := Lib.hid (rpw_ok (.slice s8 (nj + 4 + 1) c8) (nj + 4 + 1) ((X ++ putB 4 e0) ++ putB 1 e1') 3 x 3 (by decide) (by decide) rfl hxl (by omega) w6 O.out.sb)
   replace X6 := Lib.hid X6
   clear hc5 hc6 hxl BX5
   go_wp2_with fail
   refine Calls.mono c7.out ?_
   rintro e w7 ⟨s7, c7', rfl, hc7, O7, hb⟩
   replace O7 := Lib.hid (O7.up B.out.size)
   replace B := Lib.hid (B.out.trans hb)
   have X7 := Lib.hid (X6.out.bw hb)
   clear hb c7 O z2
   have O := O7
   clear O7 hx
   dsimp only
   go_upto_region 40 with (fail)
   have m3 : ∀ y : LaterS [] w7, y.now.cell? ⟨gx, 3, none⟩ = some (.int .u32 (e3' : Nat)) := fun y => (hp_cell (X7.out.bw y.bw) 3).trans rfl
   have m4 : ∀ y : LaterS [] w7, y.now.cell? ⟨gx, 4, none⟩ = some (.int .u32 (e4' : Nat)) := fun y => (hp_cell (X7.out.bw y.bw) 4).trans rfl
   have m5 : ∀ y : LaterS [] w7, y.now.cell? ⟨gx, 5, none⟩ = some (.int .u32 (e5' : Nat)) := fun y => (hp_cell (X7.out.bw y.bw) 5).trans rfl
   have m6 : ∀ y : LaterS [] w7, y.now.cell? ⟨gx, 6, none⟩ = some (.int .u32 (e6 : Nat)) := fun y => (hp_cell (X7.out.bw y.bw) 6).trans rfl
   clear hlo hhi
   refine wp_region_gg [] [] [17] (by kernel_rfl) ?_
   refine hoist [] [] (a1 := ?_) 0 rfl (by kernel_rfl) (.inl ⟨rfl, rfl⟩) rfl rfl rfl (fun x K hK => ?_) ?_
   rotate_left
   ·go_big_quiet_op
    exact hK
   refine hoist [] [] (a1 := ?_) 1 rfl (by kernel_rfl) (.inl ⟨rfl, rfl⟩) rfl rfl rfl (fun x K hK => ?_) ?_
   rotate_left
   ·go_big_quiet_op
    exact hK
   refine hoist [] [] (a1 := ?_) 2 rfl (by kernel_rfl) (.inl ⟨rfl, rfl⟩) rfl rfl rfl (fun x K hK => ?_) ?_
   rotate_left
   ·go_big_quiet_op
    exact hK
   refine hoist [] [] (a1 := ?_) 3 rfl (by kernel_rfl) (.inl ⟨rfl, rfl⟩) rfl rfl rfl (fun x K hK => ?_) ?_
   rotate_left
   ·go_big_quiet_op
    exact hK
   refine hoist [] [] (a1 := ?_) 5 rfl (by kernel_rfl) (.inl ⟨rfl, rfl⟩) rfl rfl rfl (fun x K hK => ?_) ?_
   rotate_left
   ·go_big_quiet_op
    exact hK
   refine hoist [] [] (a1 := ?_) 6 rfl (by kernel_rfl) (.inl ⟨rfl, rfl⟩) rfl rfl rfl (fun x K hK => ?_) ?_
   rotate_left
   ·go_big_quiet_op
    exact hK
   refine hoist [] [] (a1 := ?_) 7 rfl (by kernel_rfl) (.inl ⟨rfl, rfl⟩) rfl rfl rfl (fun x K hK => ?_) ?_
   rotate_left
   ·go_big_quiet_op
    exact hK
   refine hoist [] [] (a1 := ?_) 9 rfl (by kernel_rfl) (.inl ⟨rfl, rfl⟩) rfl rfl rfl (fun x K hK => ?_) ?_
   rotate_left
   ·go_big_quiet_op
    exact hK
   refine hoist [] [] (a1 := ?_) 10 rfl (by kernel_rfl) (.inl ⟨rfl, rfl⟩) rfl rfl rfl (fun x K hK => ?_) ?_
   rotate_left
   ·go_big_quiet_op
    exact hK
   refine hoist [] [] (a1 := ?_) 11 rfl (by kernel_rfl) (.inl ⟨rfl, rfl⟩) rfl rfl rfl (fun x K hK => ?_) ?_
   rotate_left
   ·go_big_quiet_op
    exact hK
   refine hoist [] [] (a1 := ?_) 13 rfl (by kernel_rfl) (.inl ⟨rfl, rfl⟩) rfl rfl rfl (fun x K hK => ?_) ?_
   rotate_left
   ·go_big_quiet_op
    exact hK
   refine hoist [] [] (a1 := ?_) 14 rfl (by kernel_rfl) (.inl ⟨rfl, rfl⟩) rfl rfl rfl (fun x K hK => ?_) ?_
   rotate_left
   ·go_big_quiet_op
    exact hK
   refine hoist [] [] (a1 := ?_) 15 rfl (by kernel_rfl) (.inl ⟨rfl, rfl⟩) rfl rfl rfl (fun x K hK => ?_) ?_
   rotate_left
   ·go_big_quiet_op
    exact hK
   refine effect 4 rfl (by kernel_rfl) (by kernel_rfl) rfl (fun x4 K hK => ?_)
   go_simp
   have hx0 := x4.bw
   have hz0 := (B.out.trans hx0).size
   refine Calls.mono (rpw_ok _ (nj + 4 + 1 + 3) (((X ++ putB 4 e0) ++ putB 1 e1') ++ putB 3 x) 4 (e3') 4 (by decide) (by decide) rfl (by omega) (by omega) x4.now (O.out.bw hx0).sb) ?_
   rintro e w'4 ⟨s4, c4, rfl, hc4, O1, hb⟩
   refine hK _ _ (hb.still _) ?_
   clear hK K
   replace B := Lib.hid ((B.out.trans hx0).trans hb)
   replace O := Lib.hid (O1.up hz0)
   try replace BX5 := Lib.hid ((BX5.out.trans hx0).trans hb)
   clear hx0 hz0 O1 hb
   try simp only [Act.put, List.setIfInBounds_toArray, List.set_cons_succ, List.set_cons_zero]
   refine effect 8 rfl (by kernel_rfl) (by kernel_rfl) rfl (fun x8 K hK => ?_)
   go_simp
   have hx0 := x8.bw
   have hz0 := (B.out.trans hx0).size
   refine Calls.mono (rpw_ok _ (nj + 4 + 1 + 3 + 4) ((((X ++ putB 4 e0) ++ putB 1 e1') ++ putB 3 x) ++ putB 4 e3') 4 (e4') 4 (by decide) (by decide) rfl (by omega) (by omega) x8.now (O.out.bw hx0).sb) ?_
   rintro e w'8 ⟨s8, c8, rfl, hc8, O1, hb⟩
   refine hK _ _ (hb.still _) ?_
   clear hK K
   replace B := Lib.hid ((B.out.trans hx0).trans hb)
   replace O := Lib.hid (O1.up hz0)
   try replace BX5 := Lib.hid ((BX5.out.trans hx0).trans hb)
   clear hx0 hz0 O1 hb
   try simp only [Act.put, List.setIfInBounds_toArray, List.set_cons_succ, List.set_cons_zero]
   refine effect 12 rfl (by kernel_rfl) (by kernel_rfl) rfl (fun x12 K hK => ?_)
   go_simp
   have hx0 := x12.bw
   have hz0 := (B.out.trans hx0).size
   refine Calls.mono (rpw_ok _ (nj + 4 + 1 + 3 + 4 + 4) (((((X ++ putB 4 e0) ++ putB 1 e1') ++ putB 3 x) ++ putB 4 e3') ++ putB 4 e4') 4 (e5') 4 (by decide) (by decide) rfl (by omega) (by omega) x12.now (O.out.bw hx0).sb) ?_
   rintro e w'12 ⟨s12, c12, rfl, hc12, O1, hb⟩
   refine hK _ _ (hb.still _) ?_
   clear hK K
   replace B := Lib.hid ((B.out.trans hx0).trans hb)
   replace O := Lib.hid (O1.up hz0)
   try replace BX5 := Lib.hid ((BX5.out.trans hx0).trans hb)
   clear hx0 hz0 O1 hb
   try simp only [Act.put, List.setIfInBounds_toArray, List.set_cons_succ, List.set_cons_zero]
   refine effect 16 rfl (by kernel_rfl) (by kernel_rfl) rfl (fun x16 K hK => ?_)
   go_simp
   have hx0 := x16.bw
   have hz0 := (B.out.trans hx0).size
   refine Calls.mono (rpw_ok _ (nj + 4 + 1 + 3 + 4 + 4 + 4) ((((((X ++ putB 4 e0) ++ putB 1 e1') ++ putB 3 x) ++ putB 4 e3') ++ putB 4 e4') ++ putB 4 e5') 4 (e6) 4 (by decide) (by decide) rfl (by omega) (by omega) x16.now (O.out.bw hx0).sb) ?_
   rintro e w'16 ⟨s16, c16, rfl, hc16, O1, hb⟩
   refine hK _ _ (hb.still _) ?_
   clear hK K
   replace B := Lib.hid ((B.out.trans hx0).trans hb)
   replace O := Lib.hid (O1.up hz0)
   try replace BX5 := Lib.hid ((BX5.out.trans hx0).trans hb)
   clear hx0 hz0 O1 hb
   try simp only [Act.put, List.setIfInBounds_toArray, List.set_cons_succ, List.set_cons_zero]
   refine tail 17 rfl (by kernel_rfl) rfl (fun xr => ?_)
   simp only [List.drop_succ_cons, List.drop_zero]
   replace B := Lib.hid (B.out.trans xr.bw)
   replace O := Lib.hid (O.out.bw xr.bw)
   clear m3 m4 m5 m6 X7
   generalize xr.now = w8 at *
   go_wp2_with fail
   go_roundg (nr - (j + 1))
   case measure => omega
   case rel =>
    have hn9 := hnj.out
    obtain ⟨h1, h2⟩ := hc16
    refine ⟨j + 1, s16, c16, rfl, by omega, ?_, by omega, by omega, by push_cast; rfl, ?_, B⟩
    ·rw [show n + 24 * (j + 1) = nj + 4 + 1 + 3 + 4 + 4 + 4 + 4 by omega]
    ·rw [show n + 24 * (j + 1) = nj + 4 + 1 + 3 + 4 + 4 + 4 + 4 by omega, hfin.out]; exact O
  ·obtain rfl : j = nr := by omega
   have d : decide ((j : Int) < (j : Int)) = false := by simp
   go_upto_region 42 with (fail)
   clear z7 d
   rw [hR9.out] at O
   generalize hX : L ++ repsB reps = X at *
   obtain ⟨nx, hnx⟩ : ∃ nx, n + 24 * j = nx := ⟨_, rfl⟩
   rw [hnx] at O hc5
   have hnx1 : nx ≤ 3300 := by omega
   have hnx2 : nx % 4 = 0 := by omega
   rw [hnx]
   clear hst hR9 hjn hnx hX
   rename World => w5
   have hN9 : namsB (nams.take nn) = namsB nams := by rw [← l2.out, List.take_length]
   have hst := fun j (h : j < nams.length) => namsB_snoc nams j h
   replace hN9 := Lib.hid hN9
   replace hst := Lib.hid hst
   go_loopg [7, 14] nn (fun m' v a wx => ∃ (j : Nat) (s1 : Option Addr) (c1 q : Nat), m' = nn - j ∧ j ≤ nn ∧ v = .slice s1 q c1 ∧ q ≤ c1 ∧ c1 ≤ 9223372036854775807 ∧ q ≤ 3300 + 112 * j ∧ q % 4 = 0 ∧ a = .int .i64 (j : Nat) ∧ Hid (OB wx w1.heap.size 5 (.slice s1 q c1) q (X ++ namsB (nams.take j))) ∧ Hid (BW w1 wx))
   case atStart => exact ⟨0, s1, c1, nx, rfl, by omega, rfl, hc5, hc6, by omega, hnx2, rfl, by show OB _ _ _ _ _ _; simpa [namsB] using O.out, B⟩
   case round =>
    clear O B hc5 hc6 hnx1 hnx2
    obtain ⟨j, s1, c1, q, rfl, hj, rfl, hc5, hc6, hq1, hq2, rfl, O, B⟩ := hrel
    have z8 := (hp_cell (P.out.bw B.out) 8).trans (show _ = some (.slice an nn cn) from rfl)
    by_cases hjn : j < nn
    ·have d : decide ((j : Int) < (nn : Int)) = true := by simp; omega
     have hjl : j < nams.length := by rw [l2.out]; exact hjn
     obtain ⟨ga, oa, rfl, -, hca⟩ := sq_cells r2.out (by omega)
     obtain ⟨xa, hxa, hya⟩ := hca j hjl
     replace hxa : xa = namV (nams[j]) := hxa
     replace hya : ∀ q, q < 2 → w1.cell? ⟨ga, oa + j * 2 + q, none⟩ = (namV (nams[j]))[q]? := fun q hq => by rw [← hxa]; exact hya q hq
     have hs1 := hst.out j hjl
     have hwf := b10.out _ (List.getElem_mem hjl)
     have hlo := (hnms.out _ (List.getElem_mem hjl)).2
     clear hxa hca
     generalize nams[j] = E at *
     obtain ⟨e0, nm⟩ := E
     obtain ⟨v0, hby⟩ := hwf
     dsimp only at v0 hby hlo
     have y0 := B.out.cell (show w1.cell? ⟨ga, oa + j * 2, none⟩ = some (.int .u32 (e0 : Nat)) from hya 0 (by decide))
     have y1 : Hid (w1.cell? ⟨ga, oa + j * 2 + 1, none⟩ = some (.string (bstr nm))) := hya 1 (by decide)
     clear hya
     generalize hX2 : X ++ namsB (nams.take j) = Y at *
     have hfin : X ++ namsB (nams.take (j + 1)) = ((((Y ++ putB 4 e0) ++ [1, nm.length]) ++ nm) ++ [0]) ++ zeros (pad4 (7 + nm.length)) := by
      rw [hs1, ← List.append_assoc, hX2]
      simp [namW, wordsB, put1 1 (by decide), put1 nm.length (by omega), List.append_assoc]
     have hsz : (bstr nm).size = nm.length := bstr_size nm
     generalize hnl : nm.length = nl' at *
     have hnl2 : (nl' : Int) ≤ 16 := by omega
     have c4 := Lib.hid (rpw_ok (.slice s1 q c1) q Y 4 e0 4 (by decide) (by decide) rfl (by omega) (by omega) wr O.out.sb)
     replace hfin := Lib.hid hfin
     replace hX2 := Lib.hid hX2
     replace hs1 := Lib.hid hs1
     replace hnl := Lib.hid hnl
     replace hby := Lib.hid hby
     replace hsz := Lib.hid hsz
     go_wp2_with fail
     refine Calls.mono c4.out ?_
     rintro e w6 ⟨s6, c6, rfl, hc7, O6, hb⟩
     replace O6 := Lib.hid (O6.up B.out.size)
     replace B := Lib.hid (B.out.trans hb)
     clear hb c4 O y0 z8 hc5 hc6
     dsimp only
     have z8 := (hp_cell (P.out.bw B.out) 8).trans (show _ = some (.slice (some ⟨ga, oa, none⟩) nn cn) from rfl)
     have y2 := B.out.cell y1.out
     have hsz2 := hsz.out
     obtain ⟨hc8, hc9⟩ := hc7
     have L5 := Lib.hid (AvB.new w6 5 [1, nl'])
     have X5 := Lib.hid (L5.out.sb (by intro x hx; simp at hx; omega) 2 rfl (by decide))
     go_upto_region 46 with (at_builtin; go_must (refine wpList_apOB rfl _ _ rfl w1.heap.size _ _ _ rfl ((O6.out.bw ((BW.refl w6).alloc))) _ rfl _ _ (X5.out) (by omega) (BW.trans B.out (by repeat (first | exact BW.refl _ | apply BW.alloc | apply BW.drewN | apply BW.drew))).size ?_; intro s7 c7 w7 hcc7 hmc7 O7 hT hb hG; unfold maxLen at hmc7; replace hG := Lib.hid hG; replace hT := Lib.hid hT; skip))
     replace B := Lib.hid (BW.step (BW.trans B.out (by repeat (first | exact BW.refl _ | apply BW.alloc | apply BW.drewN | apply BW.drew))) hb (Nat.le_refl _))
     replace O7 := Lib.hid O7
     clear hb
     clear hT hG X5 L5 O6 z8 y2 hsz2 hc8 hc9
     have z8 := (hp_cell (P.out.bw B.out) 8).trans (show _ = some (.slice (some ⟨ga, oa, none⟩) nn cn) from rfl)
     have y2 := B.out.cell y1.out
     have hzz := Lib.hid B.out.size
     go_upto_region 47 with (at_builtin; go_must (refine wpList_apOS rfl _ _ rfl w1.heap.size _ (q + 4 + 2) _ rfl O7.out nm hby.out rfl nl' hnl.out (by omega) hzz.out ?_; intro s8 c8 w8 hc8 hm8 O8 T8 hb8 G8; unfold maxLen at hm8; replace O8 := Lib.hid O8; replace hb8 := Lib.hid hb8; clear T8 G8))
     replace B := Lib.hid (BW.step B.out hb8.out (Nat.le_refl _))
     clear O7 z8 y2 hb8 hzz
     have L5 := Lib.hid (AvB.new w8 5 [0])
     have X5 := Lib.hid (L5.out.sb (by intro x hx; simp at hx; omega) 1 rfl (by decide))
     go_upto_region 48 with (at_builtin; go_must (refine wpList_apOB rfl _ _ rfl w1.heap.size _ _ _ rfl ((O8.out.bw ((BW.refl w8).alloc))) _ rfl _ _ (X5.out) (by omega) (BW.trans B.out (by repeat (first | exact BW.refl _ | apply BW.alloc | apply BW.drewN | apply BW.drew))).size ?_; intro s9 c9 w9 hcc9 hmc9 O9 hT hb hG; unfold maxLen at hmc9; replace hG := Lib.hid hG; replace hT := Lib.hid hT; skip))
     replace B := Lib.hid (BW.step (BW.trans B.out (by repeat (first | exact BW.refl _ | apply BW.alloc | apply BW.drewN | apply BW.drew))) hb (Nat.le_refl _))
     replace O9 := Lib.hid O9
     clear hb
     clear hT hG X5 L5 O8
     generalize hZ : (((Y ++ putB 4 e0) ++ [1, nl']) ++ nm) ++ [0] = Z at *
     have hpd : pad4 (q + 4 + 2 + nl' + 1) = pad4 (7 + nl') := by
      rw [show q + 4 + 2 + nl' + 1 = q + (7 + nl') by omega]
      exact pad4_add _ _ hq2
     have hp1 := pad4_lt (q + 4 + 2 + nl' + 1)
     have hp2 := pad4_four (q + 4 + 2 + nl' + 1)
     have hp3 : ∀ i, i < pad4 (q + 4 + 2 + nl' + 1) → 0 < (q + 4 + 2 + nl' + 1 + i) % 4 := fun i hi => by unfold pad4 at hi; omega
     rw [hpd] at hp1 hp2 hp3
     generalize hq9 : q + 4 + 2 + nl' + 1 = q9 at *
     generalize pad4 (7 + nl') = p9 at *
     have hq9l : q9 ≤ 3330 + 112 * j := by omega
     rename World => w0'
     replace hZ := Lib.hid hZ
     replace hpd := Lib.hid hpd
     replace hp2 := Lib.hid hp2
     replace hp3 := Lib.hid hp3
     replace hq9 := Lib.hid hq9
     go_loopg [7] p9 (fun m' v wx => ∃ (i : Nat) (s1 : Option Addr) (c1 : Nat), m' = p9 - i ∧ i ≤ p9 ∧ v = .slice s1 (q9 + i) c1 ∧ q9 + i ≤ c1 ∧ c1 ≤ 9223372036854775807 ∧ Hid (OB wx w1.heap.size 5 (.slice s1 (q9 + i) c1) (q9 + i) (Z ++ zeros i)) ∧ Hid (BW w1 wx))
     case atStart => exact ⟨0, s9, c9, rfl, by omega, rfl, by omega, by omega, by show OB _ _ _ _ _ _; simpa [zeros] using O9.out, B⟩
     case round =>
      clear O9 B
      obtain ⟨i, s1', c1', rfl, hi, rfl, hc5, hc6, O, B⟩ := hrel
      by_cases hip : i < p9
      ·have hz := hp3.out i hip
       have hzs := Lib.hid (zeros_snoc i)
       generalize hqi : q9 + i = qi at *
       have d : decide ((0 : Int) < (qi : Int) % 4) = true := by simp; omega
       have hqil : qi ≤ 20000 := by omega
       clear hz
       replace hqi := Lib.hid hqi
       have L5 := Lib.hid (AvB.new wr 5 [0])
       have X5 := Lib.hid (L5.out.sb (by intro x hx; simp at hx; omega) 1 rfl (by decide))
       go_wp2_with (at_builtin; go_must (refine wpList_apOB rfl _ _ rfl w1.heap.size _ _ _ rfl ((O.out.bw ((BW.refl wr).alloc))) _ rfl _ _ (X5.out) (by omega) (BW.trans B.out (by repeat (first | exact BW.refl _ | apply BW.alloc | apply BW.drewN | apply BW.drew))).size ?_; intro s10 c10 w10 hcc10 hmc10 O10 hT hb hG; unfold maxLen at hmc10; replace hG := Lib.hid hG; replace hT := Lib.hid hT; skip))
       replace B := Lib.hid (BW.step (BW.trans B.out (by repeat (first | exact BW.refl _ | apply BW.alloc | apply BW.drewN | apply BW.drew))) hb (Nat.le_refl _))
       replace O10 := Lib.hid O10
       clear hb
       clear hT hG X5 L5 O
       go_roundg (p9 - (i + 1))
       case measure => omega
       case rel =>
        have hn9 := hqi.out
        refine ⟨i + 1, s10, c10, rfl, by omega, ?_, by omega, by omega, ?_, B⟩
        ·rw [show q9 + (i + 1) = qi + 1 by omega]
        ·rw [show q9 + (i + 1) = qi + 1 by omega, hzs.out, ← List.append_assoc]; exact O10
      ·obtain rfl : i = p9 := by omega
       have hz := hp2.out
       have d : decide ((0 : Int) < ((q9 + i : Nat) : Int) % 4) = false := by simp; omega
       generalize hqi : q9 + i = qi at *
       replace hqi := Lib.hid hqi
       go_wp2_with fail
       go_roundg (nn - (j + 1))
       case measure => omega
       case rel =>
        have h8 := hqi.out
        have h9 := hq9.out
        exact ⟨j + 1, s1', c1', qi, rfl, by omega, rfl, hc5, hc6, by omega, hz, by push_cast; rfl, by first | (rw [hfin.out, hZ.out]; exact O) | (rw [hfin.out]; exact O), B⟩
    ·obtain rfl : j = nn := by omega
     have d : decide ((j : Int) < (j : Int)) = false := by simp
     go_upto_region 51 with (fail)
     clear z8 d
     rw [hN9.out] at O
     generalize hX2 : X ++ namsB nams = Y at *
     clear hst hN9 hjn
     rename World => w6
     have hS9 : wordsB (srcs.take ns) = wordsB srcs := by rw [← l3.out, List.take_length]
     have hst := fun j (h : j < srcs.length) => wordsB_snoc srcs j h
     have hq5 : q ≤ 14500 := by omega
     replace hS9 := Lib.hid hS9
     replace hst := Lib.hid hst
     replace hX2 := Lib.hid hX2
     go_loopg [7, 15] ns (fun m' v a wx => ∃ (j : Nat) (s1 : Option Addr) (c1 : Nat), m' = ns - j ∧ j ≤ ns ∧ v = .slice s1 (q + 4 * j) c1 ∧ q + 4 * j ≤ c1 ∧ c1 ≤ 9223372036854775807 ∧ a = .int .i64 (j : Nat) ∧ Hid (OB wx w1.heap.size 5 (.slice s1 (q + 4 * j) c1) (q + 4 * j) (Y ++ wordsB (srcs.take j))) ∧ Hid (BW w1 wx))
     case atStart => exact ⟨0, s1, c1, rfl, by omega, rfl, hc5, hc6, rfl, by show OB _ _ _ _ _ _; simpa [wordsB] using O.out, B⟩
     case round =>
      clear O B hc5 hc6 hq1
      obtain ⟨i, s1', c1', rfl, hi, rfl, hc5, hc6, rfl, O, B⟩ := hrel
      have z9 := (hp_cell (P.out.bw B.out) 9).trans (show _ = some (.slice as_ ns cs) from rfl)
      by_cases hin : i < ns
      ·have d : decide ((i : Int) < (ns : Int)) = true := by simp; omega
       have hil : i < srcs.length := by rw [l3.out]; exact hin
       obtain ⟨ga, oa, rfl, -, hca⟩ := sq_cells (r3.out.bw B.out) (by omega)
       obtain ⟨xa, hxa, hya⟩ := hca i hil
       replace hxa : xa = srcV (srcs[i]) := hxa
       have y0 : wr.cell? ⟨ga, oa + i, none⟩ = (srcV (srcs[i]))[0]? := by
        have := hya 0 (by decide)
        rw [hxa] at this
        rwa [show ES.size = 1 from rfl, Nat.mul_one] at this
       have hs1 := hst.out i hil
       have hwf := b11.out _ (List.getElem_mem hil)
       rw [List.getD_eq_getElem?_getD, List.getElem?_eq_getElem hil, Option.getD_some] at hs1
       clear hxa hca hya
       generalize srcs[i] = e0 at *
       replace y0 : wr.cell? ⟨ga, oa + i, none⟩ = some (.int .u32 (e0 : Nat)) := y0
       generalize hX3 : Y ++ wordsB (srcs.take i) = U at *
       have hfin : Y ++ wordsB (srcs.take (i + 1)) = U ++ putB 4 e0 := by rw [hs1, ← List.append_assoc, hX3]
       generalize hqi : q + 4 * i = qi at *
       have hqil : qi ≤ 20000 := by omega
       have c4 := Lib.hid (rpw_ok (.slice s1' qi c1') qi U 4 e0 4 (by decide) (by decide) rfl (by omega) (by omega) wr O.out.sb)
       replace hfin := Lib.hid hfin
       replace hX3 := Lib.hid hX3
       replace hs1 := Lib.hid hs1
       replace hqi := Lib.hid hqi
       go_wp2_with fail
       refine Calls.mono c4.out ?_
       rintro e w7 ⟨s7, c7, rfl, hc7, O7, hb⟩
       replace O7 := Lib.hid (O7.up B.out.size)
       replace B := Lib.hid (B.out.trans hb)
       clear hb c4 O y0 z9 hc5 hc6
       dsimp only
       go_wp2_with fail
       go_roundg (ns - (i + 1))
       case measure => omega
       case rel =>
        have hn9 := hqi.out
        refine ⟨i + 1, s7, c7, rfl, by omega, ?_, by omega, by omega, by push_cast; rfl, ?_, B⟩
        ·rw [show q + 4 * (i + 1) = qi + 4 by omega]
        ·rw [show q + 4 * (i + 1) = qi + 4 by omega, hfin.out]; exact O7
      ·obtain rfl : i = ns := by omega
       have d : decide ((i : Int) < (i : Int)) = false := by simp
       have hbw : Hid (bw = Y ++ wordsB (srcs.take i)) := by show _ = _; rw [hbo.out, hS9.out, ← hX2.out]
       rw [← hbw.out] at O
       generalize hqi : q + 4 * i = qi at *
       have hqil : qi ≤ 20000 := by omega
       have hlen := O.out.1
       have hpb2 := hPB.out
       have h16 := bd1.out
       have h206 := bd2.out
       rw [hho.out] at hpb2 h16 h206
       dsimp only at hpb2 h16 h206
       rw [hlen] at hpb2
       obtain ⟨h1, he1⟩ : ∃ h1 : Nat, 128 + cnt = h1 := ⟨_, rfl⟩
       rw [he1] at hpb2
       have e54 : (128 : Int) + (cnt : Int) = ((h1 : Nat) : Int) := by omega
       obtain ⟨y, hy⟩ : ∃ y : Nat, qi / 4 = y := ⟨_, rfl⟩
       rw [hy] at hpb2
       have e55 : (qi : Int) / 4 = ((y : Nat) : Int) := by omega
       have hh1 : (h1 : Int) ≤ 144 := by omega
       have hh2 : (typ : Int) ≤ 206 := by omega
       have hy2 : (y : Int) ≤ 5000 := by omega
       have L5 := Lib.hid (AvB.new wr 5 [h1, typ])
       have X5 := Lib.hid (L5.out.sb (by intro x hx; simp at hx; omega) 2 rfl (by decide))
       have B5 := Lib.hid (B.out.trans ((BW.refl wr).alloc (o := .cells (ivA .u8 [h1, typ]) 5)))
       have O5 := Lib.hid (O.out.bw ((BW.refl wr).alloc (o := .cells (ivA .u8 [h1, typ]) 5)))
       have c6 := Lib.hid (rpw_ok (.slice (some ⟨wr.heap.size, 0, none⟩) 2 2) 2 [h1, typ] 2 y 2 (by decide) (by decide) rfl (by omega) (by omega) _ X5.out)
       replace hlen := Lib.hid hlen
       replace hpb2 := Lib.hid hpb2
       replace he1 := Lib.hid he1
       replace hy := Lib.hid hy
       replace hqi := Lib.hid hqi
       replace hbw := Lib.hid hbw
       clear h16 h206 L5 X5 O B
       go_wp2_with fail
       refine Calls.mono c6.out ?_
       rintro e w7 ⟨s7, c7, rfl, hc7, O7, hb⟩
       replace O7 := Lib.hid (O7.up (base' := w1.heap.size) B5.out.size)
       have B := Lib.hid (B5.out.trans hb)
       have O := Lib.hid (O5.out.bw hb)
       obtain ⟨hc8, hc9⟩ := hc7
       clear hb c6 B5 O5 e54 e55 z9
       dsimp only
       go_wp2_with (at_builtin; go_must (refine wpList_apOB rfl _ _ rfl w1.heap.size _ _ _ rfl (O7.out) _ rfl _ _ (O.out.sb) (by omega) (BW.trans B.out (by repeat (first | exact BW.refl _ | apply BW.alloc | apply BW.drewN | apply BW.drew))).size ?_; intro s8 c8 w8 hcc8 hmc8 O8 hT hb hG; unfold maxLen at hmc8; replace hG := Lib.hid hG; replace hT := Lib.hid hT; skip))
       replace B := Lib.hid (BW.step (BW.trans B.out (by repeat (first | exact BW.refl _ | apply BW.alloc | apply BW.drewN | apply BW.drew))) hb (Nat.le_refl _))
       replace O8 := Lib.hid O8
       clear hb
       clear hT hG O7 O
       have hl2 : pb.length = 2 + 2 + qi := by rw [hpb2.out, List.length_append, List.length_append, putB_len, hlen.out]; rfl
       have BF := Lib.hid (BX.out.trans B.out)
       have OF := Lib.hid (O8.out.up BX.out.size)
       rw [← hpb2.out] at OF
       replace hl2 := Lib.hid hl2
       go_ret
       exact ⟨s8, c8, by rw [hl2.out]; rfl, by rw [hl2.out]; exact OF.out, BF.out⟩
end Go.Proofs.Ytcempndfbckcaaa
