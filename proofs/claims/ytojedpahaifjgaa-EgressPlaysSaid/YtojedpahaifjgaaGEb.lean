/- Rings: packets in a slice: insertion. No condition but the sizes'. Rings: where an index is. No condition but the sizes'. Rings: New, find, Get, Len, Size, Indices; copies of packets. No condition but the sizes'. -/
import Derived.Test.YtojedpahaifjgaaIB
import Derived.Test.YtojedpahaifjgaaGEl
import Derived.Test.YtojedpahaifjgaaCln
namespace Go.Proofs.Ytojedpahaifjgaa
open Go.RowKit
theorem slPk : SlTy Try.prog 138 158 2 32 := SlTy.mk' Try.underlying138 (by kernel_rfl) (by decide)
-- slices.Insert of one element: keys FN (function), ST (slice type), ET (element type), N (name), OV (what stands behind slices.overlaps)
set_option maxRecDepth 100000 in
set_option maxHeartbeats 8000000 in
theorem insert_pk {α : Type} (E : Elt α) (hE : E.size = 2) {bytes : Nat} (hT : SlTy Try.prog 138 158 E.size bytes) (hbytes : bytes ≤ 1000) (base : Nat) (v : Value) (n i : Nat) (l : List α) (x : α) (c : List Value) (vb : Nat) (w : World)
  (hown : EQ E 158 w base v n l) (hvb : HpB w vb (.cells c.toArray 158)) (hx : E.R w base x c) (hne : ∀ k, v.ownBlock = some k → k ≠ vb) (hi : i ≤ n) (hn : n ≤ 1000000) (hbase : base ≤ w.heap.size) (hOk : ∀ j ∈ v.ownBlock.toList, E.Ok w j) :
  Calls Try.prog 80 #[v, .int .i64 (i : Nat), .slice (some ⟨vb, 0, none⟩) 1 1] w fun e w' => ∃ sa cap, e = .returned (.slice sa (n + 1) cap) ∧ EQ E 158 w' base (.slice sa (n + 1) cap) (n + 1) (l.take i ++ [x] ++ l.drop i) ∧ (∀ j, (Value.slice sa (n + 1) cap).ownBlock = some j → v.ownBlock = some j ∨ w.heap.size ≤ j) ∧ Still v.ownBlock.toList w w' := by
 obtain ⟨sv, cap, rfl, hnc, hcm⟩ := hown.len
 have hcl := E.len hx
 rw [hE] at hcl
 have hT2 : SlTy Try.prog 138 158 2 bytes := hE ▸ hT
 have hs : (Try.prog.info? 158).map (·.size) = some 2 := by
  obtain ⟨i, z, e1, e2, e3, _⟩ := hT2.ex
  rw [e1]; simp [e3]
 have hO := Lib.hid hown
 have hV := Lib.hid hvb
 have hX := Lib.hid hx
 have hT' := Lib.hid hT
 have cm := hcm
 unfold maxLen at cm
 have hSl : Sls w E.size (.slice (some ⟨vb, 0, none⟩) 1 1) 1 c := ⟨by rw [hcl, hE], by decide, .inr ⟨vb, 0, 1, rfl, Nat.le_refl _, by decide, HpB.lt hvb, fun j hj => by rw [Nat.zero_add, hp_cell hvb j, List.getElem?_toArray]⟩⟩
 clear hown hvb hx hT
 have hc0 := fun w => run_cut_l (P := Try.prog) Try.underlying138 hs sv n cap i (i : Int) rfl .i64 hi w
 replace hSl := Lib.hid hSl
 replace hne := Lib.hid hne
 replace hOk := Lib.hid hOk
 replace hcl := Lib.hid hcl
 replace hE := Lib.hid hE
 replace hT2 := Lib.hid hT2
 by_cases hin : i = n
 ·subst hin
  have d1 : ((i : Int) == (i : Int)) = true := by simp
  have hsz : (i + 1) * bytes ≤ 140737488355328 := by
   have : (i + 1) * bytes ≤ 1000001 * 1000 := Nat.mul_le_mul (by omega) hbytes
   omega
  go_enter Try.func80, Try.ntmps80
  go_wp2_with (at_builtin; go_must (refine wpList_apEQ hT'.out rfl _ _ rfl base _ i l rfl hO.out _ rfl 1 [x] c hSl.out (EL.single hX.out) rfl hsz hbase hOk.out ?_; intro s6 c6 w6 hc6 hm6 O6 T6 hb6 G6; unfold maxLen at hm6; replace O6 := Lib.hid O6; replace T6 := Lib.hid T6; replace G6 := Lib.hid G6; clear hb6))
  go_ret
  have hl := hO.out.1
  rw [List.take_of_length_le (by omega), List.drop_of_length_le (by omega), List.append_nil]
  exact ⟨s6, c6, rfl, O6.out, G6.out, T6.out⟩
 have hlt : i < n := by omega
 have d1 : ((i : Int) == (n : Int)) = false := by simp; omega
 obtain ⟨hl, xs, hw, hEL⟩ := hO.out
 rw [hE.out] at hw
 obtain ⟨hxl, ⟨h, h0⟩ | ⟨g, o, cap', cur, he, hbg, hg, hnc', hcm', hcs, htake⟩⟩ := hw
 ·omega
 simp only [Value.slice.injEq, true_and] at he
 obtain ⟨rfl, rfl⟩ := he
 have hgv : g ≠ vb := hne.out g rfl
 have hxk : ∀ k, k < n * 2 → cur.toList[o + k]? = xs[k]? := fun k hk => by
  rw [← htake, List.getElem?_take, if_pos hk, List.getElem?_drop]
 have hdl : (xs.drop (i * 2)).length = (n - i) * 2 := by rw [List.length_drop, hxl, Nat.sub_mul]
 have hd1 : ∀ v ∈ xs.drop (i * 2), v.oneCell' = true := fun v hv => hEL.one v (List.mem_of_mem_drop hv)
 have hc1 : ∀ v ∈ c, v.oneCell' = true := fun v hv => E.one hX.out v hv
 have hlist : EL E w base (l.take i ++ [x] ++ l.drop i) (xs.take (i * 2) ++ c ++ xs.drop (i * 2)) := by
  have h1 := ((hEL.take i).append (EL.single hX.out)).append (hEL.drop i)
  rw [hE.out] at h1; exact h1
 have hlen : (l.take i ++ [x] ++ l.drop i).length = n + 1 := by rw [List.length_append, List.length_append, List.length_take, List.length_drop]; simp; omega
 have hvsrc : ∀ w2 : World, w2.heap[vb]? = some (.cells c.toArray 158 (0, 0)) → ∀ j u, c[j]? = some u → w2.cell? ((⟨vb, 0, none⟩ : Addr).add j) = some u := fun w2 h2 j u hj => by
  rw [Addr.add_lit, Nat.zero_add, hp_cell h2 j, List.getElem?_toArray]; exact hj
 have hpos : 0 < 2 := by decide
 replace hxl := Lib.hid hxl
 replace hxk := Lib.hid hxk
 replace hdl := Lib.hid hdl
 replace hd1 := Lib.hid hd1
 replace hc1 := Lib.hid hc1
 replace hlist := Lib.hid hlist
 replace hlen := Lib.hid hlen
 replace hvsrc := Lib.hid hvsrc
 replace htake := Lib.hid htake
 replace hg := Lib.hid hg
 replace hEL := Lib.hid hEL
 have q1 : IntKind.i64.wrap ((n : Int) + 1) = (n : Int) + 1 := IntWalk.i64_in _ (by omega)
 have q2 : IntKind.i64.wrap ((i : Int) + 1) = (i : Int) + 1 := IntWalk.i64_in _ (by omega)
 by_cases hroom : cap < n + 1
 ·obtain rfl : cap = n := by omega
  have d2 : decide ((cap : Int) < (cap : Int) + 1) = true := by simp; omega
  have q3 : IntKind.i64.wrap ((cap : Int) + 1 - (i : Int)) = ((cap + 1 - i : Nat) : Int) := by rw [show (cap : Int) + 1 - (i : Int) = ((cap + 1 - i : Nat) : Int) by omega]; exact IntWalk.i64_in _ (by omega)
  have hch := fun w => run_cut_h (P := Try.prog) Try.underlying138 hs (some ⟨g, o, none⟩) cap cap i (i : Int) rfl .i64 (by omega) w
  have htk : (xs.take (i * 2)).length = i * 2 := by rw [List.length_take, hxl.out]; omega
  have hik : i + (cap + 1 - i) = cap + 1 := by omega
  obtain ⟨w1, cap2, cur1, hr1, hc1a, hc1b, hg1, hs1, hj1, B1⟩ := grow_zeros (P := Try.prog) w hT2.out Try.underlying3 ⟨g, o, none⟩ i cap (cap + 1 - i) (xs.take (i * 2)) htk (fun j u hj => by
   rw [Addr.add_lit, hp_cell (b := g) (BW.heap ((BW.refl w).drew) hg.out), ← Array.getElem?_toList, hxk.out j (by have := (List.getElem?_eq_some_iff.1 hj).1; omega), ← hj, List.getElem?_take, if_pos (by have := (List.getElem?_eq_some_iff.1 hj).1; omega)]) (by omega) (by omega) (by
    rw [hik]
    have : (cap + 1) * bytes ≤ 1000001 * 1000 := Nat.mul_le_mul (by omega) hbytes
    omega)
  rw [hik] at hr1 hc1a
  have hgn : g < w.heap.size := HpB.lt hg.out
  have hvbn : vb < w.heap.size := HpB.lt hV.out
  obtain ⟨gn, hgn2⟩ : ∃ gn, gn = w.heap.size := ⟨_, rfl⟩
  rw [← hgn2] at hr1 hg1 hgn hvbn
  have hcm2 := hc1b
  unfold maxLen at hcm2
  have hfr : ∀ w2 (m c2 : Nat), i ≤ m → i < c2 → (Instr.slice 138 (.slice (some ⟨gn, 0, none⟩) m c2) (some (.int .i64 (i : Nat))) none none).run Try.prog w2 = .ok (.slice (some ⟨gn, i * 2, none⟩) (m - i) (c2 - i)) w2 := fun w2 m c2 h1 h2 => (run_cut_l (P := Try.prog) Try.underlying138 hs (some ⟨gn, 0, none⟩) m c2 i (i : Int) rfl .i64 h1 w2).trans (by rw [show cutA (some ⟨gn, 0, none⟩) i c2 2 = some ⟨gn, i * 2, none⟩ from by unfold cutA; rw [if_neg (by omega)]; rw [Option.map_some, Addr.add_lit, Nat.zero_add]])
  have hfs : ∀ w2 (m c2 : Nat), i + 1 ≤ m → i + 1 < c2 → (Instr.slice 138 (.slice (some ⟨gn, 0, none⟩) m c2) (some (.int .i64 ((i : Int) + 1))) none none).run Try.prog w2 = .ok (.slice (some ⟨gn, (i + 1) * 2, none⟩) (m - (i + 1)) (c2 - (i + 1))) w2 := fun w2 m c2 h1 h2 => (run_cut_l (P := Try.prog) Try.underlying138 hs (some ⟨gn, 0, none⟩) m c2 (i + 1) ((i : Int) + 1) (by push_cast; rfl) .i64 h1 w2).trans (by rw [show cutA (some ⟨gn, 0, none⟩) (i + 1) c2 2 = some ⟨gn, (i + 1) * 2, none⟩ from by unfold cutA; rw [if_neg (by omega)]; rw [Option.map_some, Addr.add_lit, Nat.zero_add]])
  have hfo : ∀ w2, (Instr.slice 138 (.slice (some ⟨g, o, none⟩) cap cap) (some (.int .i64 (i : Nat))) none none).run Try.prog w2 = .ok (.slice (some ⟨g, o + i * 2, none⟩) (cap - i) (cap - i)) w2 := fun w2 => (hc0 w2).trans (by rw [show cutA (some ⟨g, o, none⟩) i cap 2 = some ⟨g, o + i * 2, none⟩ from by unfold cutA; rw [if_neg (by omega)]; simp [Addr.add]])
  have hf1 := fun w2 => hfr w2 (cap + 1) cap2 (by omega) (by omega)
  have hf2 := fun w2 => hfs w2 (cap + 1) cap2 (by omega) (by omega)
  have hV1 := hV.out.bw B1
  have hgB := B1.heap hg.out
  obtain ⟨w2, cur2, hr2, hg2, hs2, hj2, T2⟩ := copy_row (P := Try.prog) w1 138 138 0 158 hpos gn (i * 2) (cap + 1 - i) (cap2 - i) ⟨vb, 0, none⟩ 1 1 c cur1 hg1 Try.underlying138 hs (by rw [show Nat.min 1 (cap + 1 - i) = 1 from by show min 1 (cap + 1 - i) = 1; omega, Nat.one_mul]; exact hcl.out) (hvsrc.out w1 hV1) hc1.out (by rw [hcl.out, hs1]; omega)
  rw [show Nat.min 1 (cap + 1 - i) = 1 from by show min 1 (cap + 1 - i) = 1; omega] at hr2
  have hgO := (HpB.st hgB T2 (by simp; omega))
  clear hfr hfs hc0
  replace hgv := Lib.hid hgv
  replace hV1 := Lib.hid hV1
  replace hgB := Lib.hid hgB
  replace hg2 := Lib.hid hg2
  replace hs2 := Lib.hid hs2
  replace hj2 := Lib.hid hj2
  replace T2 := Lib.hid T2
  replace hgO := Lib.hid hgO
  replace B1 := Lib.hid B1
  replace hg1 := Lib.hid hg1
  replace hs1 := Lib.hid hs1
  replace hj1 := Lib.hid hj1
  replace htk := Lib.hid htk
  replace hik := Lib.hid hik
  replace hgn2 := Lib.hid hgn2
  go_enter Try.func80, Try.ntmps80
  go_wp2_with (first | (at_builtin; refine wpList_append_run rfl _ _ _ _ rfl (.slice (some ⟨g, o, none⟩) i cap) (.int .i64 ((cap + 1 - i : Nat) : Int)) _ rfl rfl hr1 ?_) | (refine wpList_copy_run (o := ⟨some 45, _, _, _, _, _⟩) rfl _ _ _ _ rfl (.slice (some ⟨gn, i * 2, none⟩) (cap + 1 - i) (cap2 - i)) (.slice (some ⟨vb, 0, none⟩) 1 1) _ rfl rfl (fun _ => by rw [← hr2]; rfl) ?_))
  clear hr1 hr2 hch
  try simp only [Act.put, List.setIfInBounds_toArray, List.set_cons_succ, List.set_cons_zero]
  refine wp_region_gg [] [] [8] (by kernel_rfl) ?_
  refine hoist [] [] (a1 := ?_) 0 rfl (by kernel_rfl) (.inl ⟨rfl, rfl⟩) rfl rfl rfl (fun x K hK => ?_) ?_
  rotate_left
  ·go_big_quiet_op
   exact hK
  refine hoist [] [] (a1 := ?_) 1 rfl (by kernel_rfl) (.inl ⟨rfl, rfl⟩) rfl rfl rfl (fun x K hK => ?_) ?_
  rotate_left
  ·go_big_quiet_op
   exact hK
  refine hoist [] [] (a1 := ?_) 2 rfl (by kernel_rfl) (.inl ⟨rfl, rfl⟩) rfl rfl rfl (fun x K hK => ?_) ?_
  rotate_left
  ·go_big_quiet_op
   exact hK
  refine hoist [] [] (a1 := ?_) 3 rfl (by kernel_rfl) (.inl ⟨rfl, rfl⟩) rfl rfl rfl (fun x K hK => ?_) ?_
  rotate_left
  ·go_big_quiet_op
   exact hK
  refine hoist [] [] (a1 := ?_) 4 rfl (by kernel_rfl) (.inl ⟨rfl, rfl⟩) rfl rfl rfl (fun x K hK => ?_) ?_
  rotate_left
  ·go_big_quiet_op
   exact hK
  refine hoist [] [] (a1 := ?_) 5 rfl (by kernel_rfl) (.inl ⟨rfl, rfl⟩) rfl rfl rfl (fun x K hK => ?_) ?_
  rotate_left
  ·go_big_quiet_op
   exact hK
  refine hoist [] [] (a1 := ?_) 6 rfl (by kernel_rfl) (.inl ⟨rfl, rfl⟩) rfl rfl rfl (fun x K hK => ?_) ?_
  rotate_left
  ·go_big_quiet_op
   exact hK
  refine hoist [] [] (a1 := ?_) 7 rfl (by kernel_rfl) (.inl ⟨rfl, rfl⟩) rfl rfl rfl (fun x K hK => ?_) ?_
  rotate_left
  ·go_big_quiet_op
   exact hK
  refine tail 8 rfl (by kernel_rfl) rfl (fun xr => ?_)
  simp only [List.drop_succ_cons, List.drop_zero]
  have hg3 := xr.bw.heap hg2.out
  have hgo3 := xr.bw.heap hgO.out
  obtain ⟨w3, cur3, hr3, hg4, hs3, hj3, T3⟩ := copy_row (P := Try.prog) xr.now 138 138 0 158 hpos gn ((i + 1) * 2) (cap - i) (cap2 - (i + 1)) ⟨g, o + i * 2, none⟩ (cap - i) (cap - i) (xs.drop (i * 2)) cur2 hg3 Try.underlying138 hs (by rw [show Nat.min (cap - i) (cap - i) = cap - i from by show min (cap - i) (cap - i) = cap - i; omega]; exact hdl.out)
   (fun j u hj => by
    rw [Addr.add_lit, hp_cell hgo3, ← Array.getElem?_toList, Nat.add_assoc, ← hj, List.getElem?_drop]
    have := (List.getElem?_eq_some_iff.1 hj).1
    rw [hdl.out] at this
    exact hxk.out _ (by omega)) hd1.out (by rw [hdl.out, hs2.out, hs1.out]; omega)
  rw [show Nat.min (cap - i) (cap - i) = cap - i from by show min (cap - i) (cap - i) = cap - i; omega] at hr3
  have hO3 : Ows w3 base 158 2 (.slice (some ⟨gn, 0, none⟩) (cap + 1) cap2) (cap + 1) (xs.take (i * 2) ++ c ++ xs.drop (i * 2)) := by
   refine ins_ows (by rw [hgn2.out]; exact hbase) hg4 hc1a hc1b (by rw [hs3, hs2.out, hs1.out]; omega) hxl.out hcl.out hi (fun k hk => ?_) (fun k hk => ?_) (fun k h1 h2 => ?_)
   ·rw [hj3, if_neg (by omega), hj2.out, if_neg (by omega), Nat.zero_add, hj1.out k hk, List.getElem?_take, if_pos hk]
   ·rw [hj3, if_neg (by omega), hj2.out, if_pos (by rw [hcl.out]; omega)]; congr 1; omega
   ·rw [hj3, if_pos (by rw [hdl.out]; omega), List.getElem?_drop]; congr 1; omega
  have TT : Still [gn] w w3 := ((B1.out.still [gn]).trans (T2.out.trans (xr.bw.still [gn]))).trans T3
  have TE : Still [] w w3 := ⟨TT.os, TT.tape, TT.output, TT.size, fun k hk _ => TT.block k hk (fun hm => by have : k = gn := (by simpa using hm); have := hgn2.out; omega)⟩
  have hEL3 : EL E w3 base (l.take i ++ [x] ++ l.drop i) (xs.take (i * 2) ++ c ++ xs.drop (i * 2)) := hlist.out.mono fun _ _ h => E.bw h (BW.ofStill TE)
  have hQ3 : EQ E 158 w3 base (.slice (some ⟨gn, 0, none⟩) (cap + 1) cap2) (cap + 1) (l.take i ++ [x] ++ l.drop i) := ⟨hlen.out, _, by rw [hE.out]; exact hO3, hEL3⟩
  clear hj3 hg4 hs3 hg3 hgo3 hO3 hEL3 TT q1 q2 q3
  replace hQ3 := Lib.hid hQ3
  replace TE := Lib.hid TE
  refine wpList_copy_run rfl _ _ _ _ rfl (.slice (some ⟨gn, (i + 1) * 2, none⟩) (cap - i) (cap2 - (i + 1))) (.slice (some ⟨g, o + i * 2, none⟩) (cap - i) (cap - i)) _ rfl rfl (fun _ => by rw [← hr3]; rfl) ?_
  go_wp2_with fail
  go_ret
  exact ⟨_, _, rfl, hQ3.out, fun j hj => .inr (by have : gn = j := (by simpa [Value.ownBlock] using hj); have := hgn2.out; omega), ⟨TE.out.os, TE.out.tape, TE.out.output, TE.out.size, fun k hk _ => TE.out.block k hk (by simp)⟩⟩
 ·have hroom' : n + 1 ≤ cap := by omega
  have d2 : decide ((cap : Int) < (n : Int) + 1) = false := by simp; omega
  have hca := fun w (m c2 : Nat) (h1 : i ≤ m) (h2 : i < c2) => (run_cut_l (P := Try.prog) Try.underlying138 hs (some ⟨g, o, none⟩) m c2 i (i : Int) rfl .i64 h1 w).trans (by rw [show cutA (some ⟨g, o, none⟩) i c2 2 = some ⟨g, o + i * 2, none⟩ from by unfold cutA; rw [if_neg (by omega)]; simp [Addr.add]])
  have hcb := fun w (m c2 : Nat) (h1 : i + 1 ≤ m) (h2 : i + 1 < c2) => (run_cut_l (P := Try.prog) Try.underlying138 hs (some ⟨g, o, none⟩) m c2 (i + 1) ((i : Int) + 1) (by push_cast; rfl) .i64 h1 w).trans (by rw [show cutA (some ⟨g, o, none⟩) (i + 1) c2 2 = some ⟨g, o + (i + 1) * 2, none⟩ from by unfold cutA; rw [if_neg (by omega)]; simp [Addr.add]])
  have hc2 := fun w => hca w (n + 1) cap (by omega) (by omega)
  have hc3 := fun w => hcb w (n + 1) cap (by omega) (by omega)
  have hch := fun w => run_cut_h (P := Try.prog) Try.underlying138 hs (some ⟨g, o, none⟩) n cap (n + 1) ((n : Int) + 1) (by push_cast; rfl) .i64 hroom' w
  have hcur1 : 1 ≤ cur.size := by omega
  have hov : ∀ lb cb, (callFunc 93 #[.slice (some ⟨vb, 0, none⟩) 1 1, .slice (some ⟨g, o + (i + 1) * 2, none⟩) lb cb]).run Try.prog w = .ok (.value (.bool false)) w := fun lb cb => by
   have sz : ∀ w, (Go.sizeOf 158).run Try.prog w = .ok 2 w := fun w => by
    cases hq : Try.prog.info? 158 with
    | none => simp [hq] at hs
    | some i => simp [hq] at hs; simp [sizeOf, typeInfo, hq, hs]
   rw [run_callFunc_extern Try.func93 (by kernel_rfl) (by kernel_rfl) (by kernel_rfl) (e := Extern.SlicesOverlaps.overlaps #[138, 138] #[4]) (by kernel_rfl),
    Lib.run_overlaps_apart w 138 4 158 Try.underlying138 2 sz ⟨vb, 0, none⟩ ⟨g, o + (i + 1) * 2, none⟩ 1 1 lb cb (fun h => hgv h.symm) 158 158 c.toArray.size cur.size (by simp [World.shape?, show w.heap[vb]? = _ from hV.out]) (by simp [World.shape?, hg.out]) (by omega) (hp_frz hV.out _) (hp_frz hV.out _)]
   rfl
  clear hca hcb hc0
  replace hgv := Lib.hid hgv
  go_enter Try.func80, Try.ntmps80
  go_upto_region 15 with (simp only [hov])
  refine wp_region_gg [] [] [8] (by kernel_rfl) ?_
  refine hoist [] [] (a1 := ?_) 0 rfl (by kernel_rfl) (.inl ⟨rfl, rfl⟩) rfl rfl rfl (fun x K hK => ?_) ?_
  rotate_left
  ·go_big_quiet_op
   exact hK
  refine hoist [] [] (a1 := ?_) 1 rfl (by kernel_rfl) (.inl ⟨rfl, rfl⟩) rfl rfl rfl (fun x K hK => ?_) ?_
  rotate_left
  ·go_big_quiet_op
   exact hK
  refine hoist [] [] (a1 := ?_) 2 rfl (by kernel_rfl) (.inl ⟨rfl, rfl⟩) rfl rfl rfl (fun x K hK => ?_) ?_
  rotate_left
  ·go_big_quiet_op
   exact hK
  refine hoist [] [] (a1 := ?_) 3 rfl (by kernel_rfl) (.inl ⟨rfl, rfl⟩) rfl rfl rfl (fun x K hK => ?_) ?_
  rotate_left
  ·go_big_quiet_op
   exact hK
  refine hoist [] [] (a1 := ?_) 4 rfl (by kernel_rfl) (.inl ⟨rfl, rfl⟩) rfl rfl rfl (fun x K hK => ?_) ?_
  rotate_left
  ·go_big_quiet_op
   exact hK
  refine hoist [] [] (a1 := ?_) 5 rfl (by kernel_rfl) (.inl ⟨rfl, rfl⟩) rfl rfl rfl (fun x K hK => ?_) ?_
  rotate_left
  ·go_big_quiet_op
   exact hK
  refine hoist [] [] (a1 := ?_) 6 rfl (by kernel_rfl) (.inl ⟨rfl, rfl⟩) rfl rfl rfl (fun x K hK => ?_) ?_
  rotate_left
  ·go_big_quiet_op
   exact hK
  refine hoist [] [] (a1 := ?_) 7 rfl (by kernel_rfl) (.inl ⟨rfl, rfl⟩) rfl rfl rfl (fun x K hK => ?_) ?_
  rotate_left
  ·go_big_quiet_op
   exact hK
  refine tail 8 rfl (by kernel_rfl) rfl (fun xr => ?_)
  simp only [List.drop_succ_cons, List.drop_zero]
  clear hov hch
  have hg1 := xr.bw.heap hg.out
  have hV1 := hV.out.bw xr.bw
  have hmin : Nat.min (n + 1 - i) (n - i) = n - i := by show min (n + 1 - i) (n - i) = n - i; omega
  obtain ⟨w2, cur2, hr2, hg2, hs2, hj2, T2⟩ := copy_row (P := Try.prog) xr.now 138 138 0 158 hpos g (o + (i + 1) * 2) (n - i) (cap - (i + 1)) ⟨g, o + i * 2, none⟩ (n + 1 - i) (cap - i) (xs.drop (i * 2)) cur hg1 Try.underlying138 hs (by rw [hmin]; exact hdl.out)
   (fun j u hj => by
    rw [Addr.add_lit, hp_cell hg1, ← Array.getElem?_toList, Nat.add_assoc, ← hj, List.getElem?_drop]
    have := (List.getElem?_eq_some_iff.1 hj).1
    rw [hdl.out] at this
    exact hxk.out _ (by omega)) hd1.out (by rw [hdl.out]; omega)
  rw [hmin] at hr2
  have hV2 := HpB.st hV1 T2 (by simpa using fun e => hgv.out e.symm)
  obtain ⟨w3, cur3, hr3, hg3, hs3, hj3, T3⟩ := copy_row (P := Try.prog) w2 138 138 0 158 hpos g (o + i * 2) (n + 1 - i) (cap - i) ⟨vb, 0, none⟩ 1 1 c cur2 hg2 Try.underlying138 hs (by rw [show Nat.min 1 (n + 1 - i) = 1 from by show min 1 (n + 1 - i) = 1; omega, Nat.one_mul]; exact hcl.out) (hvsrc.out w2 hV2) hc1.out (by rw [hcl.out, hs2]; omega)
  rw [show Nat.min 1 (n + 1 - i) = 1 from by show min 1 (n + 1 - i) = 1; omega] at hr3
  have T23 := (xr.bw.still [g]).trans (T2.trans T3)
  have hO3 : Ows w3 base 158 2 (.slice (some ⟨g, o, none⟩) (n + 1) cap) (n + 1) (xs.take (i * 2) ++ c ++ xs.drop (i * 2)) := by
   refine ins_ows hbg hg3 hroom' hcm (by omega) hxl.out hcl.out hi (fun k hk => ?_) (fun k hk => ?_) (fun k h1 h2 => ?_)
   ·rw [hj3, if_neg (by omega), hj2, if_neg (by omega)]; exact hxk.out k (by omega)
   ·rw [hj3, if_pos (by rw [hcl.out]; omega)]; congr 1; omega
   ·rw [hj3, if_neg (by rw [hcl.out]; omega), hj2, if_pos (by rw [hdl.out]; omega), List.getElem?_drop]; congr 1; omega
  have hEL3 : EL E w3 base (l.take i ++ [x] ++ l.drop i) (xs.take (i * 2) ++ c ++ xs.drop (i * 2)) := hlist.out.mono fun _ _ h => E.still h T23 (fun k hk => hOk.out k (by simpa [Value.ownBlock] using hk))
  have hQ3 : EQ E 158 w3 base (.slice (some ⟨g, o, none⟩) (n + 1) cap) (n + 1) (l.take i ++ [x] ++ l.drop i) := ⟨hlen.out, _, by rw [hE.out]; exact hO3, hEL3⟩
  clear hj2 hj3 hg2 hg3 hs2 hs3 hV1 hV2 hg1 T2 T3 hO3 hEL3 q1 q2
  replace hQ3 := Lib.hid hQ3
  replace T23 := Lib.hid T23
  replace hmin := Lib.hid hmin
  refine wpList_copy_run rfl _ _ _ _ rfl (.slice (some ⟨g, o + (i + 1) * 2, none⟩) (n - i) (cap - (i + 1))) (.slice (some ⟨g, o + i * 2, none⟩) (n + 1 - i) (cap - i)) _ rfl rfl (fun _ => by rw [← hr2]; rfl) ?_
  go_wp2_with (refine wpList_copy_run (o := ⟨some 82, _, _, _, _, _⟩) rfl _ _ _ _ rfl (.slice (some ⟨g, o + i * 2, none⟩) (n + 1 - i) (cap - i)) (.slice (some ⟨vb, 0, none⟩) 1 1) _ rfl rfl (fun _ => by rw [← hr3]; rfl) ?_)
  go_ret
  exact ⟨_, _, rfl, hQ3.out, fun j hj => .inl (by simpa [Value.ownBlock] using hj), by simpa [Value.ownBlock] using T23.out⟩
end Go.Proofs.Ytojedpahaifjgaa

namespace Go.Proofs.Ytojedpahaifjgaa
open Go.RowKit
theorem nan_any (x : Int) (w : World) : Calls Try.prog 101 #[.int .i64 x] w fun e w' => e = .returned (.bool false) ∧ w = w' := by
 have d : (x != x) = false := by simp
 go_enter Try.func101, Try.ntmps101
 go_wp2
 go_ret
 exact ⟨rfl, rfl⟩
def cmpI (x y : Int) : Int := if x < y then -1 else if y < x then 1 else 0
theorem cmp_any (x y : Int) (w : World) : Calls Try.prog 92 #[.int .i64 x, .int .i64 y] w fun e w' => e = .returned (.int .i64 (cmpI x y)) ∧ w = w' := by
 unfold cmpI
 by_cases h1 : x < y
 ·have d1 : decide (x < y) = true := by simpa using h1
  rw [if_pos h1]
  replace h1 := Lib.hid h1
  go_enter Try.func92, Try.ntmps92
  go_wp2_with fail
  refine Calls.mono (nan_any x _) ?_
  rintro e w' ⟨rfl, rfl⟩
  dsimp only
  go_wp2_with fail
  refine Calls.mono (nan_any y _) ?_
  rintro e w' ⟨rfl, rfl⟩
  dsimp only
  go_wp2_with fail
  go_ret
  exact ⟨rfl, rfl⟩
 have d1 : decide (x < y) = false := by simpa using h1
 rw [if_neg h1]
 by_cases h2 : y < x
 ·have d2 : decide (y < x) = true := by simpa using h2
  rw [if_pos h2]
  replace h1 := Lib.hid h1
  replace h2 := Lib.hid h2
  go_enter Try.func92, Try.ntmps92
  go_wp2_with fail
  refine Calls.mono (nan_any x _) ?_
  rintro e w' ⟨rfl, rfl⟩
  dsimp only
  go_wp2_with fail
  refine Calls.mono (nan_any y _) ?_
  rintro e w' ⟨rfl, rfl⟩
  dsimp only
  go_wp2_with fail
  go_ret
  exact ⟨rfl, rfl⟩
 have d2 : decide (y < x) = false := by simpa using h2
 rw [if_neg h2]
 replace h1 := Lib.hid h1
 replace h2 := Lib.hid h2
 go_enter Try.func92, Try.ntmps92
 go_wp2_with fail
 refine Calls.mono (nan_any x _) ?_
 rintro e w' ⟨rfl, rfl⟩
 dsimp only
 go_wp2_with fail
 refine Calls.mono (nan_any y _) ?_
 rintro e w' ⟨rfl, rfl⟩
 dsimp only
 go_wp2_with fail
 go_ret
 exact ⟨rfl, rfl⟩
theorem cmpPk_any (x y : Int) (u : Value) (w : World) : Calls Try.prog 91 #[.agg #[.int .i64 x, u], .int .i64 y] w fun e w' => e = .returned (.int .i64 (cmpI x y)) ∧ BW w w' := by
 go_enter Try.func91, Try.ntmps91
 go_wp2_with fail
 refine Calls.mono (cmp_any x y _) ?_
 rintro e w' ⟨rfl, rfl⟩
 dsimp only
 go_wp2_with fail
 go_ret
 exact ⟨rfl, (by repeat (first | exact BW.refl _ | apply BW.alloc | apply BW.drewN | apply BW.drew))⟩
def Srt (L : PL) : Prop := ∀ i j, i < j → j < L.length → cl L i < cl L j
def lowN (L : PL) (x : Int) : Nat := (L.takeWhile fun p => decide (p.1 < x)).length
theorem lowN_eq {L : PL} {x : Int} {k : Nat} (h1 : k ≤ L.length) (h2 : ∀ j, j < k → cl L j < x) (h3 : ∀ j, k ≤ j → j < L.length → x ≤ cl L j) : lowN L x = k := by
 induction L generalizing k with
 | nil => simp at h1; subst h1; rfl
 | cons p L ih =>
  unfold lowN
  cases k with
  | zero =>
   have : x ≤ p.1 := h3 0 (Nat.le_refl _) (by simp)
   rw [List.takeWhile_cons, if_neg (by simpa using this)]; rfl
  | succ k =>
   have : p.1 < x := h2 0 (by omega)
   rw [List.takeWhile_cons, if_pos (by simpa using this), List.length_cons]
   have := ih (k := k) (by simpa using h1) (fun j hj => h2 (j + 1) (by omega)) (fun j hj hl => h3 (j + 1) (by omega) (by simpa using hl))
   unfold lowN at this
   rw [this]
def isAt (L : PL) (x : Int) : Bool := decide (lowN L x < L.length ∧ cl L (lowN L x) = x)
set_option maxRecDepth 100000 in
set_option maxHeartbeats 8000000 in
theorem search_any (base : Nat) (v : Value) (n : Nat) (L : PL) (x : Int) (w : World) (h : EQ IB 158 w base v n L) (hs : Srt L) (hn : n ≤ 1000000) :
  Calls Try.prog 90 #[v, .int .i64 x, .func (.func 91) #[] #[]] w fun e w' => e = .returned (.tuple #[.int .i64 (lowN L x : Nat), .bool (isAt L x)]) ∧ BW w w' := by
 obtain ⟨sv, cv, rfl, hnc, hcm⟩ := h.len
 unfold maxLen at hcm
 have hQ := Lib.hid h
 have hS := Lib.hid hs
 have hn1 := Lib.hid h.1
 clear h hs
 go_enter Try.func90, Try.ntmps90
 go_upto_region 3 with (fail)
 go_loopg [9, 10] n (fun m' i j wx => ∃ lo hi : Nat, m' = hi - lo ∧ lo ≤ hi ∧ hi ≤ n ∧ i = .int .i64 (lo : Nat) ∧ j = .int .i64 (hi : Nat) ∧ Hid (∀ k, k < lo → cl L k < x) ∧ Hid (∀ k, hi ≤ k → k < L.length → x ≤ cl L k) ∧ Hid (BW w wx))
 case atStart => exact ⟨0, n, by omega, by omega, by omega, rfl, rfl, (fun k hk => by omega), (fun k h1 h2 => by have := hn1.out; omega), BW.refl _⟩
 case round =>
  obtain ⟨lo, hi, rfl, hlh, hhn, rfl, rfl, hlo, hhi, B⟩ := hrel
  by_cases hl : lo < hi
  ·have d1 : decide ((lo : Int) < (hi : Int)) = true := by simp; omega
   have hm1 : lo ≤ (lo + hi) / 2 := by omega
   have hm2 : (lo + hi) / 2 < hi := by omega
   obtain ⟨g, o, cap, hsl, _, _, _, _, hce⟩ := (hQ.out.bw B.out).form (by omega)
   simp only [Value.slice.injEq] at hsl
   obtain ⟨rfl, -, rfl⟩ := hsl
   obtain ⟨c, ⟨u, hc, hu⟩, hcc⟩ := hce ((lo + hi) / 2) (by have := hn1.out; omega)
   obtain ⟨su, cu, rfl, hx1, hx2⟩ := hu.len
   clear hx1 hx2
   have z0 := hcc 0 (by decide)
   have z1 := hcc 1 (by decide)
   rw [hc] at z0 z1
   rw [← cl_get] at z0
   have e2 : IB.size = 2 := rfl
   rw [e2] at z0 z1
   clear e2
   simp only [List.getElem?_cons_zero, List.getElem?_cons_succ, Nat.add_zero, ← Nat.add_assoc] at z0 z1
   clear hce hcc hc hu
   generalize (L[(lo + hi) / 2]'(by have := hn1.out; omega)).2.length = bl at *
   go_wp2_with fail
   refine Calls.mono (cmpPk_any (cl L ((lo + hi) / 2)) x _ _) ?_
   rintro e w2 ⟨rfl, hb⟩
   have B2 := Lib.hid (B.out.trans hb)
   have hmI : ((lo : Int) + (hi : Int)) / 2 = (((lo + hi) / 2 : Nat) : Int) := by omega
   rw [hmI]
   clear hb z0 z1 d1 hmI
   generalize (lo + hi) / 2 = m at *
   dsimp only
   have hml : m < L.length := by have := hn1.out; omega
   by_cases hc : cl L m < x
   ·have d2 : cmpI (cl L m) x = -1 := by unfold cmpI; rw [if_pos hc]
    rw [d2]
    have d3 : decide ((-1 : Int) < 0) = true := by decide
    have hlo2 : ∀ k, k < m + 1 → cl L k < x := fun k hk => by
     by_cases e : k = m
     ·rw [e]; exact hc
     ·have := hS.out k m (by omega) hml; omega
    clear d2
    replace hlo2 := Lib.hid hlo2
    replace hc := Lib.hid hc
    go_wp2_with fail
    go_roundg (hi - (m + 1))
    case measure => omega
    case rel => exact ⟨m + 1, hi, rfl, by omega, by omega, by push_cast; rfl, rfl, hlo2, hhi, B2⟩
   ·have hc0 : 0 ≤ cmpI (cl L m) x := by unfold cmpI; rw [if_neg hc]; split <;> decide
    generalize cmpI (cl L m) x = cc at *
    have d3 : decide (cc < 0) = false := by simp; omega
    have hhi2 : ∀ k, m ≤ k → k < L.length → x ≤ cl L k := fun k h1 h2 => by
     by_cases e : k = m
     ·rw [e]; omega
     ·have := hS.out m k (by omega) h2; omega
    replace hhi2 := Lib.hid hhi2
    replace hc := Lib.hid hc
    go_wp2_with fail
    go_roundg (m - lo)
    case measure => omega
    case rel => exact ⟨lo, m, rfl, by omega, by omega, rfl, rfl, hlo, hhi2, B2⟩
  ·obtain rfl : lo = hi := by omega
   have d1 : decide ((lo : Int) < (lo : Int)) = false := by simp
   have hk := lowN_eq (L := L) (x := x) (k := lo) (by have := hn1.out; omega) hlo.out hhi.out
   by_cases hln : lo < n
   ·have d2 : decide ((lo : Int) < (n : Int)) = true := by simp; omega
    obtain ⟨g, o, cap, hsl, _, _, _, _, hce⟩ := (hQ.out.bw B.out).form (by omega)
    simp only [Value.slice.injEq] at hsl
    obtain ⟨rfl, -, rfl⟩ := hsl
    obtain ⟨c, ⟨u, hc, hu⟩, hcc⟩ := hce lo (by have := hn1.out; omega)
    obtain ⟨su, cu, rfl, _, _⟩ := hu.len
    have z0 := hcc 0 (by decide)
    have z1 := hcc 1 (by decide)
    rw [hc] at z0 z1
    rw [← cl_get] at z0
    have e2 : IB.size = 2 := rfl
    rw [e2] at z0 z1
    clear e2
    simp only [List.getElem?_cons_zero, List.getElem?_cons_succ, Nat.add_zero, ← Nat.add_assoc] at z0 z1
    clear hce hcc hc hu d1
    have hR : isAt L x = (cmpI (cl L lo) x == 0) := by
     unfold isAt
     rw [hk]
     have h1 : lo < L.length := by have := hn1.out; omega
     have h2 := hhi.out lo (Nat.le_refl _) h1
     unfold cmpI
     rw [if_neg (by omega)]
     by_cases e : cl L lo = x
     ·rw [if_neg (by omega)]; simp [h1, e]
     ·rw [if_pos (by omega)]; simp [e]
    replace hk := Lib.hid hk
    replace hR := Lib.hid hR
    go_wp2_with fail
    refine Calls.mono (cmpPk_any (cl L lo) x _ _) ?_
    rintro e w2 ⟨rfl, hb⟩
    have B2 := Lib.hid (B.out.trans hb)
    clear hb z0 z1
    dsimp only
    go_wp2_with fail
    go_ret2
    rw [hk.out, hR.out]
    exact ⟨rfl, B2.out⟩
   ·have d2 : decide ((lo : Int) < (n : Int)) = false := by simp; omega
    have hR : isAt L x = false := by
     unfold isAt
     rw [hk, decide_eq_false (fun h => by have := hn1.out; have := h.1; omega)]
    replace hk := Lib.hid hk
    replace hR := Lib.hid hR
    clear d1
    go_wp2_with fail
    go_ret2
    rw [hk.out, hR.out]
    exact ⟨rfl, B.out⟩
end Go.Proofs.Ytojedpahaifjgaa

namespace Go.Proofs.Ytojedpahaifjgaa
open Go.RowKit
theorem pk_form {T : TypeId} {w : World} {base : Nat} {sv : Option Addr} {n cap : Nat} {L : PL} (h : EQ IB T w base (.slice sv n cap) n L) (h0 : 0 < n) :
  ∃ g o, sv = some ⟨g, o, none⟩ ∧ ∀ i (hi : i < L.length), ∃ u, w.cell? ⟨g, o + i * 2, none⟩ = some (.int .i64 (cl L i)) ∧ w.cell? ⟨g, o + i * 2 + 1, none⟩ = some u ∧ OB w base 5 u (L[i]).2.length (L[i]).2 := by
 obtain ⟨g, o, cap', hsl, _, _, _, _, hce⟩ := h.form h0
 simp only [Value.slice.injEq] at hsl
 refine ⟨g, o, hsl.1, fun i hi => ?_⟩
 obtain ⟨c, ⟨u, hc, hu⟩, hcc⟩ := hce i hi
 have z0 := hcc 0 (by decide)
 have z1 := hcc 1 (by decide)
 rw [hc] at z0 z1
 have e2 : IB.size = 2 := rfl
 rw [e2] at z0 z1
 refine ⟨u, ?_, ?_, hu⟩
 ·rw [cl_get hi]; exact z0
 ·exact z1
structure RingV (w : World) (base g : Nat) (pk by_ : Int) (v : Value) (L : PL) : Prop where
 cells : HpB w g (.cells #[.int .i64 pk, .int .i64 by_, v, .int .i64 (lensL L : Nat)] 140)
 q : EQ IB 158 w base v L.length L
theorem RingV.bw {w w' : World} {base g : Nat} {pk by_ : Int} {v : Value} {L : PL} (h : RingV w base g pk by_ v L) (hb : BW w w') : RingV w' base g pk by_ v L := ⟨h.cells.bw hb, h.q.bw hb⟩
theorem RingV.still {w w' : World} {base g : Nat} {pk by_ : Int} {v : Value} {L : PL} (h : RingV w base g pk by_ v L) {S : List Nat} (hs : Still S w w') (hS : ∀ k ∈ S, NoB w k) (hg : g ∉ S) (hv : ∀ k, v.ownBlock = some k → k ∉ S) : RingV w' base g pk by_ v L := ⟨h.cells.st hs hg, h.q.still hs hS hv⟩
theorem RingV.old {w w' : World} {base g : Nat} {pk by_ : Int} {v : Value} {L : PL} (h : RingV w base g pk by_ v L) {S : List Nat} (hs : Still S w w') (hS : ∀ k ∈ S, k < base) (hg : g ∉ S) : RingV w' base g pk by_ v L := ⟨h.cells.st hs hg, h.q.old hs hS⟩
theorem RingV.noB {w : World} {base g : Nat} {pk by_ : Int} {v : Value} {L : PL} (h : RingV w base g pk by_ v L) : ∀ k ∈ [g], NoB w k := fun k hk => by
 obtain rfl : k = g := by simpa using hk
 exact .inr ⟨_, _, _, h.cells, by decide⟩
theorem ring_no (pk by_ : Int) (w : World) (h : pk < 1 ∨ by_ < 0) :
  Calls Try.prog 33 #[.int .i64 pk, .int .i64 by_] w fun e w' => e = .returned (.pointer none) ∧ w = w' := by
 by_cases hp : pk < 1
 ·have d1 : decide (pk < 1) = true := by simpa using hp
  go_enter Try.func33, Try.ntmps33
  go_wp2_with fail
  go_ret
  exact ⟨rfl, rfl⟩
 ·have d1 : decide (pk < 1) = false := by simpa using hp
  have d2 : decide (by_ < 0) = true := by simp; omega
  go_enter Try.func33, Try.ntmps33
  go_wp2_with fail
  go_ret
  exact ⟨rfl, rfl⟩
theorem ring_new (pk by_ : Int) (w : World) (h1 : 1 ≤ pk) (h2 : 0 ≤ by_) :
  Calls Try.prog 33 #[.int .i64 pk, .int .i64 by_] w fun e w' => e = .returned (.pointer (some ⟨w.heap.size, 0, none⟩)) ∧ (∀ base, RingV w' base w.heap.size pk by_ (.slice none 0 0) []) ∧ BW w w' := by
 have d1 : decide (pk < 1) = false := by simp; omega
 have d2 : decide (by_ < 0) = false := by simp; omega
 go_enter Try.func33, Try.ntmps33
 go_wp2_with fail
 go_ret
 exact ⟨rfl, fun base => ⟨hp_new _ _ _ rfl, EQ.nil _ _ _ _⟩, (by repeat (first | exact BW.refl _ | apply BW.alloc | apply BW.drewN | apply BW.drew))⟩
theorem rlen_any (base g : Nat) (pk by_ : Int) (v : Value) (L : PL) (w : World) (h : RingV w base g pk by_ v L) :
  Calls Try.prog 65 #[.pointer (some ⟨g, 0, none⟩)] w fun e w' => e = .returned (.int .i64 (L.length : Nat)) ∧ w = w' := by
 obtain ⟨sv, cv, rfl, hnc, hmc⟩ := h.q.len
 have z2 : w.cell? ⟨g, 2, none⟩ = some (.slice sv L.length cv) := hp_cell h.cells 2
 unfold maxLen at hmc
 clear h
 generalize L.length = n at *
 go_enter Try.func65, Try.ntmps65
 go_wp2_with fail
 go_ret
 exact ⟨rfl, rfl⟩
theorem rsiz_any (base g : Nat) (pk by_ : Int) (v : Value) (L : PL) (w : World) (h : RingV w base g pk by_ v L) :
  Calls Try.prog 66 #[.pointer (some ⟨g, 0, none⟩)] w fun e w' => e = .returned (.int .i64 (lensL L : Nat)) ∧ w = w' := by
 have z3 : w.cell? ⟨g, 3, none⟩ = some (.int .i64 (lensL L : Nat)) := hp_cell h.cells 3
 clear h
 generalize lensL L = n at *
 go_enter Try.func66, Try.ntmps66
 go_wp2_with fail
 go_ret
 exact ⟨rfl, rfl⟩
set_option maxRecDepth 100000 in
set_option maxHeartbeats 8000000 in
theorem find_any (base g : Nat) (pk by_ : Int) (v : Value) (L : PL) (x : Int) (w : World) (h : RingV w base g pk by_ v L) (hs : Srt L) (hn : L.length ≤ 1000000) :
  Calls Try.prog 79 #[.pointer (some ⟨g, 0, none⟩), .int .i64 x] w fun e w' => e = .returned (.tuple #[.int .i64 (lowN L x : Nat), .bool (isAt L x)]) ∧ BW w w' := by
 have z2 : w.cell? ⟨g, 2, none⟩ = some v := hp_cell h.cells 2
 obtain ⟨sv, cv, rfl, hnc, hmc⟩ := h.q.len
 have c := Lib.hid (search_any base _ L.length L x w h.q hs hn)
 clear h
 generalize lowN L x = k at *
 generalize isAt L x = b at *
 go_enter Try.func79, Try.ntmps79
 go_wp2_with fail
 refine Calls.mono c.out ?_
 rintro e w1 ⟨rfl, hb⟩
 dsimp only
 go_wp2_with fail
 go_ret2
 exact ⟨rfl, hb⟩
set_option maxRecDepth 100000 in
set_option maxHeartbeats 8000000 in
theorem clonePk_any (base : Nat) (v : Value) (n : Nat) (L : PL) (w : World) (h : EQ IB 158 w base v n L) (hn : n ≤ 1000000) (hbase : base ≤ w.heap.size) :
  Calls Try.prog 95 #[v] w fun e w' => ∃ v', e = .returned v' ∧ EQ IB 158 w' base v' n L ∧ (∀ k, v'.ownBlock = some k → w.heap.size ≤ k) ∧ BW w w' := by
 obtain ⟨sv, cv, rfl, hnc, hmc⟩ := h.len
 cases sv with
 | none =>
  obtain ⟨h0, xs, ⟨h1, ⟨h2, rfl⟩ | ⟨_, _, _, _, h2, _⟩⟩, h3⟩ := h
  ·obtain rfl : L = [] := List.eq_nil_of_length_eq_zero h0
   simp only [Value.slice.injEq, true_and] at h2
   subst h2
   have heq := fun (w : World) => Lib.run_eql_slice_nil (P := Try.prog) w 138 158 none 0 0 0 0 Try.underlying138
   go_enter Try.func95, Try.ntmps95
   go_wp2_with fail
   go_ret
   exact ⟨_, rfl, EQ.nil _ _ _ _, (fun k hk => by cases hk), BW.refl _⟩
  ·cases h2
 | some ad =>
  have heq := fun (w : World) => Lib.run_eql_slice_nil (P := Try.prog) w 138 158 (some ad) n cv 0 0 Try.underlying138
  have B1 : BW w (w.alloc (.cells #[] 158)) := (BW.refl w).alloc
  have hg1 : (w.alloc (.cells #[] 158)).heap[w.heap.size]? = some (.cells #[] 158 (0, 0)) := heap_alloc_new _ _
  obtain ⟨h0, ys, h1, h2⟩ := h.bw B1
  have hS := Lib.hid h1.sls
  have hY := Lib.hid h2
  have hb1 := Nat.le_trans hbase B1.size
  have B2 := Lib.hid B1
  replace hg1 := Lib.hid hg1
  replace h0 := Lib.hid h0
  clear h1 h2 h B1
  go_enter Try.func95, Try.ntmps95
  go_wp2_with (at_builtin; go_must (refine wpList_plain rfl fun _ hK => wp_apEQ0 slPk _ _ rfl base w.heap.size rfl hbase hg1.out _ rfl n L ys hS.out hY.out h0.out (by omega) hb1 ?_; intro s5 c5 w5 hc5 hm5 Q5 B5 G5; refine hK _ _ ?_; clear hK; unfold maxLen at hm5; replace Q5 := Lib.hid Q5; replace B5 := Lib.hid B5; replace G5 := Lib.hid G5))
  have hsz := B2.out.size
  go_ret
  exact ⟨_, rfl, Q5.out, fun k hk => by rcases G5.out k hk with h | h <;> omega, B2.out.trans B5.out⟩
def getN (L : PL) (x : Int) : List Nat := if isAt L x = true then (L.getD (lowN L x) (0, [])).2 else []
set_option maxRecDepth 100000 in
set_option maxHeartbeats 8000000 in
theorem get_any (base g : Nat) (pk by_ : Int) (v : Value) (L : PL) (x : Int) (w : World) (h : RingV w base g pk by_ v L) (hs : Srt L) (hn : L.length ≤ 1000000) (hl : lensL L ≤ 1000000000) :
  Calls Try.prog 46 #[.pointer (some ⟨g, 0, none⟩), .int .i64 x] w fun e w' => ∃ u, e = .returned (.tuple #[u, .bool (isAt L x)]) ∧ OB w' w.heap.size 5 u (getN L x).length (getN L x) ∧ BW w w' := by
 have cF := Lib.hid (find_any base g pk by_ v L x w h hs hn)
 have hH := Lib.hid h
 clear h
 go_enter Try.func46, Try.ntmps46
 go_wp2_with fail
 refine Calls.mono cF.out ?_
 rintro e w1 ⟨rfl, hb⟩
 have H1 := Lib.hid (hH.out.bw hb)
 have B1 := Lib.hid hb
 clear hb cF
 dsimp only
 cases hA : isAt L x with
 | false =>
  have hG : getN L x = [] := by unfold getN; rw [hA, if_neg (by decide)]
  replace hG := Lib.hid hG
  replace hA := Lib.hid hA
  go_wp2_with fail
  go_ret2
  refine ⟨.slice none 0 0, by rw [hA.out]; rfl, ?_, B1.out⟩
  rw [hG.out]
  exact OB.nil _ _ _
 | true =>
  have hk := (of_decide_eq_true hA).1
  have hG : getN L x = (L[lowN L x]).2 := by
   unfold getN
   rw [hA, if_pos rfl, List.getD_eq_getElem?_getD, List.getElem?_eq_getElem hk]; rfl
  obtain ⟨sv, cv, rfl, hnc, hmc⟩ := H1.out.q.len
  have z2 : w1.cell? ⟨g, 2, none⟩ = some (.slice sv L.length cv) := hp_cell H1.out.cells 2
  obtain ⟨g1, o1, rfl, hce⟩ := pk_form H1.out.q (by omega)
  obtain ⟨u, z0, z1, hu⟩ := hce _ hk
  obtain ⟨su, cu, rfl, _, _⟩ := hu.len
  have hbl := lensL_get L _ hk
  unfold maxLen at hmc
  generalize hx : L[lowN L x] = p at *
  obtain ⟨pi, pb⟩ := p
  dsimp only at z1 hu hbl hG
  have cC := Lib.hid (clone_ok su pb.length cu pb (by omega) w1 hu.sb)
  clear hce hu
  clear hx
  replace hA := Lib.hid hA
  replace hG := Lib.hid hG
  have hk2 : lowN L x < L.length := hk
  clear hk
  generalize lowN L x = k at *
  generalize L.length = n at *
  go_wp2_with fail
  refine Calls.mono cC.out ?_
  rintro e w2 ⟨v2, rfl, O2, hb⟩
  obtain ⟨s2, c2, rfl, _, _⟩ := O2.len
  have hsz := B1.out.size
  have O3 := Lib.hid (O2.up hsz)
  have B2 := Lib.hid (B1.out.trans hb)
  clear cC O2 hb
  dsimp only
  go_wp2_with fail
  go_ret2
  refine ⟨.slice s2 pb.length c2, by rw [hA.out]; rfl, ?_, B2.out⟩
  rw [hG.out]
  exact O3.out
end Go.Proofs.Ytojedpahaifjgaa
