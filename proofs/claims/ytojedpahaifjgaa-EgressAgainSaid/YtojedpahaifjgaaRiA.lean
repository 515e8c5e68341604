/- Rings: packets in a slice: insertion. No condition but the sizes'. -/
import Derived.Test.YtojedpahaifjgaaIB
import Derived.Test.YtojedpahaifjgaaIns
namespace Go.Proofs.Ytojedpahaifjgaa
open Go.RowKit

theorem slPk : SlTy Try.prog 138 158 2 32 := SlTy.mk' Try.underlying138 (by kernel_rfl) (by decide)
-- slices.Insert of one element: keys FN (function), ST (slice type), ET (element type), N (name), OV (what stands behind slices.overlaps)
set_option maxRecDepth 100000 in
set_option maxHeartbeats 8000000 in
theorem insert_pk {α : Type} (E : Elt α) (hE : E.size = 2) {bytes : Nat} (hT : SlTy Try.prog 138 158 E.size bytes) (hbytes : bytes ≤ 1000) (base : Nat) (v : Value) (n i : Nat) (l : List α) (x : α) (c : List Value) (vb : Nat) (w : World)
    (hown : EQ E 158 w base v n l) (hvb : HpB w vb (.cells c.toArray 158)) (hx : E.R w base x c) (hne : ∀ k, v.ownBlock = some k → k ≠ vb) (hi : i ≤ n) (hn : n ≤ 1000000) (hbase : base ≤ w.heap.size) (hOk : ∀ j ∈ v.ownBlock.toList, E.Ok w j) :
    Calls Try.prog 80 #[v, .int .i64 (i : Nat), .slice (some ⟨vb, 0, none⟩) 1 1] w fun e w' => ∃ sa cap, e = .returned (.slice sa (n + 1) cap) ∧ EQ E 158 w' base (.slice sa (n + 1) cap) (n + 1) (l.take i ++ [x] ++ l.drop i) ∧ (∀ j, (Value.slice sa (n + 1) cap).ownBlock = some j → v.ownBlock = some j ∨ w.heap.size ≤ j) ∧ Still v.ownBlock.toList w w' := by
  obtain ⟨sv, cap, rfl, hnc, hcm⟩ := hown.len
  have hcl := E.len hx
  rw [hE] at hcl
  have hT2 : SlTy Try.prog 138 158 2 bytes := hE ▸ hT
  have hs : (Try.prog.info? 158).map (·.size) = some 2 := by
    obtain ⟨i, z, e1, e2, e3, _⟩ := hT2.ex
    rw [e1]; simp [e3]
  have hO := Lib.hid hown
  have hV := Lib.hid hvb
  have hX := Lib.hid hx
  have hT' := Lib.hid hT
  have cm := hcm
  unfold maxLen at cm
  have hSl : Sls w E.size (.slice (some ⟨vb, 0, none⟩) 1 1) 1 c := ⟨by rw [hcl, hE], by decide, .inr ⟨vb, 0, 1, rfl, Nat.le_refl _, by decide, HpB.lt hvb, fun j hj => by rw [Nat.zero_add, hp_cell hvb j, List.getElem?_toArray]⟩⟩
  clear hown hvb hx hT
  have hc0 := fun w => run_cut_l (P := Try.prog) Try.underlying138 hs sv n cap i (i : Int) rfl .i64 hi w
  replace hSl := Lib.hid hSl
  replace hne := Lib.hid hne
  replace hOk := Lib.hid hOk
  replace hcl := Lib.hid hcl
  replace hE := Lib.hid hE
  replace hT2 := Lib.hid hT2
  by_cases hin : i = n
  · subst hin
    have d1 : ((i : Int) == (i : Int)) = true := by simp
    have hsz : (i + 1) * bytes ≤ 140737488355328 := by
      have : (i + 1) * bytes ≤ 1000001 * 1000 := Nat.mul_le_mul (by omega) hbytes
      omega
    go_enter Try.func80, Try.ntmps80
    go_wp2_with (at_builtin; go_must (refine wpList_apEQ hT'.out rfl _ _ rfl base _ i l rfl hO.out _ rfl 1 [x] c hSl.out (EL.single hX.out) rfl hsz hbase hOk.out ?_; intro s6 c6 w6 hc6 hm6 O6 T6 hb6 G6; unfold maxLen at hm6; replace O6 := Lib.hid O6; replace T6 := Lib.hid T6; replace G6 := Lib.hid G6; clear hb6))
    go_ret
    have hl := hO.out.1
    rw [List.take_of_length_le (by omega), List.drop_of_length_le (by omega), List.append_nil]
    exact ⟨s6, c6, rfl, O6.out, G6.out, T6.out⟩
  have hlt : i < n := by omega
  have d1 : ((i : Int) == (n : Int)) = false := by simp; omega
  obtain ⟨hl, xs, hw, hEL⟩ := hO.out
  rw [hE.out] at hw
  obtain ⟨hxl, ⟨h, h0⟩ | ⟨g, o, cap', cur, he, hbg, hg, hnc', hcm', hcs, htake⟩⟩ := hw
  · omega
  simp only [Value.slice.injEq, true_and] at he
  obtain ⟨rfl, rfl⟩ := he
  have hgv : g ≠ vb := hne.out g rfl
  have hxk : ∀ k, k < n * 2 → cur.toList[o + k]? = xs[k]? := fun k hk => by
    rw [← htake, List.getElem?_take, if_pos hk, List.getElem?_drop]
  have hdl : (xs.drop (i * 2)).length = (n - i) * 2 := by rw [List.length_drop, hxl, Nat.sub_mul]
  have hd1 : ∀ v ∈ xs.drop (i * 2), v.oneCell' = true := fun v hv => hEL.one v (List.mem_of_mem_drop hv)
  have hc1 : ∀ v ∈ c, v.oneCell' = true := fun v hv => E.one hX.out v hv
  have hlist : EL E w base (l.take i ++ [x] ++ l.drop i) (xs.take (i * 2) ++ c ++ xs.drop (i * 2)) := by
    have h1 := ((hEL.take i).append (EL.single hX.out)).append (hEL.drop i)
    rw [hE.out] at h1; exact h1
  have hlen : (l.take i ++ [x] ++ l.drop i).length = n + 1 := by rw [List.length_append, List.length_append, List.length_take, List.length_drop]; simp; omega
  have hvsrc : ∀ w2 : World, w2.heap[vb]? = some (.cells c.toArray 158 (0, 0)) → ∀ j u, c[j]? = some u → w2.cell? ((⟨vb, 0, none⟩ : Addr).add j) = some u := fun w2 h2 j u hj => by
    rw [Addr.add_lit, Nat.zero_add, hp_cell h2 j, List.getElem?_toArray]; exact hj
  have hpos : 0 < 2 := by decide
  replace hxl := Lib.hid hxl
  replace hxk := Lib.hid hxk
  replace hdl := Lib.hid hdl
  replace hd1 := Lib.hid hd1
  replace hc1 := Lib.hid hc1
  replace hlist := Lib.hid hlist
  replace hlen := Lib.hid hlen
  replace hvsrc := Lib.hid hvsrc
  replace htake := Lib.hid htake
  replace hg := Lib.hid hg
  replace hEL := Lib.hid hEL
  have q1 : IntKind.i64.wrap ((n : Int) + 1) = (n : Int) + 1 := IntWalk.i64_in _ (by omega)
  have q2 : IntKind.i64.wrap ((i : Int) + 1) = (i : Int) + 1 := IntWalk.i64_in _ (by omega)
  by_cases hroom : cap < n + 1
  · obtain rfl : cap = n := by omega
    have d2 : decide ((cap : Int) < (cap : Int) + 1) = true := by simp; omega
    have q3 : IntKind.i64.wrap ((cap : Int) + 1 - (i : Int)) = ((cap + 1 - i : Nat) : Int) := by rw [show (cap : Int) + 1 - (i : Int) = ((cap + 1 - i : Nat) : Int) by omega]; exact IntWalk.i64_in _ (by omega)
    have hch := fun w => run_cut_h (P := Try.prog) Try.underlying138 hs (some ⟨g, o, none⟩) cap cap i (i : Int) rfl .i64 (by omega) w
    have htk : (xs.take (i * 2)).length = i * 2 := by rw [List.length_take, hxl.out]; omega
    have hik : i + (cap + 1 - i) = cap + 1 := by omega
    obtain ⟨w1, cap2, cur1, hr1, hc1a, hc1b, hg1, hs1, hj1, B1⟩ := grow_zeros (P := Try.prog) w hT2.out Try.underlying3 ⟨g, o, none⟩ i cap (cap + 1 - i) (xs.take (i * 2)) htk (fun j u hj => by
      rw [Addr.add_lit, hp_cell (b := g) (BW.heap ((BW.refl w).drew) hg.out), ← Array.getElem?_toList, hxk.out j (by have := (List.getElem?_eq_some_iff.1 hj).1; omega), ← hj, List.getElem?_take, if_pos (by have := (List.getElem?_eq_some_iff.1 hj).1; omega)]) (by omega) (by omega) (by
        rw [hik]
        have : (cap + 1) * bytes ≤ 1000001 * 1000 := Nat.mul_le_mul (by omega) hbytes
        omega)
    rw [hik] at hr1 hc1a
    have hgn : g < w.heap.size := HpB.lt hg.out
    have hvbn : vb < w.heap.size := HpB.lt hV.out
    obtain ⟨gn, hgn2⟩ : ∃ gn, gn = w.heap.size := ⟨_, rfl⟩
    rw [← hgn2] at hr1 hg1 hgn hvbn
    have hcm2 := hc1b
    unfold maxLen at hcm2
    have hfr : ∀ w2 (m c2 : Nat), i ≤ m → i < c2 → (Instr.slice 138 (.slice (some ⟨gn, 0, none⟩) m c2) (some (.int .i64 (i : Nat))) none none).run Try.prog w2 = .ok (.slice (some ⟨gn, i * 2, none⟩) (m - i) (c2 - i)) w2 := fun w2 m c2 h1 h2 => (run_cut_l (P := Try.prog) Try.underlying138 hs (some ⟨gn, 0, none⟩) m c2 i (i : Int) rfl .i64 h1 w2).trans (by rw [show cutA (some ⟨gn, 0, none⟩) i c2 2 = some ⟨gn, i * 2, none⟩ from by unfold cutA; rw [if_neg (by omega)]; rw [Option.map_some, Addr.add_lit, Nat.zero_add]])
    have hfs : ∀ w2 (m c2 : Nat), i + 1 ≤ m → i + 1 < c2 → (Instr.slice 138 (.slice (some ⟨gn, 0, none⟩) m c2) (some (.int .i64 ((i : Int) + 1))) none none).run Try.prog w2 = .ok (.slice (some ⟨gn, (i + 1) * 2, none⟩) (m - (i + 1)) (c2 - (i + 1))) w2 := fun w2 m c2 h1 h2 => (run_cut_l (P := Try.prog) Try.underlying138 hs (some ⟨gn, 0, none⟩) m c2 (i + 1) ((i : Int) + 1) (by push_cast; rfl) .i64 h1 w2).trans (by rw [show cutA (some ⟨gn, 0, none⟩) (i + 1) c2 2 = some ⟨gn, (i + 1) * 2, none⟩ from by unfold cutA; rw [if_neg (by omega)]; rw [Option.map_some, Addr.add_lit, Nat.zero_add]])
    have hfo : ∀ w2, (Instr.slice 138 (.slice (some ⟨g, o, none⟩) cap cap) (some (.int .i64 (i : Nat))) none none).run Try.prog w2 = .ok (.slice (some ⟨g, o + i * 2, none⟩) (cap - i) (cap - i)) w2 := fun w2 => (hc0 w2).trans (by rw [show cutA (some ⟨g, o, none⟩) i cap 2 = some ⟨g, o + i * 2, none⟩ from by unfold cutA; rw [if_neg (by omega)]; simp [Addr.add]])
    have hf1 := fun w2 => hfr w2 (cap + 1) cap2 (by omega) (by omega)
    have hf2 := fun w2 => hfs w2 (cap + 1) cap2 (by omega) (by omega)
    have hV1 := hV.out.bw B1
    have hgB := B1.heap hg.out
    obtain ⟨w2, cur2, hr2, hg2, hs2, hj2, T2⟩ := copy_row (P := Try.prog) w1 138 138 0 158 hpos gn (i * 2) (cap + 1 - i) (cap2 - i) ⟨vb, 0, none⟩ 1 1 c cur1 hg1 Try.underlying138 hs (by rw [show Nat.min 1 (cap + 1 - i) = 1 from by show min 1 (cap + 1 - i) = 1; omega, Nat.one_mul]; exact hcl.out) (hvsrc.out w1 hV1) hc1.out (by rw [hcl.out, hs1]; omega)
    rw [show Nat.min 1 (cap + 1 - i) = 1 from by show min 1 (cap + 1 - i) = 1; omega] at hr2
    have hgO := (HpB.st hgB T2 (by simp; omega))
    clear hfr hfs hc0
    replace hgv := Lib.hid hgv
    replace hV1 := Lib.hid hV1
    replace hgB := Lib.hid hgB
    replace hg2 := Lib.hid hg2
    replace hs2 := Lib.hid hs2
    replace hj2 := Lib.hid hj2
    replace T2 := Lib.hid T2
    replace hgO := Lib.hid hgO
    replace B1 := Lib.hid B1
    replace hg1 := Lib.hid hg1
    replace hs1 := Lib.hid hs1
    replace hj1 := Lib.hid hj1
    replace htk := Lib.hid htk
    replace hik := Lib.hid hik
    replace hgn2 := Lib.hid hgn2
    go_enter Try.func80, Try.ntmps80
    go_wp2_with (first | (at_builtin; refine wpList_append_run rfl _ _ _ _ rfl (.slice (some ⟨g, o, none⟩) i cap) (.int .i64 ((cap + 1 - i : Nat) : Int)) _ rfl rfl hr1 ?_) | (refine wpList_copy_run (o := ⟨some 45, _, _, _, _, _⟩) rfl _ _ _ _ rfl (.slice (some ⟨gn, i * 2, none⟩) (cap + 1 - i) (cap2 - i)) (.slice (some ⟨vb, 0, none⟩) 1 1) _ rfl rfl (fun _ => by rw [← hr2]; rfl) ?_))
    clear hr1 hr2 hch
    try simp only [Act.put, List.setIfInBounds_toArray, List.set_cons_succ, List.set_cons_zero]
    refine wp_region_gg [] [] [8] (by kernel_rfl) ?_
    refine hoist [] [] (a1 := ?_) 0 rfl (by kernel_rfl) (.inl ⟨rfl, rfl⟩) rfl rfl rfl (fun x K hK => ?_) ?_
    rotate_left
    · go_big_quiet_op
      exact hK
    refine hoist [] [] (a1 := ?_) 1 rfl (by kernel_rfl) (.inl ⟨rfl, rfl⟩) rfl rfl rfl (fun x K hK => ?_) ?_
    rotate_left
    · go_big_quiet_op
      exact hK
    refine hoist [] [] (a1 := ?_) 2 rfl (by kernel_rfl) (.inl ⟨rfl, rfl⟩) rfl rfl rfl (fun x K hK => ?_) ?_
    rotate_left
    · go_big_quiet_op
      exact hK
    refine hoist [] [] (a1 := ?_) 3 rfl (by kernel_rfl) (.inl ⟨rfl, rfl⟩) rfl rfl rfl (fun x K hK => ?_) ?_
    rotate_left
    · go_big_quiet_op
      exact hK
    refine hoist [] [] (a1 := ?_) 4 rfl (by kernel_rfl) (.inl ⟨rfl, rfl⟩) rfl rfl rfl (fun x K hK => ?_) ?_
    rotate_left
    · go_big_quiet_op
      exact hK
    refine hoist [] [] (a1 := ?_) 5 rfl (by kernel_rfl) (.inl ⟨rfl, rfl⟩) rfl rfl rfl (fun x K hK => ?_) ?_
    rotate_left
    · go_big_quiet_op
      exact hK
    refine hoist [] [] (a1 := ?_) 6 rfl (by kernel_rfl) (.inl ⟨rfl, rfl⟩) rfl rfl rfl (fun x K hK => ?_) ?_
    rotate_left
    · go_big_quiet_op
      exact hK
    refine hoist [] [] (a1 := ?_) 7 rfl (by kernel_rfl) (.inl ⟨rfl, rfl⟩) rfl rfl rfl (fun x K hK => ?_) ?_
    rotate_left
    · go_big_quiet_op
      exact hK
    refine tail 8 rfl (by kernel_rfl) rfl (fun xr => ?_)
    simp only [List.drop_succ_cons, List.drop_zero]
    have hg3 := xr.bw.heap hg2.out
    have hgo3 := xr.bw.heap hgO.out
    obtain ⟨w3, cur3, hr3, hg4, hs3, hj3, T3⟩ := copy_row (P := Try.prog) xr.now 138 138 0 158 hpos gn ((i + 1) * 2) (cap - i) (cap2 - (i + 1)) ⟨g, o + i * 2, none⟩ (cap - i) (cap - i) (xs.drop (i * 2)) cur2 hg3 Try.underlying138 hs (by rw [show Nat.min (cap - i) (cap - i) = cap - i from by show min (cap - i) (cap - i) = cap - i; omega]; exact hdl.out)
      (fun j u hj => by
        rw [Addr.add_lit, hp_cell hgo3, ← Array.getElem?_toList, Nat.add_assoc, ← hj, List.getElem?_drop]
        have := (List.getElem?_eq_some_iff.1 hj).1
        rw [hdl.out] at this
        exact hxk.out _ (by omega)) hd1.out (by rw [hdl.out, hs2.out, hs1.out]; omega)
    rw [show Nat.min (cap - i) (cap - i) = cap - i from by show min (cap - i) (cap - i) = cap - i; omega] at hr3
    have hO3 : Ows w3 base 158 2 (.slice (some ⟨gn, 0, none⟩) (cap + 1) cap2) (cap + 1) (xs.take (i * 2) ++ c ++ xs.drop (i * 2)) := by
      refine ins_ows (by rw [hgn2.out]; exact hbase) hg4 hc1a hc1b (by rw [hs3, hs2.out, hs1.out]; omega) hxl.out hcl.out hi (fun k hk => ?_) (fun k hk => ?_) (fun k h1 h2 => ?_)
      · rw [hj3, if_neg (by omega), hj2.out, if_neg (by omega), Nat.zero_add, hj1.out k hk, List.getElem?_take, if_pos hk]
      · rw [hj3, if_neg (by omega), hj2.out, if_pos (by rw [hcl.out]; omega)]; congr 1; omega
      · rw [hj3, if_pos (by rw [hdl.out]; omega), List.getElem?_drop]; congr 1; omega
    have TT : Still [gn] w w3 := ((B1.out.still [gn]).trans (T2.out.trans (xr.bw.still [gn]))).trans T3
    have TE : Still [] w w3 := ⟨TT.os, TT.tape, TT.output, TT.size, fun k hk _ => TT.block k hk (fun hm => by have : k = gn := (by simpa using hm); have := hgn2.out; omega)⟩
    have hEL3 : EL E w3 base (l.take i ++ [x] ++ l.drop i) (xs.take (i * 2) ++ c ++ xs.drop (i * 2)) := hlist.out.mono fun _ _ h => E.bw h (BW.ofStill TE)
    have hQ3 : EQ E 158 w3 base (.slice (some ⟨gn, 0, none⟩) (cap + 1) cap2) (cap + 1) (l.take i ++ [x] ++ l.drop i) := ⟨hlen.out, _, by rw [hE.out]; exact hO3, hEL3⟩
    clear hj3 hg4 hs3 hg3 hgo3 hO3 hEL3 TT q1 q2 q3
    replace hQ3 := Lib.hid hQ3
    replace TE := Lib.hid TE
    refine wpList_copy_run rfl _ _ _ _ rfl (.slice (some ⟨gn, (i + 1) * 2, none⟩) (cap - i) (cap2 - (i + 1))) (.slice (some ⟨g, o + i * 2, none⟩) (cap - i) (cap - i)) _ rfl rfl (fun _ => by rw [← hr3]; rfl) ?_
    go_wp2_with fail
    go_ret
    exact ⟨_, _, rfl, hQ3.out, fun j hj => .inr (by have : gn = j := (by simpa [Value.ownBlock] using hj); have := hgn2.out; omega), ⟨TE.out.os, TE.out.tape, TE.out.output, TE.out.size, fun k hk _ => TE.out.block k hk (by simp)⟩⟩
  · have hroom' : n + 1 ≤ cap := by omega
    have d2 : decide ((cap : Int) < (n : Int) + 1) = false := by simp; omega
    have hca := fun w (m c2 : Nat) (h1 : i ≤ m) (h2 : i < c2) => (run_cut_l (P := Try.prog) Try.underlying138 hs (some ⟨g, o, none⟩) m c2 i (i : Int) rfl .i64 h1 w).trans (by rw [show cutA (some ⟨g, o, none⟩) i c2 2 = some ⟨g, o + i * 2, none⟩ from by unfold cutA; rw [if_neg (by omega)]; simp [Addr.add]])
    have hcb := fun w (m c2 : Nat) (h1 : i + 1 ≤ m) (h2 : i + 1 < c2) => (run_cut_l (P := Try.prog) Try.underlying138 hs (some ⟨g, o, none⟩) m c2 (i + 1) ((i : Int) + 1) (by push_cast; rfl) .i64 h1 w).trans (by rw [show cutA (some ⟨g, o, none⟩) (i + 1) c2 2 = some ⟨g, o + (i + 1) * 2, none⟩ from by unfold cutA; rw [if_neg (by omega)]; simp [Addr.add]])
    have hc2 := fun w => hca w (n + 1) cap (by omega) (by omega)
    have hc3 := fun w => hcb w (n + 1) cap (by omega) (by omega)
    have hch := fun w => run_cut_h (P := Try.prog) Try.underlying138 hs (some ⟨g, o, none⟩) n cap (n + 1) ((n : Int) + 1) (by push_cast; rfl) .i64 hroom' w
    have hcur1 : 1 ≤ cur.size := by omega
    have hov : ∀ lb cb, (callFunc 93 #[.slice (some ⟨vb, 0, none⟩) 1 1, .slice (some ⟨g, o + (i + 1) * 2, none⟩) lb cb]).run Try.prog w = .ok (.value (.bool false)) w := fun lb cb => by
      have sz : ∀ w, (Go.sizeOf 158).run Try.prog w = .ok 2 w := fun w => by
        cases hq : Try.prog.info? 158 with
        | none => simp [hq] at hs
        | some i => simp [hq] at hs; simp [sizeOf, typeInfo, hq, hs]
      rw [run_callFunc_extern Try.func93 (by kernel_rfl) (by kernel_rfl) (by kernel_rfl) (e := Extern.SlicesOverlaps.overlaps #[138, 138] #[4]) (by kernel_rfl),
        Lib.run_overlaps_apart w 138 4 158 Try.underlying138 2 sz ⟨vb, 0, none⟩ ⟨g, o + (i + 1) * 2, none⟩ 1 1 lb cb (fun h => hgv h.symm) 158 158 c.toArray.size cur.size (by simp [World.shape?, show w.heap[vb]? = _ from hV.out]) (by simp [World.shape?, hg.out]) (by omega) (hp_frz hV.out _) (hp_frz hV.out _)]
      rfl
    clear hca hcb hc0
    replace hgv := Lib.hid hgv
    go_enter Try.func80, Try.ntmps80
    go_upto_region 15 with (simp only [hov])
    refine wp_region_gg [] [] [8] (by kernel_rfl) ?_
    refine hoist [] [] (a1 := ?_) 0 rfl (by kernel_rfl) (.inl ⟨rfl, rfl⟩) rfl rfl rfl (fun x K hK => ?_) ?_
    rotate_left
    · go_big_quiet_op
      exact hK
    refine hoist [] [] (a1 := ?_) 1 rfl (by kernel_rfl) (.inl ⟨rfl, rfl⟩) rfl rfl rfl (fun x K hK => ?_) ?_
    rotate_left
    · go_big_quiet_op
      exact hK
    refine hoist [] [] (a1 := ?_) 2 rfl (by kernel_rfl) (.inl ⟨rfl, rfl⟩) rfl rfl rfl (fun x K hK => ?_) ?_
    rotate_left
    · go_big_quiet_op
      exact hK
    refine hoist [] [] (a1 := ?_) 3 rfl (by kernel_rfl) (.inl ⟨rfl, rfl⟩) rfl rfl rfl (fun x K hK => ?_) ?_
    rotate_left
    · go_big_quiet_op
      exact hK
    refine hoist [] [] (a1 := ?_) 4 rfl (by kernel_rfl) (.inl ⟨rfl, rfl⟩) rfl rfl rfl (fun x K hK => ?_) ?_
    rotate_left
    · go_big_quiet_op
      exact hK
    refine hoist [] [] (a1 := ?_) 5 rfl (by kernel_rfl) (.inl ⟨rfl, rfl⟩) rfl rfl rfl (fun x K hK => ?_) ?_
    rotate_left
    · go_big_quiet_op
      exact hK
    refine hoist [] [] (a1 := ?_) 6 rfl (by kernel_rfl) (.inl ⟨rfl, rfl⟩) rfl rfl rfl (fun x K hK => ?_) ?_
    rotate_left
    · go_big_quiet_op
      exact hK
    refine hoist [] [] (a1 := ?_) 7 rfl (by kernel_rfl) (.inl ⟨rfl, rfl⟩) rfl rfl rfl (fun x K hK => ?_) ?_
    rotate_left
    · go_big_quiet_op
      exact hK
    refine tail 8 rfl (by kernel_rfl) rfl (fun xr => ?_)
    simp only [List.drop_succ_cons, List.drop_zero]
    clear hov hch
    have hg1 := xr.bw.heap hg.out
    have hV1 := hV.out.bw xr.bw
    have hmin : Nat.min (n + 1 - i) (n - i) = n - i := by show min (n + 1 - i) (n - i) = n - i; omega
    obtain ⟨w2, cur2, hr2, hg2, hs2, hj2, T2⟩ := copy_row (P := Try.prog) xr.now 138 138 0 158 hpos g (o + (i + 1) * 2) (n - i) (cap - (i + 1)) ⟨g, o + i * 2, none⟩ (n + 1 - i) (cap - i) (xs.drop (i * 2)) cur hg1 Try.underlying138 hs (by rw [hmin]; exact hdl.out)
      (fun j u hj => by
        rw [Addr.add_lit, hp_cell hg1, ← Array.getElem?_toList, Nat.add_assoc, ← hj, List.getElem?_drop]
        have := (List.getElem?_eq_some_iff.1 hj).1
        rw [hdl.out] at this
        exact hxk.out _ (by omega)) hd1.out (by rw [hdl.out]; omega)
    rw [hmin] at hr2
    have hV2 := HpB.st hV1 T2 (by simpa using fun e => hgv.out e.symm)
    obtain ⟨w3, cur3, hr3, hg3, hs3, hj3, T3⟩ := copy_row (P := Try.prog) w2 138 138 0 158 hpos g (o + i * 2) (n + 1 - i) (cap - i) ⟨vb, 0, none⟩ 1 1 c cur2 hg2 Try.underlying138 hs (by rw [show Nat.min 1 (n + 1 - i) = 1 from by show min 1 (n + 1 - i) = 1; omega, Nat.one_mul]; exact hcl.out) (hvsrc.out w2 hV2) hc1.out (by rw [hcl.out, hs2]; omega)
    rw [show Nat.min 1 (n + 1 - i) = 1 from by show min 1 (n + 1 - i) = 1; omega] at hr3
    have T23 := (xr.bw.still [g]).trans (T2.trans T3)
    have hO3 : Ows w3 base 158 2 (.slice (some ⟨g, o, none⟩) (n + 1) cap) (n + 1) (xs.take (i * 2) ++ c ++ xs.drop (i * 2)) := by
      refine ins_ows hbg hg3 hroom' hcm (by omega) hxl.out hcl.out hi (fun k hk => ?_) (fun k hk => ?_) (fun k h1 h2 => ?_)
      · rw [hj3, if_neg (by omega), hj2, if_neg (by omega)]; exact hxk.out k (by omega)
      · rw [hj3, if_pos (by rw [hcl.out]; omega)]; congr 1; omega
      · rw [hj3, if_neg (by rw [hcl.out]; omega), hj2, if_pos (by rw [hdl.out]; omega), List.getElem?_drop]; congr 1; omega
    have hEL3 : EL E w3 base (l.take i ++ [x] ++ l.drop i) (xs.take (i * 2) ++ c ++ xs.drop (i * 2)) := hlist.out.mono fun _ _ h => E.still h T23 (fun k hk => hOk.out k (by simpa [Value.ownBlock] using hk))
    have hQ3 : EQ E 158 w3 base (.slice (some ⟨g, o, none⟩) (n + 1) cap) (n + 1) (l.take i ++ [x] ++ l.drop i) := ⟨hlen.out, _, by rw [hE.out]; exact hO3, hEL3⟩
    clear hj2 hj3 hg2 hg3 hs2 hs3 hV1 hV2 hg1 T2 T3 hO3 hEL3 q1 q2
    replace hQ3 := Lib.hid hQ3
    replace T23 := Lib.hid T23
    replace hmin := Lib.hid hmin
    refine wpList_copy_run rfl _ _ _ _ rfl (.slice (some ⟨g, o + (i + 1) * 2, none⟩) (n - i) (cap - (i + 1))) (.slice (some ⟨g, o + i * 2, none⟩) (n + 1 - i) (cap - i)) _ rfl rfl (fun _ => by rw [← hr2]; rfl) ?_
    go_wp2_with (refine wpList_copy_run (o := ⟨some 82, _, _, _, _, _⟩) rfl _ _ _ _ rfl (.slice (some ⟨g, o + i * 2, none⟩) (n + 1 - i) (cap - i)) (.slice (some ⟨vb, 0, none⟩) 1 1) _ rfl rfl (fun _ => by rw [← hr3]; rfl) ?_)
    go_ret
    exact ⟨_, _, rfl, hQ3.out, fun j hj => .inl (by simpa [Value.ownBlock] using hj), by simpa [Value.ownBlock] using T23.out⟩

end Go.Proofs.Ytojedpahaifjgaa
