/- pacer.Push. No condition but the sizes'. -/
import Derived.Test.YtgiajnfmjpdodaaPaP
import Derived.Test.YtgiajnfmjpdodaaCln
namespace Go.Proofs.Ytgiajnfmjpdodaa
open Go.RowKit

theorem HpB.st {w w' : World} {k : Nat} {o : Obj} {S : List Nat} (h : HpB w k o) (hs : Still S w w') (hk : k ∉ S) : HpB w' k o := hp_st hs h hk
theorem Still.own3 {S0 S : List Nat} {a b c : World} (T : Still S0 a b) (h : Still S b c) (hS : ∀ k ∈ S, k ∈ S0 ∨ a.heap.size ≤ k) : Still S0 a c := by
  refine ⟨h.os.trans T.os, h.tape.trans T.tape, h.output.trans T.output, Nat.le_trans T.size h.size, fun k hk hs => ?_⟩
  rw [h.block k (Nat.lt_of_lt_of_le hk T.size) (fun hm => (hS k hm).elim hs (fun hl => Nat.lt_irrefl _ (Nat.lt_of_lt_of_le hk hl))), T.block k hk hs]
def blks (vs : List Value) : List Nat := vs.flatMap fun v => v.ownBlock.toList
theorem blks_mem {vs : List Value} {c k : Nat} (hc : c < vs.length) (hk : (vs.getD c undef).ownBlock = some k) : k ∈ blks vs := by
  unfold blks
  refine List.mem_flatMap.2 ⟨vs.getD c undef, ?_, by simpa using hk⟩
  rw [List.getD_eq_getElem?_getD, List.getElem?_eq_getElem hc]
  exact List.getElem_mem hc
theorem blks_set {vs : List Value} {c k : Nat} {v : Value} (h : k ∈ blks (vs.set c v)) : v.ownBlock = some k ∨ k ∈ blks vs := by
  unfold blks at *
  obtain ⟨u, hu, hk⟩ := List.mem_flatMap.1 h
  rcases List.mem_or_eq_of_mem_set hu with h1 | rfl
  · exact .inr (List.mem_flatMap.2 ⟨u, h1, hk⟩)
  · exact .inl (by simpa using hk)
theorem blks_lt {w : World} {base g gb : Nat} {vs : List Value} {S : PcS} (h : PacV w base g gb vs S) : ∀ k ∈ blks vs, k < w.heap.size := fun k hk => by
  obtain ⟨u, hu, hk⟩ := List.mem_flatMap.1 hk
  obtain ⟨i, hi, e⟩ := List.mem_iff_getElem.1 hu
  have h1 := h.pq i (by rw [← h.vl]; exact hi)
  rw [List.getD_eq_getElem?_getD, List.getElem?_eq_getElem hi] at h1
  refine h1.lt' k ?_
  show vs[i].ownBlock = some k
  rw [e]
  simpa using hk
/-- A class's queue grew in its own block, or in a new one. -/
theorem PacV.turn {w w' : World} {base g gb : Nat} {vs : List Value} {S : PcS} (h : PacV w base g gb vs S) (c : Nat) (hc : c < 4) (hs : Still (vs.getD c undef).ownBlock.toList w w') (v : Value) (q : List (List Nat)) (hq : PQ w' base v q.length (q.map fun b => ((c : Int), b))) (hG : ∀ k, v.ownBlock = some k → (vs.getD c undef).ownBlock = some k ∨ w.heap.size ≤ k) :
    PacV (w'.setCell ⟨g, 4 + c, none⟩ v) base g gb (vs.set c v) { S with qs := S.qs.set c q } := by
  have hgn : g ∉ (vs.getD c undef).ownBlock.toList := fun hm => (h.pq c hc).ne h.cells (by decide) g (by simpa using hm) rfl
  have hbn : gb ∉ (vs.getD c undef).ownBlock.toList := fun hm => (h.pq c hc).ne h.bk (by decide) gb (by simpa using hm) rfl
  have hcells : HpB w' g _ := hp_st hs h.cells hgn
  have hbk : Bk w' gb S.rate S.burst S.hav := hp_st hs h.bk hbn
  have h2 := still_setCP w' g (4 + c) v
  have hNo : ∀ k ∈ [g], NoB w' k := fun k hk => by
    obtain rfl : k = g := by simpa using hk
    exact .inr ⟨_, _, _, hcells, by decide⟩
  refine ⟨?_, ?_, by rw [List.length_set]; exact h.vl, by show (S.qs.set c q).length = 4; rw [List.length_set]; exact h.ql, fun d hd => ?_, fun d e hd he hde => ?_⟩
  · have := hp_set hcells (4 + c) v
    rw [pacC_set _ _ _ _ _ _ _ _ h.vl hc] at this
    exact this
  · exact (hp_oth (hp_ne hbk hcells (by decide))).trans hbk
  · show PQ _ _ ((vs.set c v).getD d undef) ((S.qs.set c q).getD d []).length (((S.qs.set c q).getD d []).map _)
    rw [getD_set _ _ _ _ _ (by rw [h.vl]; exact hc), getD_set _ _ _ _ _ (by rw [h.ql]; exact hc)]
    by_cases e : d = c
    · subst e
      rw [if_pos rfl, if_pos rfl]
      exact hq.still h2 hNo (fun k hk => by have := hq.ne hcells (by decide) k hk; simpa using this)
    · rw [if_neg e, if_neg e]
      have h3 := (h.pq d hd).still hs (h.pq c hc).noB (fun k hk hm => h.apt d c hd hc e k hk (by simpa using hm))
      exact h3.still h2 hNo (fun k hk => by have := h3.ne hcells (by decide) k hk; simpa using this)
  · have hap : ∀ d, d < 4 → d ≠ c → Apt v (vs.getD d undef) := fun d hd hdc j h1 h2 => by
      rcases hG j h1 with h3 | h3
      · exact h.apt c d hc hd (fun e => hdc e.symm) j h3 h2
      · have := (h.pq d hd).lt' j h2; omega
    rw [getD_set _ _ _ _ _ (by rw [h.vl]; exact hc), getD_set _ _ _ _ _ (by rw [h.vl]; exact hc)]
    by_cases e1 : d = c
    · rw [if_pos e1, if_neg (fun e2 => hde (e1.trans e2.symm))]
      exact hap e he (fun e2 => hde (e1.trans e2.symm))
    · rw [if_neg e1]
      by_cases e2 : e = c
      · rw [if_pos e2]; exact (hap d hd e1).symm
      · rw [if_neg e2]; exact h.apt d e hd he hde
def PushPost (base g gb : Nat) (vs : List Value) (R : Nat × PcS) (w : World) (e : Ending) (w' : World) : Prop :=
  e = .returned (.int .i64 (R.1 : Nat)) ∧ (∃ vs', PacV w' base g gb vs' R.2 ∧ ∀ k ∈ blks vs', k ∈ blks vs ∨ w.heap.size ≤ k) ∧ Still (g :: blks vs) w w'
theorem PushPost.same {base g gb : Nat} {vs : List Value} {S : PcS} {w w' : World} {e : Ending} (r : Nat) (h : PacV w base g gb vs S) (hb : BW w w') (he : e = .returned (.int .i64 (r : Nat))) : PushPost base g gb vs (r, S) w e w' :=
  ⟨he, ⟨vs, h.bw hb, fun k hk => .inl hk⟩, hb.still _⟩

set_option maxRecDepth 100000 in
set_option maxHeartbeats 8000000 in
theorem push_any (base g gb : Nat) (vs : List Value) (S : PcS) (cls : Int) (v : Value) (b : List Nat) (w : World) (h : PacV w base g gb vs S) (hB : PcB S) (hu0 : 0 ≤ S.burst) (hu1 : S.burst ≤ 18446744073709551615) (hbase : base ≤ w.heap.size) (hv : SB w v b.length b) (hn : b.length ≤ 1000)
    (hc0 : -9223372036854775808 ≤ cls) (hc1 : cls ≤ 9223372036854775807) (hgo : S.gone + mny S.qs ≤ 900000) (hvo : 0 < b.length → ∀ k, v.ownBlock = some k → k ∉ g :: blks vs) :
    Calls Try.prog 23 #[.pointer (some ⟨g, 0, none⟩), .agg #[.int .i64 cls, v]] w (PushPost base g gb vs (pushN S cls b) w) := by
  have hmf : ∀ (fn : Fn) (first cap : Array Value) (w : World), (Instr.makeFunc fn first cap).run Try.prog w = .ok (.func fn first cap) w := fun _ _ _ _ => rfl
  obtain ⟨sa, cp, rfl, hcp, hmp⟩ := hv.len
  unfold maxLen at hmp
  have hH := Lib.hid h
  have hV := Lib.hid hv
  clear h hv
  replace hvo := Lib.hid hvo
  have hps : ∀ R, R = pushN S cls b → Hid (pushN S cls b = R) := fun R h => h.symm
  generalize hnl : b.length = n at *
  have B1 : BW w (w.alloc (.cells #[.pointer (some ⟨g, 0, none⟩)] 38)) := (BW.refl w).alloc
  have B2 : BW (w.alloc (.cells #[.pointer (some ⟨g, 0, none⟩)] 38)) ((w.alloc (.cells #[.pointer (some ⟨g, 0, none⟩)] 38)).alloc (.cells #[.int .i64 cls, .slice sa n cp] 43)) := (BW.refl _).alloc
  have B3 : BW ((w.alloc (.cells #[.pointer (some ⟨g, 0, none⟩)] 38)).alloc (.cells #[.int .i64 cls, .slice sa n cp] 43)) (((w.alloc (.cells #[.pointer (some ⟨g, 0, none⟩)] 38)).alloc (.cells #[.int .i64 cls, .slice sa n cp] 43)).alloc (.cells #[.int .i64 (n : Nat)] 3)) := (BW.refl _).alloc
  have P3 := HpB.bw (HpB.bw (hp_new w (.cells #[.pointer (some ⟨g, 0, none⟩)] 38) w.heap.size rfl) B2) B3
  have X3 := HpB.bw (hp_new (w.alloc (.cells #[.pointer (some ⟨g, 0, none⟩)] 38)) (.cells #[.int .i64 cls, .slice sa n cp] 43) (w.heap.size + 1) (by simp)) B3
  have N3 : HpB (((w.alloc (.cells #[.pointer (some ⟨g, 0, none⟩)] 38)).alloc (.cells #[.int .i64 cls, .slice sa n cp] 43)).alloc (.cells #[.int .i64 (n : Nat)] 3)) (w.heap.size + 1 + 1) (.cells #[.int .i64 (n : Nat)] 3) := hp_new _ _ _ (by simp)
  have B := Lib.hid ((B1.trans B2).trans B3)
  clear B1 B2 B3
  replace P3 := Lib.hid P3
  replace X3 := Lib.hid X3
  replace N3 := Lib.hid N3
  replace hnl := Lib.hid hnl
  go_enter Try.func23, Try.ntmps23
  go_upto_region 2 with (fail)
  generalize ((w.alloc (.cells #[.pointer (some ⟨g, 0, none⟩)] 38)).alloc (.cells #[.int .i64 cls, .slice sa n cp] 43)).alloc (.cells #[.int .i64 (n : Nat)] 3) = w3 at *
  have p0 := hp_cell (P3.out) 0
  simp only [List.getElem?_toArray, List.getElem?_cons_zero, List.getElem?_cons_succ] at p0
  have x0 := hp_cell (X3.out) 0
  have x1 := hp_cell (X3.out) 1
  simp only [List.getElem?_toArray, List.getElem?_cons_zero, List.getElem?_cons_succ] at x0 x1
  have n0 := hp_cell (N3.out) 0
  simp only [List.getElem?_toArray, List.getElem?_cons_zero, List.getElem?_cons_succ] at n0
  by_cases hA : cls < 0
  · have d1 : decide (cls < 0) = true := by simpa using hA
    have hR := hps (1, S) (by unfold pushN; rw [if_pos (.inl hA)])
    go_wp2_with fail
    go_ret
    rw [hR.out]
    exact PushPost.same 1 hH.out B.out rfl
  have d1 : decide (cls < 0) = false := by simpa using hA
  by_cases hC : 4 ≤ cls
  · have d2 : decide (4 ≤ cls) = true := by simpa using hC
    have hR := hps (1, S) (by unfold pushN; rw [if_pos (.inr (.inl hC))])
    go_wp2_with fail
    go_ret
    rw [hR.out]
    exact PushPost.same 1 hH.out B.out rfl
  have d2 : decide (4 ≤ cls) = false := by simpa using hC
  by_cases hD : n = 0
  · have d3 : ((n : Int) == 0) = true := by simp; omega
    have hR := hps (1, S) (by unfold pushN; rw [if_pos (.inr (.inr (by rw [hnl.out]; exact hD)))])
    go_wp2_with fail
    go_ret
    rw [hR.out]
    exact PushPost.same 1 hH.out B.out rfl
  have d3 : ((n : Int) == 0) = false := by simp; omega
  have hni : ¬ (cls < 0 ∨ 4 ≤ cls ∨ b.length = 0) := by have := hnl.out; omega
  have hnn : (n : Int) ≤ 1000 := by omega
  go_upto_region 4 with (fail)
  clear d1 d2 d3
  have H3 := Lib.hid (hH.out.bw B.out)
  have zb : w3.cell? ⟨g, 1, none⟩ = some (.int .u64 S.burst) := hp_cell H3.out.cells 1
  have lp := fun x : LaterS [] w3 => x.cell p0 (by simp)
  have ln := fun x : LaterS [] w3 => x.cell n0 (by simp)
  have lb := fun x : LaterS [] w3 => x.cell zb (by simp)
  by_cases hE : S.burst < n
  · have d4 : decide (S.burst < (n : Int)) = true := by simpa using hE
    have hR := hps (8, S) (by unfold pushN; rw [if_neg hni, if_pos (by rw [hnl.out]; exact hE)])
    refine wp_region_gg [] [] [] (by kernel_rfl) ?_
    refine hoist [] [] (a1 := ?_) 0 rfl (by kernel_rfl) (.inl ⟨rfl, rfl⟩) rfl rfl rfl (fun x K hK => ?_) ?_
    rotate_left
    · go_big_quiet_op
      exact hK
    refine hoist [] [] (a1 := ?_) 1 rfl (by kernel_rfl) (.inl ⟨rfl, rfl⟩) rfl rfl rfl (fun x K hK => ?_) ?_
    rotate_left
    · go_big_quiet_op
      exact hK
    refine hoist [] [] (a1 := ?_) 2 rfl (by kernel_rfl) (.inl ⟨rfl, rfl⟩) rfl rfl rfl (fun x K hK => ?_) ?_
    rotate_left
    · go_big_quiet_op
      exact hK
    refine hoist [] [] (a1 := ?_) 3 rfl (by kernel_rfl) (.inl ⟨rfl, rfl⟩) rfl rfl rfl (fun x K hK => ?_) ?_
    rotate_left
    · go_big_quiet_op
      exact hK
    refine hoist [] [] (a1 := ?_) 4 rfl (by kernel_rfl) (.inl ⟨rfl, rfl⟩) rfl rfl rfl (fun x K hK => ?_) ?_
    rotate_left
    · go_big_quiet_op
      exact hK
    refine hoist [] [] (a1 := ?_) 5 rfl (by kernel_rfl) (.inl ⟨rfl, rfl⟩) rfl rfl rfl (fun x K hK => ?_) ?_
    rotate_left
    · go_big_quiet_op
      exact hK
    refine hoist [] [] (a1 := ?_) 6 rfl (by kernel_rfl) (.inl ⟨rfl, rfl⟩) rfl rfl rfl (fun x K hK => ?_) ?_
    rotate_left
    · go_big_quiet_op
      exact hK
    refine hoist [] [] (a1 := ?_) 7 rfl (by kernel_rfl) (.inl ⟨rfl, rfl⟩) rfl rfl rfl (fun x K hK => ?_) ?_
    rotate_left
    · go_big_quiet_op
      exact hK
    refine done (by kernel_rfl) (fun xr => ?_)
    have B5 := Lib.hid (B.out.trans xr.bw)
    go_wp2_with fail
    go_ret
    rw [hR.out]
    exact PushPost.same 8 hH.out B5.out rfl
  have d4 : decide (S.burst < (n : Int)) = false := by simpa using hE
  refine wp_region_gg [] [] [] (by kernel_rfl) ?_
  refine hoist [] [] (a1 := ?_) 0 rfl (by kernel_rfl) (.inl ⟨rfl, rfl⟩) rfl rfl rfl (fun x K hK => ?_) ?_
  rotate_left
  · go_big_quiet_op
    exact hK
  refine hoist [] [] (a1 := ?_) 1 rfl (by kernel_rfl) (.inl ⟨rfl, rfl⟩) rfl rfl rfl (fun x K hK => ?_) ?_
  rotate_left
  · go_big_quiet_op
    exact hK
  refine hoist [] [] (a1 := ?_) 2 rfl (by kernel_rfl) (.inl ⟨rfl, rfl⟩) rfl rfl rfl (fun x K hK => ?_) ?_
  rotate_left
  · go_big_quiet_op
    exact hK
  refine hoist [] [] (a1 := ?_) 3 rfl (by kernel_rfl) (.inl ⟨rfl, rfl⟩) rfl rfl rfl (fun x K hK => ?_) ?_
  rotate_left
  · go_big_quiet_op
    exact hK
  refine hoist [] [] (a1 := ?_) 4 rfl (by kernel_rfl) (.inl ⟨rfl, rfl⟩) rfl rfl rfl (fun x K hK => ?_) ?_
  rotate_left
  · go_big_quiet_op
    exact hK
  refine hoist [] [] (a1 := ?_) 5 rfl (by kernel_rfl) (.inl ⟨rfl, rfl⟩) rfl rfl rfl (fun x K hK => ?_) ?_
  rotate_left
  · go_big_quiet_op
    exact hK
  refine hoist [] [] (a1 := ?_) 6 rfl (by kernel_rfl) (.inl ⟨rfl, rfl⟩) rfl rfl rfl (fun x K hK => ?_) ?_
  rotate_left
  · go_big_quiet_op
    exact hK
  refine hoist [] [] (a1 := ?_) 7 rfl (by kernel_rfl) (.inl ⟨rfl, rfl⟩) rfl rfl rfl (fun x K hK => ?_) ?_
  rotate_left
  · go_big_quiet_op
    exact hK
  refine done (by kernel_rfl) (fun xr => ?_)
  have B5 := Lib.hid (B.out.trans xr.bw)
  have P5 := Lib.hid (P3.out.bw xr.bw)
  have X5 := Lib.hid (X3.out.bw xr.bw)
  have N5 := Lib.hid (N3.out.bw xr.bw)
  have H5 := Lib.hid (H3.out.bw xr.bw)
  clear lp ln lb zb p0 x0 x1 n0 P3 X3 N3 H3 B d4
  generalize xr.now = w5 at *
  have p0 := hp_cell (P5.out) 0
  simp only [List.getElem?_toArray, List.getElem?_cons_zero, List.getElem?_cons_succ] at p0
  have x0 := hp_cell (X5.out) 0
  have x1 := hp_cell (X5.out) 1
  simp only [List.getElem?_toArray, List.getElem?_cons_zero, List.getElem?_cons_succ] at x0 x1
  have n0 := hp_cell (N5.out) 0
  simp only [List.getElem?_toArray, List.getElem?_cons_zero, List.getElem?_cons_succ] at n0
  obtain ⟨c, rfl⟩ : ∃ c : Nat, cls = (c : Int) := ⟨cls.toNat, by omega⟩
  have hc4 : c < 4 := by omega
  have hps2 : pushN S (c : Int) b = if roomB S (mny (S.qs.drop (c + 1))) (siz (S.qs.drop (c + 1))) n = false then (6, S) else (0, { dropsN n (mny S.qs) S with qs := (dropsN n (mny S.qs) S).qs.set c ((dropsN n (mny S.qs) S).qs.getD c [] ++ [b]) }) := by
    unfold pushN
    rw [if_neg hni, if_neg (by rw [hnl.out]; exact hE), hnl.out]
    rfl
  have cC := counted_any base g gb (c + 1) vs S w5 (by omega) H5.out hB.m hB.s
  rw [show ((c + 1 : Nat) : Int) = (c : Int) + 1 from by push_cast; rfl] at cC
  replace cC := Lib.hid cC
  replace hps2 := Lib.hid hps2
  clear hps hni
  go_wp2_with fail
  refine Calls.mono cC.out ?_
  rintro e w6 ⟨rfl, hb⟩
  have m1 := Nat.le_trans (mny_drop S.qs (c + 1)) hB.m
  have m2 := Nat.le_trans (siz_drop S.qs (c + 1)) hB.s
  have B6 := Lib.hid (B5.out.trans hb)
  have P6 := Lib.hid (P5.out.bw hb)
  have X6 := Lib.hid (X5.out.bw hb)
  have N6 := Lib.hid (N5.out.bw hb)
  have H6 := Lib.hid (H5.out.bw hb)
  have hpc := P6.out
  clear hb cC B5 P5 X5 N5 H5 p0 x0 x1 n0
  have p0 := hp_cell (P6.out) 0
  simp only [List.getElem?_toArray, List.getElem?_cons_zero, List.getElem?_cons_succ] at p0
  have x0 := hp_cell (X6.out) 0
  have x1 := hp_cell (X6.out) 1
  simp only [List.getElem?_toArray, List.getElem?_cons_zero, List.getElem?_cons_succ] at x0 x1
  have n0 := hp_cell (N6.out) 0
  simp only [List.getElem?_toArray, List.getElem?_cons_zero, List.getElem?_cons_succ] at n0
  have cR := Lib.hid (room_any base g gb w.heap.size (w.heap.size + 1 + 1) (mny (S.qs.drop (c + 1))) (siz (S.qs.drop (c + 1))) n vs S w6 H6.out hB p0 n0 m1 m2 (by omega))
  dsimp only
  go_wp2_with fail
  refine Calls.mono cR.out ?_
  rintro e w7 ⟨rfl, hb⟩
  have B7 := Lib.hid (B6.out.trans hb)
  have P7 := Lib.hid (P6.out.bw hb)
  have X7 := Lib.hid (X6.out.bw hb)
  have N7 := Lib.hid (N6.out.bw hb)
  have H7 := Lib.hid (H6.out.bw hb)
  clear hb cR B6 P6 X6 N6 H6 p0 x0 x1 n0 hpc m1 m2
  dsimp only
  have hps3 := hps2.out
  clear hps2
  cases hr : roomB S (mny (S.qs.drop (c + 1))) (siz (S.qs.drop (c + 1))) n
  · rw [hr, if_pos rfl] at hps3
    replace hps3 := Lib.hid hps3
    replace hr := Lib.hid hr
    go_wp2_with fail
    go_ret
    rw [hps3.out]
    exact PushPost.same 6 hH.out B7.out rfl
  rw [hr, if_neg (by decide)] at hps3
  generalize hF : dropsN n (mny S.qs) S = F at *
  have hgw := HpB.lt hH.out.cells
  replace hps3 := Lib.hid hps3
  replace hr := Lib.hid hr
  replace hF := Lib.hid hF
  go_upto_region 9 with (fail)
  go_loopg [] (mny S.qs) (fun m' wx => ∃ (vk : List Value) (T : PcS), m' = mny T.qs ∧ Hid (dropsN n (mny T.qs) T = F) ∧ Hid (PacV wx base g gb vk T) ∧ Hid (PcB T) ∧ Hid (roomB T (mny (T.qs.drop (c + 1))) (siz (T.qs.drop (c + 1))) n = true) ∧ T.gone + mny T.qs ≤ 900000 ∧ Hid (∀ k ∈ blks vk, k ∈ blks vs) ∧ Hid (Still (g :: blks vs) w wx) ∧ Hid (HpB wx w.heap.size (.cells #[.pointer (some ⟨g, 0, none⟩)] 38)) ∧ Hid (HpB wx (w.heap.size + 1) (.cells #[.int .i64 (c : Int), .slice sa n cp] 43)) ∧ Hid (HpB wx (w.heap.size + 1 + 1) (.cells #[.int .i64 (n : Nat)] 3)))
  case atStart => exact ⟨vs, S, rfl, hF, H7, hB, hr, hgo, fun k hk => hk, B7.out.still _, P7, X7, N7⟩
  case round =>
    clear P7 X7 N7 H7 B7 hF hr hgo hB
    obtain ⟨vk, T, rfl, hF, H, hB, hr, hgo, hk, TS, P, X, N⟩ := hrel
    have p0 := hp_cell (P.out) 0
    simp only [List.getElem?_toArray, List.getElem?_cons_zero, List.getElem?_cons_succ] at p0
    have n0 := hp_cell (N.out) 0
    simp only [List.getElem?_toArray, List.getElem?_cons_zero, List.getElem?_cons_succ] at n0
    have cR : Calls Try.prog 57 #[.int .i64 0, .int .i64 0, .pointer (some ⟨w.heap.size, 0, none⟩), .pointer (some ⟨w.heap.size + 1 + 1, 0, none⟩)] wr fun e w' => e = .returned (.bool (roomB T 0 0 n)) ∧ BW wr w' := room_any base g gb w.heap.size (w.heap.size + 1 + 1) 0 0 n vk T wr H.out hB.out p0 n0 (by omega) (by omega) (by omega)
    replace cR := Lib.hid cR
    go_wp2_with fail
    refine Calls.mono cR.out ?_
    rintro e w8 ⟨rfl, hb⟩
    have H8 := Lib.hid (H.out.bw hb)
    have P8 := Lib.hid (P.out.bw hb)
    have X8 := Lib.hid (X.out.bw hb)
    have N8 := Lib.hid (N.out.bw hb)
    have T8 := Lib.hid (TS.out.own3 (hb.still []) (by simp))
    clear hb cR p0 n0 H P X N TS
    dsimp only
    cases hq : roomB T 0 0 n
    · have hup := room_more hr.out hq
      have hq4 := H8.out.ql
      have hmy : 0 < mny T.qs := Nat.lt_of_lt_of_le hup (mny_drop _ _)
      obtain ⟨t1, t2, t3⟩ := topC_spec hq4 hmy
      have t4 := topC_up hq4 c hc4 hup
      have hdm := dropS_mny hq4 t1 t2
      have hds := dropS_siz (S := T) (c := topC T.qs) hq4 t1
      have cD := drop_any base g gb (topC T.qs) vk T w8 H8.out t1 t2 t3 (by omega)
      have p0 := hp_cell (P8.out) 0
      simp only [List.getElem?_toArray, List.getElem?_cons_zero, List.getElem?_cons_succ] at p0
      have hF2 : dropsN n (mny (dropS T (topC T.qs)).qs) (dropS T (topC T.qs)) = F := by
        have := hF.out
        rw [← hdm] at this
        unfold dropsN at this
        rw [if_neg (by rw [hq]; decide)] at this
        exact this
      have hr2 : roomB (dropS T (topC T.qs)) (mny ((dropS T (topC T.qs)).qs.drop (c + 1))) (siz ((dropS T (topC T.qs)).qs.drop (c + 1))) n = true := by
        have := hr.out
        rw [roomB_up] at this ⊢
        rw [dropS_take (by omega)]
        exact this
      have hB2 : PcB (dropS T (topC T.qs)) := ⟨by have := hB.out.m; omega, Nat.le_trans hds hB.out.s, hB.out.p0, hB.out.p1, hB.out.b0, hB.out.b1⟩
      have hgo2 : (dropS T (topC T.qs)).gone + mny (dropS T (topC T.qs)).qs ≤ 900000 := by
        show T.gone + 1 + _ ≤ _
        omega
      replace cD := Lib.hid cD
      replace hF2 := Lib.hid hF2
      replace hr2 := Lib.hid hr2
      replace hB2 := Lib.hid hB2
      replace hq := Lib.hid hq
      replace t1 := Lib.hid t1
      replace t2 := Lib.hid t2
      replace t3 := Lib.hid t3
      replace hq4 := Lib.hid hq4
      go_wp2_with fail
      refine Calls.mono cD.out ?_
      rintro e w9 ⟨rfl, ⟨v9, H9, hown⟩, T9⟩
      have hk9 : ∀ k ∈ blks (vk.set (topC T.qs) v9), k ∈ blks vs := fun k hm => by
        rcases blks_set hm with h1 | h1
        · exact hk.out k (blks_mem (by rw [H8.out.vl]; exact t1.out) (hown k h1))
        · exact hk.out k h1
      have TS9 := Lib.hid (T8.out.own3 T9 (by simp))
      have P9 := Lib.hid (P8.out.st T9 (by simp; omega))
      have X9 := Lib.hid (X8.out.st T9 (by simp; omega))
      have N9 := Lib.hid (N8.out.st T9 (by simp; omega))
      replace H9 := Lib.hid H9
      replace hk9 := Lib.hid hk9
      dsimp only
      go_wp2_with fail
      go_roundg (mny (dropS T (topC T.qs)).qs)
      case measure => omega
      case rel => exact ⟨_, _, rfl, hF2, H9, hB2, hr2, hgo2, hk9, TS9, P9, X9, N9⟩
    · have hFT : F = T := by rw [← hF.out]; exact dropsN_room hq _
      subst hFT
      have hpq := H8.out.pq c hc4
      obtain ⟨sq, cq, hsq, hnq, hmq⟩ := hpq.len
      have zq := H8.out.cell c hc4
      rw [hsq] at zq hpq
      unfold maxLen at hmq
      have hgc : ∀ k, (vk.getD c undef).ownBlock = some k → k ∈ blks vs := fun k h1 => hk.out k (blks_mem (by rw [H8.out.vl]; exact hc4) h1)
      have hgl : ∀ k, (Value.slice sq (F.qs.getD c []).length cq).ownBlock = some k → k < w.heap.size := fun k h1 => blks_lt hH.out k (hgc k (by rw [hsq]; exact h1))
      have hqm : (F.qs.getD c []).length ≤ 1000000 := by
        have h1 := mny_take F.qs c (by rw [H8.out.ql]; exact hc4)
        have h2 := mny_le F.qs (c + 1)
        have h3 := hB.out.m
        omega
      have V8 := Lib.hid (hV.out.still T8.out (hvo.out (by omega)))
      have p0 := hp_cell (P8.out) 0
      simp only [List.getElem?_toArray, List.getElem?_cons_zero, List.getElem?_cons_succ] at p0
      have x0 := hp_cell (X8.out) 0
      have x1 := hp_cell (X8.out) 1
      simp only [List.getElem?_toArray, List.getElem?_cons_zero, List.getElem?_cons_succ] at x0 x1
      generalize hnq' : (F.qs.getD c []).length = nq at *
      replace hq := Lib.hid hq
      replace hpq := Lib.hid hpq
      replace hsq := Lib.hid hsq
      replace hnq' := Lib.hid hnq'
      replace hgc := Lib.hid hgc
      replace hgl := Lib.hid hgl
      go_upto_region 11 with (fail)
      have lp := fun x : LaterS [] w8 => x.cell p0 (by simp)
      have lx0 := fun x : LaterS [] w8 => x.cell x0 (by simp)
      have lx1 := fun x : LaterS [] w8 => x.cell x1 (by simp)
      have lq := fun x : LaterS [] w8 => x.cell zq (by simp)
      have hgn : g ∉ (Value.slice sq nq cq).ownBlock.toList := fun hm => hpq.out.ne H8.out.cells (by decide) g (by simpa using hm) rfl
      have hpn : w.heap.size ∉ (Value.slice sq nq cq).ownBlock.toList := fun hm => by have := hgl.out _ (by simpa using hm); omega
      have hxn : w.heap.size + 1 ∉ (Value.slice sq nq cq).ownBlock.toList := fun hm => by have := hgl.out _ (by simpa using hm); omega
      have lpS := fun x : LaterS (Value.slice sq nq cq).ownBlock.toList w8 => x.cell p0 hpn
      have lxS := fun x : LaterS (Value.slice sq nq cq).ownBlock.toList w8 => x.cell x0 hxn
      clear p0 x0 x1
      refine wp_region_gg ((Value.slice sq nq cq).ownBlock.toList) [17] [20] (by kernel_rfl) ?_
      refine hoist ((Value.slice sq nq cq).ownBlock.toList) [] (a1 := ?_) 0 rfl (by kernel_rfl) (.inr rfl) rfl rfl rfl (fun x K hK => ?_) ?_
      rotate_left
      · go_big_quiet_op
        exact hK
      refine hoist ((Value.slice sq nq cq).ownBlock.toList) [] (a1 := ?_) 1 rfl (by kernel_rfl) (.inr rfl) rfl rfl rfl (fun x K hK => ?_) ?_
      rotate_left
      · go_big_quiet_op
        exact hK
      refine hoist ((Value.slice sq nq cq).ownBlock.toList) [] (a1 := ?_) 2 rfl (by kernel_rfl) (.inr rfl) rfl rfl rfl (fun x K hK => ?_) ?_
      rotate_left
      · go_big_quiet_op
        exact hK
      refine hoist [] [17] (a1 := ?_) 3 rfl (by kernel_rfl) (.inl ⟨rfl, rfl⟩) rfl rfl rfl (fun x K hK => ?_) ?_
      rotate_left
      · go_big_quiet_op
        exact hK
      refine hoist [] [17] (a1 := ?_) 4 rfl (by kernel_rfl) (.inl ⟨rfl, rfl⟩) rfl rfl rfl (fun x K hK => ?_) ?_
      rotate_left
      · go_big_quiet_op
        exact hK
      refine hoist [] [17] (a1 := ?_) 5 rfl (by kernel_rfl) (.inl ⟨rfl, rfl⟩) rfl rfl rfl (fun x K hK => ?_) ?_
      rotate_left
      · go_big_quiet_op
        exact hK
      refine hoist [] [17] (a1 := ?_) 6 rfl (by kernel_rfl) (.inl ⟨rfl, rfl⟩) rfl rfl rfl (fun x K hK => ?_) ?_
      rotate_left
      · go_big_quiet_op
        exact hK
      refine hoist [] [17] (a1 := ?_) 7 rfl (by kernel_rfl) (.inl ⟨rfl, rfl⟩) rfl rfl rfl (fun x K hK => ?_) ?_
      rotate_left
      · go_big_quiet_op
        exact hK
      refine hoist [] [17] (a1 := ?_) 8 rfl (by kernel_rfl) (.inl ⟨rfl, rfl⟩) rfl rfl rfl (fun x K hK => ?_) ?_
      rotate_left
      · go_big_quiet_op
        exact hK
      refine hoist [] [17] (a1 := ?_) 9 rfl (by kernel_rfl) (.inl ⟨rfl, rfl⟩) rfl rfl rfl (fun x K hK => ?_) ?_
      rotate_left
      · go_big_quiet_op
        exact hK
      refine hoist [] [17] (a1 := ?_) 10 rfl (by kernel_rfl) (.inl ⟨rfl, rfl⟩) rfl rfl rfl (fun x K hK => ?_) ?_
      rotate_left
      · go_big_quiet_op
        exact hK
      refine hoist [] [17] (a1 := ?_) 11 rfl (by kernel_rfl) (.inl ⟨rfl, rfl⟩) rfl rfl rfl (fun x K hK => ?_) ?_
      rotate_left
      · go_big_quiet_op
        exact hK
      refine hoist [] [17] (a1 := ?_) 12 rfl (by kernel_rfl) (.inl ⟨rfl, rfl⟩) rfl rfl rfl (fun x K hK => ?_) ?_
      rotate_left
      · go_big_quiet_op
        exact hK
      refine hoist [] [17] (a1 := ?_) 13 rfl (by kernel_rfl) (.inl ⟨rfl, rfl⟩) rfl rfl rfl (fun x K hK => ?_) ?_
      rotate_left
      · go_big_quiet_op
        exact hK
      refine hoist ((Value.slice sq nq cq).ownBlock.toList) [] (a1 := ?_) 18 rfl (by kernel_rfl) (.inr rfl) rfl rfl rfl (fun x K hK => ?_) ?_
      rotate_left
      · go_big_quiet_op
        exact hK
      refine hoist ((Value.slice sq nq cq).ownBlock.toList) [] (a1 := ?_) 19 rfl (by kernel_rfl) (.inr rfl) rfl rfl rfl (fun x K hK => ?_) ?_
      rotate_left
      · go_big_quiet_op
        exact hK
      refine effect 14 rfl (by kernel_rfl) (by kernel_rfl) rfl (fun x14 K hK => ?_)
      go_simp
      refine Calls.mono (clone_ok _ n _ _ (by omega) x14.now (V8.out.bw x14.bw)) ?_
      rintro e wa ⟨va, rfl, Oa, hb⟩
      obtain ⟨s14, c14, rfl, _, _⟩ := Oa.len
      refine hK _ _ (Still.of_below hb) ?_
      clear hK K lp lx0 lx1 lq lpS lxS
      have Wa := Lib.hid (BW.call x14.bw hb)
      have Za := Nat.le_trans T8.out.size x14.bw.size
      replace Oa := Lib.hid (Oa.up (Nat.le_trans hbase Za))
      clear hb Za
      try simp only [Act.put, List.setIfInBounds_toArray, List.set_cons_succ, List.set_cons_zero]
      refine hoist [] [17] (a1 := ?_) 15 rfl (by kernel_rfl) (.inl ⟨rfl, rfl⟩) rfl rfl rfl (fun x K hK => ?_) ?_
      rotate_left
      · go_big_quiet_op
        exact hK
      refine effect 16 rfl (by kernel_rfl) (by kernel_rfl) rfl (fun x16 K hK => ?_)
      go_simp
      refine hK _ _ (Still.of_below ((Below.refl _ _).alloc (Nat.le_refl _) _)) ?_
      clear hK K
      refine effect 17 rfl (by kernel_rfl) (by kernel_rfl) rfl (fun x17 K hK => ?_)
      have BA := Lib.hid (((Wa.out.trans x16.bw).trans ((BW.refl x16.now).alloc (o := .cells #[.int .i64 (c : Int), .slice s14 n c14] 43))).trans x17.bw)
      have L9 := (Sls.pace x16.now (c : Int) (.slice s14 n c14)).bw x17.bw
      have H9 := Lib.hid (H8.out.bw BA.out)
      have T9 := Lib.hid (T8.out.own3 (BA.out.still []) (by simp))
      have Q9 := hpq.out.bw BA.out
      have O9 := (Oa.out.bw (x16.bw.trans ((BW.refl x16.now).alloc (o := .cells #[.int .i64 (c : Int), .slice s14 n c14] 43)))).bw x17.bw
      have hz9 := Nat.le_trans hbase T9.out.size
      have O9' : OB x17.now base 5 (.slice s14 n c14) b.length b := by rw [hnl.out]; exact O9
      refine wp_apPc _ _ rfl base (.slice sq nq cq) nq (qAt F c) rfl Q9 _ rfl (c : Int) (.slice s14 n c14) b L9 O9' (by omega) hz9 ?_
      intro s5 c5 w9 hc5 hm5 Q5 T5 hb5 G5
      refine hK _ _ T5 ?_
      clear hK K O9' O9 Q9 L9 hz9 hb5
      unfold maxLen at hm5
      replace Q5 := Lib.hid Q5
      replace T5 := Lib.hid T5
      replace G5 := Lib.hid G5
      try simp only [Act.put, List.setIfInBounds_toArray, List.set_cons_succ, List.set_cons_zero]
      refine tail 20 rfl (by kernel_rfl) rfl (fun xr => ?_)
      simp only [List.drop_succ_cons, List.drop_zero]
      have hTT : Still (vk.getD c undef).ownBlock.toList x17.now xr.now := by rw [hsq.out]; exact T5.out.trans (xr.bw.still _)
      have hlen1 : (F.qs.getD c [] ++ [b]).length = nq + 1 := by rw [List.length_append, hnq'.out]; rfl
      have hqA : qAt F c ++ [((c : Int), b)] = (F.qs.getD c [] ++ [b]).map fun b => ((c : Int), b) := by rw [List.map_append]; rfl
      have hQQ : PQ xr.now base (.slice s5 (nq + 1) c5) (F.qs.getD c [] ++ [b]).length ((F.qs.getD c [] ++ [b]).map fun b => ((c : Int), b)) := by
        rw [hlen1, ← hqA]; exact Q5.out.bw xr.bw
      have HF := H9.out.turn c hc4 hTT (.slice s5 (nq + 1) c5) _ hQQ (fun k h1 => by rw [hsq.out]; exact G5.out k h1)
      have hgn2 : g ∉ (vk.getD c undef).ownBlock.toList := by rw [hsq.out]; exact hgn
      have hcx : HpB xr.now g _ := hp_st hTT H9.out.cells hgn2
      have zq := hp_cell hcx (4 + c)
      rw [pacC_q _ _ _ _ _ _ _ H9.out.vl hc4] at zq
      have yq := hp_frz hcx (4 + c)
      have TF := ((T9.out.own3 hTT (fun k hk => .inl (List.mem_cons_of_mem _ (hgc.out k (by simpa using hk))))).own3 (still_setCP xr.now g (4 + c) (.slice s5 (nq + 1) c5)) (by simp))
      have hkF : ∀ k ∈ blks (vk.set c (.slice s5 (nq + 1) c5)), k ∈ blks vs ∨ w.heap.size ≤ k := fun k hm => by
        rcases blks_set hm with h1 | h1
        · rcases G5.out k h1 with h2 | h2
          · exact .inl (hgc.out k (by rw [hsq.out]; exact h2))
          · exact .inr (Nat.le_trans T9.out.size h2)
        · exact .inl (hk.out k h1)
      have hfin : PushPost base g gb vs (0, { F with qs := F.qs.set c (F.qs.getD c [] ++ [b]) }) w (.returned (.int .i64 0)) (xr.now.setCell ⟨g, 4 + c, none⟩ (.slice s5 (nq + 1) c5)) := ⟨rfl, ⟨_, HF, hkF⟩, TF⟩
      rw [← hps3.out] at hfin
      replace HF := Lib.hid HF
      replace TF := Lib.hid TF
      replace hQQ := Lib.hid hQQ
      replace hTT := Lib.hid hTT
      replace hcx := Lib.hid hcx
      replace hkF := Lib.hid hkF
      replace hfin := Lib.hid hfin
      replace hqA := Lib.hid hqA
      replace hlen1 := Lib.hid hlen1
      go_wp2_with fail
      go_ret
      exact hfin.out
end Go.Proofs.Ytgiajnfmjpdodaa
