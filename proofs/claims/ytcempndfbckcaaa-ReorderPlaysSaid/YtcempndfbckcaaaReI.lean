/- Packets put into order: the least one taken. No condition but the sizes'. -/
import Derived.Test.YtcempndfbckcaaaReH
namespace Go.Proofs.Ytcempndfbckcaaa
open Go.RowKit

theorem still_st2 (w : World) (z : Nat) (v0 v1 : Value) : Still [z] w ((w.setCell ⟨z, 0, none⟩ v0).setCell ⟨z, 1, none⟩ v1) := ((still_sc w z 0 v0).trans (still_sc _ z 1 v1))
theorem st2_arr (c : Array Value) (hc : c.size = 2) (v0 v1 : Value) : ((c.setIfInBounds 0 v0).setIfInBounds 1 v1) = #[v0, v1] := by
  obtain ⟨l⟩ := c
  match l, hc with
  | [_, _], _ => simp only [List.setIfInBounds_toArray, List.set_cons_zero, List.set_cons_succ]
theorem HpB.st2 {w : World} {z : Nat} {c : Array Value} {T : TypeId} (h : HpB w z (.cells c T)) (hc : c.size = 2) (v0 v1 : Value) : HpB ((w.setCell ⟨z, 0, none⟩ v0).setCell ⟨z, 1, none⟩ v1) z (.cells #[v0, v1] T) := by
  have k := (hp_set (hp_set h 0 v0) 1 v1)
  rw [st2_arr c hc] at k
  exact k
def bufC (many wait next : Int) (q : Value) (passed dropped : Int) : Array Value := #[.int .i64 many, .int .i64 wait, .int .i64 next, q, .int .i64 passed, .int .i64 dropped]
set_option maxRecDepth 100000 in
set_option maxHeartbeats 8000000 in
theorem bpop_any (base g0 g o cv n : Nat) (many wait next passed dropped : Int) (L : List Ent) (hn : n < 1000000) (w : World) (hg : g0 ≠ g) (hp : HpB w g0 (.cells (bufC many wait next (.slice (some ⟨g, o, none⟩) (n + 1) cv) passed dropped) 128)) (h : EQ EN 131 w base (.slice (some ⟨g, o, none⟩) (n + 1) cv) (n + 1) L) (hh : Hp (n + 1) (kE L)) (hr : ∀ x ∈ L, 0 ≤ x.i ∧ x.i ≤ 1152921504606846976) (hx : -1 ≤ next ∧ next ≤ 1152921504606846977) (hpa : 0 ≤ passed ∧ passed ≤ 1152921504606846977) :
    Calls Try.prog 78 #[.pointer (some ⟨g0, 0, none⟩)] w fun e w' => ∃ E L' s cb, e = .returned (.agg #[.int .i64 (E : Ent).i, .slice s E.b.length cb]) ∧ L.Perm (E :: L') ∧ (∀ x ∈ L, E.i ≤ x.i) ∧ Hp n (kE L') ∧ OB w' base 5 (.slice s E.b.length cb) E.b.length E.b ∧ HpB w' g0 (.cells (bufC many wait (E.i + 1) (.slice (some ⟨g, o, none⟩) n cv) (passed + (E.i - next)) dropped) 128) ∧ EQ EN 131 w' base (.slice (some ⟨g, o, none⟩) n cv) n L' ∧ Still [g0, g] w w' := by
  have B1 := Lib.hid (show BW w (w.alloc (.cells #[.int .i64 0, .slice none 0 0] 70)) from (BW.refl w).alloc)
  have R1 := Lib.hid (HpB.new w (.cells #[.int .i64 0, .slice none 0 0] 70))
  have hC := Lib.hid (hpop_any base g0 3 g o cv n _ L hn _ hg (hp.bw B1.out) rfl (h.bw B1.out) hh)
  have hlt := Lib.hid hp.lt
  have hgl : Hid (g < w.heap.size) := Lib.hid (h.lt' g (by simp [Value.ownBlock]))
  have hR := Lib.hid hr
  clear h hh hp hr
  go_enter Try.func78, Try.ntmps78
  go_upto_region 1 with (fail)
  generalize w.alloc (.cells #[.int .i64 0, .slice none 0 0] 70) = w1 at *
  obtain ⟨gr, hgr⟩ : ∃ gr, gr = w.heap.size := ⟨_, rfl⟩
  rw [← hgr] at R1 hlt hgl ⊢
  replace hgr := Lib.hid hgr
  go_upto_region 2 with (first | (go_at_call 82; refine hC.out.mono ?_; rintro e w2 ⟨E, L', s, cb, rfl, hpm, hle, hh2, O2, P2, Q2, T2⟩; clear hC; have hE := hR.out E (hpm.mem_iff.2 List.mem_cons_self); have R2 := Lib.hid (R1.out.st T2 (by have h1 := hlt.out; have h2 := hgl.out; simp; omega)); replace T2 := Lib.hid ((B1.out.still [g0, g]).trans T2); replace O2 := Lib.hid O2; replace P2 := Lib.hid P2; replace Q2 := Lib.hid Q2; replace hpm := Lib.hid hpm; replace hle := Lib.hid hle; replace hh2 := Lib.hid hh2; clear B1 R1 hR))
  have X3 := Lib.hid (HpB.new w2 (.cells #[.int .i64 E.i, .slice s E.b.length cb, .int .i64 E.c] 131))
  have B3 := Lib.hid (show BW w2 (w2.alloc (.cells #[.int .i64 E.i, .slice s E.b.length cb, .int .i64 E.c] 131)) from (BW.refl w2).alloc)
  have hlt2 := Lib.hid P2.out.lt
  have hrt2 := Lib.hid R2.out.lt
  generalize w2.alloc (.cells #[.int .i64 E.i, .slice s E.b.length cb, .int .i64 E.c] 131) = w3 at *
  generalize w2.heap.size = ge at *
  have P3 : Hid (HpB w3 g0 (.cells #[.int .i64 many, .int .i64 wait, .int .i64 next, .slice (some ⟨g, o, none⟩) n cv, .int .i64 passed, .int .i64 dropped] 128)) := Lib.hid (P2.out.bw B3.out)
  replace Q2 := Lib.hid (Q2.out.bw B3.out)
  replace O2 := Lib.hid (O2.out.bw B3.out)
  replace R2 := Lib.hid (R2.out.bw B3.out)
  replace T2 := Lib.hid (T2.out.trans (B3.out.still [g0, g]))
  clear P2 B3
  have c4 := hp_cell P3.out 4
  have c2 := hp_cell P3.out 2
  have cE := hp_cell X3.out 0
  have m4 : ∀ y : LaterS [] w3, _ := fun y => y.bw.cell (c4.trans rfl)
  have m2 : ∀ y : LaterS [] w3, _ := fun y => y.bw.cell (c2.trans rfl)
  have mE : ∀ y : LaterS [] w3, _ := fun y => y.bw.cell (cE.trans rfl)
  clear c4 c2 cE
  refine wp_region_gg [] [] [13] (by kernel_rfl) ?_
  refine hoist [] [] (a1 := ?_) 0 rfl (by kernel_rfl) (.inl ⟨rfl, rfl⟩) rfl rfl rfl (fun x K hK => ?_) ?_
  rotate_left
  · go_big_quiet_op
    exact hK
  refine hoist [] [] (a1 := ?_) 1 rfl (by kernel_rfl) (.inl ⟨rfl, rfl⟩) rfl rfl rfl (fun x K hK => ?_) ?_
  rotate_left
  · go_big_quiet_op
    exact hK
  refine hoist [] [] (a1 := ?_) 2 rfl (by kernel_rfl) (.inl ⟨rfl, rfl⟩) rfl rfl rfl (fun x K hK => ?_) ?_
  rotate_left
  · go_big_quiet_op
    exact hK
  refine hoist [] [] (a1 := ?_) 3 rfl (by kernel_rfl) (.inl ⟨rfl, rfl⟩) rfl rfl rfl (fun x K hK => ?_) ?_
  rotate_left
  · go_big_quiet_op
    exact hK
  refine hoist [] [] (a1 := ?_) 4 rfl (by kernel_rfl) (.inl ⟨rfl, rfl⟩) rfl rfl rfl (fun x K hK => ?_) ?_
  rotate_left
  · go_big_quiet_op
    exact hK
  refine hoist [] [] (a1 := ?_) 5 rfl (by kernel_rfl) (.inl ⟨rfl, rfl⟩) rfl rfl rfl (fun x K hK => ?_) ?_
  rotate_left
  · go_big_quiet_op
    exact hK
  refine hoist [] [] (a1 := ?_) 6 rfl (by kernel_rfl) (.inl ⟨rfl, rfl⟩) rfl rfl rfl (fun x K hK => ?_) ?_
  rotate_left
  · go_big_quiet_op
    exact hK
  refine hoist [] [] (a1 := ?_) 7 rfl (by kernel_rfl) (.inl ⟨rfl, rfl⟩) rfl rfl rfl (fun x K hK => ?_) ?_
  rotate_left
  · go_big_quiet_op
    exact hK
  refine hoist [] [] (a1 := ?_) 8 rfl (by kernel_rfl) (.inl ⟨rfl, rfl⟩) rfl rfl rfl (fun x K hK => ?_) ?_
  rotate_left
  · go_big_quiet_op
    exact hK
  refine hoist [] [] (a1 := ?_) 9 rfl (by kernel_rfl) (.inl ⟨rfl, rfl⟩) rfl rfl rfl (fun x K hK => ?_) ?_
  rotate_left
  · go_big_quiet_op
    exact hK
  refine hoist [] [] (a1 := ?_) 10 rfl (by kernel_rfl) (.inl ⟨rfl, rfl⟩) rfl rfl rfl (fun x K hK => ?_) ?_
  rotate_left
  · go_big_quiet_op
    exact hK
  refine hoist [] [] (a1 := ?_) 11 rfl (by kernel_rfl) (.inl ⟨rfl, rfl⟩) rfl rfl rfl (fun x K hK => ?_) ?_
  rotate_left
  · go_big_quiet_op
    exact hK
  refine hoist [] [] (a1 := ?_) 12 rfl (by kernel_rfl) (.inl ⟨rfl, rfl⟩) rfl rfl rfl (fun x K hK => ?_) ?_
  rotate_left
  · go_big_quiet_op
    exact hK
  refine tail 13 rfl (by kernel_rfl) rfl (fun xr => ?_)
  simp only [List.drop_succ_cons, List.drop_zero]
  have P4 := Lib.hid (P3.out.bw xr.bw)
  have X4 := Lib.hid (X3.out.bw xr.bw)
  have R4 := Lib.hid (R2.out.bw xr.bw)
  have Q4 := Lib.hid (Q2.out.bw xr.bw)
  have O4 := Lib.hid (O2.out.bw xr.bw)
  have T4 := Lib.hid (T2.out.trans (xr.bw.still [g0, g]))
  clear P3 X3 R2 Q2 O2 T2 m4 m2 mE
  generalize xr.now = w4 at *
  have z4 := (hp_cell P4.out 4).trans rfl
  have y4 := hp_frz P4.out 4
  go_upto_region 3 with (fail)
  have hstep : Hid (∀ (k : Nat) (u : Value), Hid (HpB (w4.setCell ⟨g0, k, none⟩ u) ge (.cells #[.int .i64 E.i, .slice s E.b.length cb, .int .i64 E.c] 131)) ∧ Hid (HpB (w4.setCell ⟨g0, k, none⟩ u) gr (.cells #[.int .i64 0, .slice none 0 0] 70)) ∧ Hid (EQ EN 131 (w4.setCell ⟨g0, k, none⟩ u) base (.slice (some ⟨g, o, none⟩) n cv) n L') ∧ Hid (OB (w4.setCell ⟨g0, k, none⟩ u) base 5 (.slice s E.b.length cb) E.b.length E.b) ∧ Hid (Still [g0, g] w (w4.setCell ⟨g0, k, none⟩ u))) := Lib.hid (fun k u => by
    have TT := still_sc w4 g0 k u
    have NN : NoB w4 g0 := .inr ⟨_, _, _, P4.out, by decide⟩
    refine ⟨X4.out.st TT (by have := hlt2.out; simp; omega), R4.out.st TT (by have := hlt.out; simp; omega), Q4.out.still TT (fun k hk => (by simpa using hk : k = g0) ▸ NN) (fun k hk => ?_), O4.out.still TT (NoB.ob O4.out (by simpa using NN)), T4.out.trans (TT.weaken (fun k hk => by simp at hk; simp [hk]))⟩
    have : k = g := by simpa [Value.ownBlock] using hk.symm
    simp; omega)
  have P5 : Hid (HpB (w4.setCell ⟨g0, 4, none⟩ (.int .i64 (passed + (E.i - next)))) g0 (.cells #[.int .i64 many, .int .i64 wait, .int .i64 next, .slice (some ⟨g, o, none⟩) n cv, .int .i64 (passed + (E.i - next)), .int .i64 dropped] 128)) := Lib.hid (hp_set P4.out 4 _)
  have K5 := Lib.hid (hstep.out 4 (.int .i64 (passed + (E.i - next))))
  clear hstep X4 R4 Q4 O4 T4 P4 z4 y4
  obtain ⟨X4, R4, Q4, O4, T4⟩ := K5.out
  clear K5
  generalize w4.setCell ⟨g0, 4, none⟩ (.int .i64 (passed + (E.i - next))) = w5 at *
  obtain ⟨w4, hw4⟩ : ∃ w4, w4 = w5 := ⟨_, rfl⟩
  subst hw4
  have P4 := P5
  clear P5
  have x0 := hp_cell (X4.out) 0
  have x1 := hp_cell (X4.out) 1
  have x2 := hp_cell (X4.out) 2
  simp only [List.getElem?_toArray, List.getElem?_cons_zero, List.getElem?_cons_succ] at x0 x1 x2
  have z2 := (hp_cell P4.out 2).trans rfl
  have y2 := hp_frz P4.out 2
  go_upto_region 4 with (fail)
  have hstep : Hid (∀ (k : Nat) (u : Value), Hid (HpB (w4.setCell ⟨g0, k, none⟩ u) ge (.cells #[.int .i64 E.i, .slice s E.b.length cb, .int .i64 E.c] 131)) ∧ Hid (HpB (w4.setCell ⟨g0, k, none⟩ u) gr (.cells #[.int .i64 0, .slice none 0 0] 70)) ∧ Hid (EQ EN 131 (w4.setCell ⟨g0, k, none⟩ u) base (.slice (some ⟨g, o, none⟩) n cv) n L') ∧ Hid (OB (w4.setCell ⟨g0, k, none⟩ u) base 5 (.slice s E.b.length cb) E.b.length E.b) ∧ Hid (Still [g0, g] w (w4.setCell ⟨g0, k, none⟩ u))) := Lib.hid (fun k u => by
    have TT := still_sc w4 g0 k u
    have NN : NoB w4 g0 := .inr ⟨_, _, _, P4.out, by decide⟩
    refine ⟨X4.out.st TT (by have := hlt2.out; simp; omega), R4.out.st TT (by have := hlt.out; simp; omega), Q4.out.still TT (fun k hk => (by simpa using hk : k = g0) ▸ NN) (fun k hk => ?_), O4.out.still TT (NoB.ob O4.out (by simpa using NN)), T4.out.trans (TT.weaken (fun k hk => by simp at hk; simp [hk]))⟩
    have : k = g := by simpa [Value.ownBlock] using hk.symm
    simp; omega)
  have P5 : Hid (HpB (w4.setCell ⟨g0, 2, none⟩ (.int .i64 (E.i + 1))) g0 (.cells (bufC many wait (E.i + 1) (.slice (some ⟨g, o, none⟩) n cv) (passed + (E.i - next)) dropped) 128)) := Lib.hid (hp_set P4.out 2 _)
  have K5 := Lib.hid (hstep.out 2 (.int .i64 (E.i + 1)))
  clear x0 x1 x2
  clear hstep X4 R4 Q4 O4 T4 P4 z2 y2
  obtain ⟨X4, R4, Q4, O4, T4⟩ := K5.out
  clear K5
  generalize w4.setCell ⟨g0, 2, none⟩ (.int .i64 (E.i + 1)) = w5 at *
  have x0 := hp_cell (X4.out) 0
  have x1 := hp_cell (X4.out) 1
  have x2 := hp_cell (X4.out) 2
  simp only [List.getElem?_toArray, List.getElem?_cons_zero, List.getElem?_cons_succ] at x0 x1 x2
  have r0 := hp_cell (R4.out) 0
  have q0 := hp_frz (R4.out) 0
  have r1 := hp_cell (R4.out) 1
  have q1 := hp_frz (R4.out) 1
  simp only [List.getElem?_toArray, List.getElem?_cons_zero, List.getElem?_cons_succ] at r0 r1
  go_wp2_with fail
  clear x0 x1 x2
  clear r0 r1 q0 q1
  have T6 := still_st2 w5 gr (.int .i64 E.i) (.slice s E.b.length cb)
  have Z6 := R4.out.st2 rfl (.int .i64 E.i) (.slice s E.b.length cb)
  have N6 : NoB w5 gr := .inr ⟨_, _, _, R4.out, by decide⟩
  have P6 := Lib.hid (P5.out.st T6 (by have := hlt.out; simp; omega))
  have Q6 := Lib.hid (Q4.out.still T6 (fun k hk => (by simpa using hk : k = gr) ▸ N6) (fun k hk => by
    have : k = g := by simpa [Value.ownBlock] using hk.symm
    have := hgl.out
    simp; omega))
  have O6 := Lib.hid (O4.out.still T6 (NoB.ob O4.out (by simpa using N6)))
  have T7 := Lib.hid (T4.out.transF T6 (fun k hk => .inr (by have := hgr.out; simp at hk; omega)))
  clear T6 N6 R4 X4 Q4 O4 T4 P5
  generalize (w5.setCell ⟨gr, 0, none⟩ (.int .i64 E.i)).setCell ⟨gr, 1, none⟩ (.slice s E.b.length cb) = w6 at *
  have z0 := hp_cell (Z6) 0
  have z1 := hp_cell (Z6) 1
  simp only [List.getElem?_toArray, List.getElem?_cons_zero, List.getElem?_cons_succ] at z0 z1
  replace Z6 := Lib.hid Z6
  exact bodyPost_ret (v := .agg #[.int .i64 E.i, .slice s E.b.length cb]) (by simp [results, Try.results78, go_sem, z0, z1]) rfl ⟨E, L', s, cb, rfl, hpm.out, hle.out, hh2.out, O6.out, P6.out, Q6.out, T7.out⟩
end Go.Proofs.Ytcempndfbckcaaa
