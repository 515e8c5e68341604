/- Do: a frame is done. No condition but the sizes'. -/
import Derived.Test.YtebeifkgjhgmeaaRnD
namespace Go.Proofs.Ytebeifkgjhgmeaa
open Go.RowKit
theorem SQ.keep0 {α : Type} {E : Elt α} {w w' : World} {base : Nat} {v : Value} {n : Nat} {l : List α} (h : SQ E w base v n l) {S : List Nat} (hs : Still S w w') (hS : ∀ k ∈ S, E.Ok w k) (hv : 0 < n → ∀ g, v.ownBlock = some g → g ∉ S) : SQ E w' base v n l := by
 rcases Nat.eq_zero_or_pos n with rfl | h0
 ·obtain ⟨h1, xs, h2, h3⟩ := h
  refine ⟨h1, xs, ?_, h3.mono fun _ _ h => E.still h hs hS⟩
  obtain ⟨k1, k2, k3 | ⟨b, o, cap, e, k4, k5, k6, k7⟩⟩ := h2
  ·exact ⟨k1, k2, .inl k3⟩
  ·exact ⟨k1, k2, .inl ⟨rfl, _, cap, e, (fun h => by cases h), k5⟩⟩
 ·exact h.still hs hS (hv h0)
def repA (nn : Nat) (cd : Nat) (v : Int) : Array Value := #[.int .u64 (nn : Nat), .int .i64 (cd : Nat), .int .i64 v]
structure DoPost (base gh gl o n c : Nat) (vS : Value) (S : List (List Nat)) (L : List (Mem × Value)) (kd st rm tr ow ly : Int) (nn : Nat) (nf : Nat) (F : List Nat) (w : World) (e : Ending) (w' : World) : Prop where
 ex : ∃ (L' : List (Mem × Value)) (cd : Nat) (v : Int) (sc : Option Addr) (nc cc : Nat), e = .returned (.tuple #[.slice sc nc cc, .agg (repA nn cd v)]) ∧ DoRel (L.map Prod.fst) st nn (L'.map Prod.fst) cd v ∧ (cd ≠ 0 → nc = 0) ∧ nc ≤ 200 ∧
  (∀ (s : Nat) (m : Mem) (hs : s < S.length), st = (s : Int) → (L.map Prod.fst)[s]? = some m → m.n < nn → 1 ≤ kd → kd < 9 → (kd ≠ 1 → kd ≠ 8 → m.r ≠ -1) → KEx kd rm tr ow ly nf F S[s] ((L.map Prod.fst).set s { m with n := nn }) (L'.map Prod.fst) s { m with n := nn } cd v) ∧
  HouseV w' base gh vS (.slice (some ⟨gl, o, none⟩) n c) S L'
 st : Still (gl :: hsB L) w w'
structure DoIn (base gh gl o n c : Nat) (vS : Value) (S : List (List Nat)) (L : List (Mem × Value)) (nn : Nat) (sf : Option Addr) (nf cf : Nat) (F : List Nat) (w : World) : Prop where
 hL : L.length ≤ 6
 hSL : S.length = L.length
 hS : ∀ s ∈ S, s.length ≤ 20
 ok : HouseOk (L.map Prod.fst)
 ok2 : Ok2 (L.map Prod.fst)
 hb : base ≤ w.heap.size
 hH : HouseV w base gh vS (.slice (some ⟨gl, o, none⟩) n c) S L
 sq : SQ EU4 w 0 (.slice sf nf cf) nf F
 hF : ∀ x ∈ F, x < 4294967296
 hnf : nf ≤ 40
 hsf : 0 < nf → ∀ g, (Value.slice sf nf cf).ownBlock = some g → g ≠ gl
 hnn : nn < 18446744073709551616
theorem swRp : SwT 36 3 := ⟨⟨_, Try.underlying36, rfl, rfl⟩, by kernel_rfl⟩
set_option maxRecDepth 100000 in
set_option maxHeartbeats 8000000 in
theorem do_any (base gh gl o n c : Nat) (vS : Value) (S : List (List Nat)) (L : List (Mem × Value)) (kd st rm tr ow ly : Int) (nn : Nat) (sf : Option Addr) (nf cf : Nat) (F : List Nat) (w : World) (D : DoIn base gh gl o n c vS S L nn sf nf cf F w) :
  Calls Try.prog 9 #[.pointer (some ⟨gh, 0, none⟩), .agg (frA kd st (nn : Nat) rm tr ow ly sf nf cf)] w (DoPost base gh gl o n c vS S L kd st rm tr ow ly nn nf F w) := by
 have hln : n = L.length := by
  obtain ⟨_, _, e, _⟩ := D.hH.mb.len
  cases e; rfl
 have BA : BW w (((w.alloc (.cells (frA kd st (nn : Nat) rm tr ow ly sf nf cf) 32)).alloc (.cells #[.int .u64 0, .int .i64 0, .int .i64 0] 36)).alloc (.cells #[.int .u64 (nn : Nat), .int .i64 0, .int .i64 0] 36)) := (((BW.refl w).alloc).alloc).alloc
 have G1 := Lib.hid ((HpB.new w (.cells (frA kd st (nn : Nat) rm tr ow ly sf nf cf) 32)).bw (show BW _ (((w.alloc (.cells (frA kd st (nn : Nat) rm tr ow ly sf nf cf) 32)).alloc (.cells #[.int .u64 0, .int .i64 0, .int .i64 0] 36)).alloc (.cells #[.int .u64 (nn : Nat), .int .i64 0, .int .i64 0] 36)) from ((BW.refl _).alloc).alloc))
 have G2 := Lib.hid ((HpB.new (w.alloc (.cells (frA kd st (nn : Nat) rm tr ow ly sf nf cf) 32)) (.cells #[.int .u64 0, .int .i64 0, .int .i64 0] 36)).bw (show BW _ (((w.alloc (.cells (frA kd st (nn : Nat) rm tr ow ly sf nf cf) 32)).alloc (.cells #[.int .u64 0, .int .i64 0, .int .i64 0] 36)).alloc (.cells #[.int .u64 (nn : Nat), .int .i64 0, .int .i64 0] 36)) from (BW.refl _).alloc))
 have G3 := Lib.hid (HpB.new ((w.alloc (.cells (frA kd st (nn : Nat) rm tr ow ly sf nf cf) 32)).alloc (.cells #[.int .u64 0, .int .i64 0, .int .i64 0] 36)) (.cells #[.int .u64 (nn : Nat), .int .i64 0, .int .i64 0] 36))
 simp only [World.size_alloc] at G2 G3
 have B1 := Lib.hid BA
 have hH := Lib.hid (D.hH.bw BA)
 have hD := Lib.hid D
 clear BA D
 replace hln := Lib.hid hln
 unfold frA at *
 go_enter Try.func9, Try.ntmps9
 go_upto_region 2 with (fail)
 generalize (((w.alloc _).alloc _).alloc _) = w1 at *
 generalize hgf : w.heap.size = gf at *
 generalize hgr : gf + 1 = gr at *
 generalize hgp : gr + 1 = gp at *
 have hnew : Hid (w.heap.size ≤ gf ∧ gf ≠ gr ∧ gf ≠ gp ∧ gr ≠ gp ∧ w.heap.size ≤ gr ∧ w.heap.size ≤ gp) := Lib.hid (by omega)
 clear hgf hgr hgp
 have cK := Lib.hid (kinds_any w1)
 go_wp2_with fail
 refine Calls.mono cK.out ?_
 rintro e w2 ⟨rfl, hb⟩
 have BA : BW w2 (w2.alloc (.cells kindA 67)) := (BW.refl w2).alloc
 replace hb := hb.trans BA
 replace G1 := Lib.hid (G1.out.bw hb)
 replace G2 := Lib.hid (G2.out.bw hb)
 replace G3 := Lib.hid (G3.out.bw hb)
 replace hH := Lib.hid (hH.out.bw hb)
 replace B1 := Lib.hid (B1.out.trans hb)
 have G4 := Lib.hid (HpB.new w2 (.cells kindA 67))
 clear hb BA cK
 dsimp only
 go_upto_region 3 with (refine swStN swKd rfl rfl rfl rfl rfl rfl (by kernel_rfl) ?_)
 generalize w2.alloc _ = w3 at *
 generalize w2.heap.size = gk at *
 have f1 := (hp_cell G1.out 1).trans (show _ = some (.int .i64 st) from rfl)
 have f2 := (hp_cell G1.out 2).trans (show _ = some (.int .u64 (nn : Nat)) from rfl)
 have z1 := (hp_cell G3.out 1).trans (show _ = some (.int .i64 0) from rfl)
 have y1 := hp_frz G3.out 1
 have cS := Lib.hid (seat_any gh vS _ n c st w3 hH.out.hp)
 go_wp2_with fail
 refine Calls.mono cS.out ?_
 rintro e w4 ⟨rfl, rfl⟩
 clear cS
 cases hs : (decide (0 ≤ st) && decide (st < (n : Int))) with
 | false =>
  have hrel : Hid (DoRel (L.map Prod.fst) st nn (L.map Prod.fst) 9 0) := Lib.hid (.none (fun e => by
   rw [List.length_map, ← hln.out] at e
   rw [decide_eq_true e.1, decide_eq_true e.2] at hs
   cases hs))
  have hno : Hid (∀ (s : Nat), s < S.length → st ≠ (s : Int)) := Lib.hid (fun s h1 e => by
   rw [hD.out.hSL, ← hln.out] at h1
   rw [decide_eq_true (by omega), decide_eq_true (by omega)] at hs
   cases hs)
  replace hs := Lib.hid hs
  dsimp only
  go_upto_region 5 with (fail)
  have G5 : Hid (HpB (w3.setCell ⟨gp, 1, none⟩ (.int .i64 9)) gp (.cells (repA nn 9 0) 36)) := Lib.hid (hp_set G3.out 1 (.int .i64 9))
  have B5 := Lib.hid (B1.out.set (g := gp) (o := 1) (v := .int .i64 9) hnew.out.2.2.2.2.2)
  have G6 := Lib.hid (G2.out.st (still_sc w3 gp 1 (.int .i64 9)) (by simpa using hnew.out.2.2.2.1))
  clear z1 y1 f1 f2 G1 G2 G3 B1 hH
  generalize w3.setCell ⟨gp, 1, none⟩ (.int .i64 9) = w5 at *
  try simp only [Act.put, List.setIfInBounds_toArray, List.set_cons_succ, List.set_cons_zero]
  refine wp_region_gg [] [] [2] (by kernel_rfl) ?_
  refine hoist [] [] (a1 := ?_) 0 rfl (by kernel_rfl) (.inl ⟨rfl, rfl⟩) rfl rfl rfl (fun x K hK => ?_) ?_
  rotate_left
  ·refine swQlC swRp rfl (by rfl) (c := repA nn 9 0) rfl (fun w' hw => by subst hw; exact (G5.out.bw x.bw).range 0 _ rfl) (by simp only [Act.put, List.setIfInBounds_toArray, List.set_cons_succ, List.set_cons_zero]; rfl) ?_
   exact hK
  refine hoist [] [] (a1 := ?_) 1 rfl (by kernel_rfl) (.inl ⟨rfl, rfl⟩) rfl rfl rfl (fun x K hK => ?_) ?_
  rotate_left
  ·go_big_quiet_op
   exact hK
  refine tail 2 rfl (by kernel_rfl) rfl (fun xr => ?_)
  simp only [List.drop_succ_cons, List.drop_zero]
  replace B5 := Lib.hid (B5.out.trans xr.bw)
  replace G6 := Lib.hid (G6.out.bw xr.bw)
  clear G5
  generalize xr.now = w6 at *
  have G7 := G6.out.rowS (repA nn 9 0)
  have B7 := Lib.hid (B5.out.row hnew.out.2.2.2.2.1 (repA nn 9 0))
  go_wp2_with (refine swSt swRp rfl rfl rfl rfl G6.out rfl rfl (by kernel_rfl) ?_)
  have q0 := (hp_cell G7 0).trans (show _ = some (.int .u64 (nn : Nat)) from rfl)
  have q1 := (hp_cell G7 1).trans (show _ = some (.int .i64 9) from rfl)
  have q2 := (hp_cell G7 2).trans (show _ = some (.int .i64 0) from rfl)
  refine bodyPost_ret (v := .tuple #[.slice none 0 0, .agg #[.int .u64 (nn : Nat), .int .i64 9, .int .i64 0]]) ?_ rfl ⟨⟨L, 9, 0, none, 0, 0, rfl, hrel.out, fun _ => rfl, by omega, fun s m h1 h2 => absurd h2 (hno.out s h1), hD.out.hH.bw B7.out⟩, B7.out.still _⟩
  simp [results, Try.results9, go_sem, q0, q1, q2]
 | true =>
  rw [Bool.and_eq_true, decide_eq_true_eq, decide_eq_true_eq] at hs
  obtain ⟨i, rfl⟩ : ∃ i : Nat, st = (i : Int) := ⟨st.toNat, by omega⟩
  have hin : i < n := by omega
  have hi : i < L.length := by rw [← hln.out]; exact hin
  have hcn : n ≤ c ∧ c ≤ maxLen := by
   obtain ⟨_, _, e, k1, k2⟩ := hH.out.mb.len
   cases e
   exact ⟨by rw [hln.out]; exact k1, k2⟩
  unfold maxLen at hcn
  obtain ⟨hcn1, hcn2⟩ := hcn
  obtain ⟨va, vb, hm, -, -⟩ := hH.out.mem i hi
  have z8 := (hm 8 (by decide)).trans (show _ = some (.int .u64 (L[i].1.n : Nat)) from rfl)
  have zh := (hp_cell hH.out.hp 1).trans (show _ = some (.slice (some ⟨gl, o, none⟩) n c) from rfl)
  have hget : Hid ((L.map Prod.fst)[i]? = some L[i].1) := Lib.hid (get_fst hi)
  clear hm hs
  dsimp only
  go_upto_region 6 with (fail)
  generalize hlnn : L[i].1.n = ln at *
  have m1 : ∀ y : LaterS [] w3, _ := fun y => y.bw.cell f1
  have m2 : ∀ y : LaterS [] w3, _ := fun y => y.bw.cell f2
  have m8 : ∀ y : LaterS [] w3, _ := fun y => y.bw.cell z8
  have mh : ∀ y : LaterS [] w3, _ := fun y => y.bw.cell zh
  clear f1 f2 z1 y1 z8 zh
  replace hlnn := Lib.hid hlnn
  try simp only [Act.put, List.setIfInBounds_toArray, List.set_cons_succ, List.set_cons_zero]
  refine wp_region_gg [] [] [] (by kernel_rfl) ?_
  refine hoist [] [] (a1 := ?_) 0 rfl (by kernel_rfl) (.inl ⟨rfl, rfl⟩) rfl rfl rfl (fun x K hK => ?_) ?_
  rotate_left
  ·go_big_quiet_op
   exact hK
  refine hoist [] [] (a1 := ?_) 1 rfl (by kernel_rfl) (.inl ⟨rfl, rfl⟩) rfl rfl rfl (fun x K hK => ?_) ?_
  rotate_left
  ·go_big_quiet_op
   exact hK
  refine hoist [] [] (a1 := ?_) 2 rfl (by kernel_rfl) (.inl ⟨rfl, rfl⟩) rfl rfl rfl (fun x K hK => ?_) ?_
  rotate_left
  ·go_big_quiet_op
   exact hK
  refine hoist [] [] (a1 := ?_) 3 rfl (by kernel_rfl) (.inl ⟨rfl, rfl⟩) rfl rfl rfl (fun x K hK => ?_) ?_
  rotate_left
  ·go_big_quiet_op
   exact hK
  refine hoist [] [] (a1 := ?_) 4 rfl (by kernel_rfl) (.inl ⟨rfl, rfl⟩) rfl rfl rfl (fun x K hK => ?_) ?_
  rotate_left
  ·go_big_quiet_op
   exact hK
  refine hoist [] [] (a1 := ?_) 5 rfl (by kernel_rfl) (.inl ⟨rfl, rfl⟩) rfl rfl rfl (fun x K hK => ?_) ?_
  rotate_left
  ·go_big_quiet_op
   exact hK
  refine hoist [] [] (a1 := ?_) 6 rfl (by kernel_rfl) (.inl ⟨rfl, rfl⟩) rfl rfl rfl (fun x K hK => ?_) ?_
  rotate_left
  ·go_big_quiet_op
   exact hK
  refine hoist [] [] (a1 := ?_) 7 rfl (by kernel_rfl) (.inl ⟨rfl, rfl⟩) rfl rfl rfl (fun x K hK => ?_) ?_
  rotate_left
  ·go_big_quiet_op
   exact hK
  refine hoist [] [] (a1 := ?_) 8 rfl (by kernel_rfl) (.inl ⟨rfl, rfl⟩) rfl rfl rfl (fun x K hK => ?_) ?_
  rotate_left
  ·go_big_quiet_op
   exact hK
  refine hoist [] [] (a1 := ?_) 9 rfl (by kernel_rfl) (.inl ⟨rfl, rfl⟩) rfl rfl rfl (fun x K hK => ?_) ?_
  rotate_left
  ·go_big_quiet_op
   exact hK
  refine hoist [] [] (a1 := ?_) 10 rfl (by kernel_rfl) (.inl ⟨rfl, rfl⟩) rfl rfl rfl (fun x K hK => ?_) ?_
  rotate_left
  ·go_big_quiet_op
   exact hK
  refine hoist [] [] (a1 := ?_) 11 rfl (by kernel_rfl) (.inl ⟨rfl, rfl⟩) rfl rfl rfl (fun x K hK => ?_) ?_
  rotate_left
  ·go_big_quiet_op
   exact hK
  refine hoist [] [] (a1 := ?_) 12 rfl (by kernel_rfl) (.inl ⟨rfl, rfl⟩) rfl rfl rfl (fun x K hK => ?_) ?_
  rotate_left
  ·go_big_quiet_op
   exact hK
  refine done (by kernel_rfl) (fun xr => ?_)
  replace G1 := Lib.hid (G1.out.bw xr.bw)
  replace G2 := Lib.hid (G2.out.bw xr.bw)
  replace G3 := Lib.hid (G3.out.bw xr.bw)
  replace G4 := Lib.hid (G4.out.bw xr.bw)
  replace hH := Lib.hid (hH.out.bw xr.bw)
  replace B1 := Lib.hid (B1.out.trans xr.bw)
  clear m1 m2 m8 mh
  generalize xr.now = w4 at *
  clear xr
  have z1 := (hp_cell G3.out 1).trans (show _ = some (.int .i64 0) from rfl)
  have y1 := hp_frz G3.out 1
  by_cases h5 : nn ≤ ln
  ·have d5 : decide (nn ≤ ln) = true := decide_eq_true h5
   have hrel : Hid (DoRel (L.map Prod.fst) (i : Nat) nn (L.map Prod.fst) 5 0) := Lib.hid (.old i _ rfl hget.out (by rw [hlnn.out]; exact h5))
   have hno : Hid (∀ (s : Nat) (m : Mem), ((i : Nat) : Int) = (s : Int) → (L.map Prod.fst)[s]? = some m → ¬ m.n < nn) := Lib.hid (fun s m h1 h2 h3 => by
    obtain rfl : i = s := by omega
    have := hget.out.symm.trans h2
    cases this
    have := hlnn.out
    omega)
   simp only [ge_iff_le, d5]
   replace h5 := Lib.hid h5
   go_upto_region 8 with (fail)
   have G5 : Hid (HpB (w4.setCell ⟨gp, 1, none⟩ (.int .i64 5)) gp (.cells (repA nn 5 0) 36)) := Lib.hid (hp_set G3.out 1 (.int .i64 5))
   have B5 := Lib.hid (B1.out.set (g := gp) (o := 1) (v := .int .i64 5) hnew.out.2.2.2.2.2)
   have G6 := Lib.hid (G2.out.st (still_sc w4 gp 1 (.int .i64 5)) (by simpa using hnew.out.2.2.2.1))
   clear z1 y1 G1 G2 G3 G4 B1 hH
   generalize w4.setCell ⟨gp, 1, none⟩ (.int .i64 5) = w5 at *
   try simp only [Act.put, List.setIfInBounds_toArray, List.set_cons_succ, List.set_cons_zero]
   refine wp_region_gg [] [] [2] (by kernel_rfl) ?_
   refine hoist [] [] (a1 := ?_) 0 rfl (by kernel_rfl) (.inl ⟨rfl, rfl⟩) rfl rfl rfl (fun x K hK => ?_) ?_
   rotate_left
   ·refine swQlC swRp rfl (by rfl) (c := repA nn 5 0) rfl (fun w' hw => by subst hw; exact (G5.out.bw x.bw).range 0 _ rfl) (by simp only [Act.put, List.setIfInBounds_toArray, List.set_cons_succ, List.set_cons_zero]; rfl) ?_
    exact hK
   refine hoist [] [] (a1 := ?_) 1 rfl (by kernel_rfl) (.inl ⟨rfl, rfl⟩) rfl rfl rfl (fun x K hK => ?_) ?_
   rotate_left
   ·go_big_quiet_op
    exact hK
   refine tail 2 rfl (by kernel_rfl) rfl (fun xr => ?_)
   simp only [List.drop_succ_cons, List.drop_zero]
   replace B5 := Lib.hid (B5.out.trans xr.bw)
   replace G6 := Lib.hid (G6.out.bw xr.bw)
   clear G5
   generalize xr.now = w6 at *
   have G7 := G6.out.rowS (repA nn 5 0)
   have B7 := Lib.hid (B5.out.row hnew.out.2.2.2.2.1 (repA nn 5 0))
   go_wp2_with (refine swSt swRp rfl rfl rfl rfl G6.out rfl rfl (by kernel_rfl) ?_)
   have q0 := (hp_cell G7 0).trans (show _ = some (.int .u64 (nn : Nat)) from rfl)
   have q1 := (hp_cell G7 1).trans (show _ = some (.int .i64 5) from rfl)
   have q2 := (hp_cell G7 2).trans (show _ = some (.int .i64 0) from rfl)
   refine bodyPost_ret (v := .tuple #[.slice none 0 0, .agg #[.int .u64 (nn : Nat), .int .i64 5, .int .i64 0]]) ?_ rfl ⟨⟨L, 5, 0, none, 0, 0, rfl, hrel.out, fun _ => rfl, by omega, fun s m h1 h2 h3 h4 => absurd h4 (hno.out s m h2 h3), hD.out.hH.bw B7.out⟩, B7.out.still _⟩
   simp [results, Try.results9, go_sem, q0, q1, q2]
  have d5 : decide (nn ≤ ln) = false := decide_eq_false h5
  simp only [ge_iff_le, d5]
  have h5' : Hid (ln < nn) := Lib.hid (by omega)
  clear z1 y1 h5
  go_upto_region 9 with (fail)
  have zh := (hp_cell hH.out.hp 1).trans (show _ = some (.slice (some ⟨gl, o, none⟩) n c) from rfl)
  have f1 := (hp_cell G1.out 1).trans (show _ = some (.int .i64 (i : Nat)) from rfl)
  have m1 : ∀ y : LaterS [] w4, _ := fun y => y.bw.cell f1
  have mh : ∀ y : LaterS [] w4, _ := fun y => y.bw.cell zh
  clear zh f1
  try simp only [Act.put, List.setIfInBounds_toArray, List.set_cons_succ, List.set_cons_zero]
  refine wp_region_gg [] [] [] (by kernel_rfl) ?_
  refine hoist [] [] (a1 := ?_) 0 rfl (by kernel_rfl) (.inl ⟨rfl, rfl⟩) rfl rfl rfl (fun x K hK => ?_) ?_
  rotate_left
  ·go_big_quiet_op
   exact hK
  refine hoist [] [] (a1 := ?_) 1 rfl (by kernel_rfl) (.inl ⟨rfl, rfl⟩) rfl rfl rfl (fun x K hK => ?_) ?_
  rotate_left
  ·refine swQl swFr (l := [.int .i64 kd, .int .i64 (i : Nat), .int .u64 (nn : Nat), .int .i64 rm, .int .i64 tr, .int .i64 ow, .int .i64 ly, .slice sf nf cf]) rfl (by rfl) rfl (fun w' hw => by subst hw; exact (G1.out.bw x.bw).range 0 _ rfl) (by simp only [Act.put, List.setIfInBounds_toArray, List.set_cons_succ, List.set_cons_zero]; rfl) ?_
   exact hK
  refine hoist [] [] (a1 := ?_) 2 rfl (by kernel_rfl) (.inl ⟨rfl, rfl⟩) rfl rfl rfl (fun x K hK => ?_) ?_
  rotate_left
  ·go_big_quiet_op
   exact hK
  refine hoist [] [] (a1 := ?_) 3 rfl (by kernel_rfl) (.inl ⟨rfl, rfl⟩) rfl rfl rfl (fun x K hK => ?_) ?_
  rotate_left
  ·go_big_quiet_op
   exact hK
  refine hoist [] [] (a1 := ?_) 4 rfl (by kernel_rfl) (.inl ⟨rfl, rfl⟩) rfl rfl rfl (fun x K hK => ?_) ?_
  rotate_left
  ·go_big_quiet_op
   exact hK
  refine hoist [] [] (a1 := ?_) 5 rfl (by kernel_rfl) (.inl ⟨rfl, rfl⟩) rfl rfl rfl (fun x K hK => ?_) ?_
  rotate_left
  ·go_big_quiet_op
   exact hK
  refine hoist [] [] (a1 := ?_) 6 rfl (by kernel_rfl) (.inl ⟨rfl, rfl⟩) rfl rfl rfl (fun x K hK => ?_) ?_
  rotate_left
  ·go_big_quiet_op
   exact hK
  refine hoist [] [] (a1 := ?_) 7 rfl (by kernel_rfl) (.inl ⟨rfl, rfl⟩) rfl rfl rfl (fun x K hK => ?_) ?_
  rotate_left
  ·go_big_quiet_op
   exact hK
  refine hoist [] [] (a1 := ?_) 8 rfl (by kernel_rfl) (.inl ⟨rfl, rfl⟩) rfl rfl rfl (fun x K hK => ?_) ?_
  rotate_left
  ·go_big_quiet_op
   exact hK
  refine hoist [] [] (a1 := ?_) 9 rfl (by kernel_rfl) (.inl ⟨rfl, rfl⟩) rfl rfl rfl (fun x K hK => ?_) ?_
  rotate_left
  ·go_big_quiet_op
   exact hK
  refine effect 10 rfl (by kernel_rfl) (by kernel_rfl) rfl (fun x10 K hK => ?_)
  go_simp
  refine hK _ _ (Still.of_below ((Below.refl _ _).alloc (Nat.le_refl _) _)) ?_
  clear hK K m1 mh
  have B6 := Lib.hid (x10.bw.alloc (o := .cells (stC gh kd (i : Nat) (nn : Nat) rm tr ow ly sf nf cf gl (o + i * 9) (.slice none 0 0)) 73))
  have S6 := Lib.hid (HpB.new x10.now (.cells (stC gh kd (i : Nat) (nn : Nat) rm tr ow ly sf nf cf gl (o + i * 9) (.slice none 0 0)) 73))
  have hz6 := Lib.hid x10.bw.size
  unfold stC at B6 S6
  generalize x10.now.alloc (.cells #[.pointer (some ⟨gh, 0, none⟩), .int .i64 kd, .int .i64 (i : Nat), .int .u64 (nn : Nat), .int .i64 rm, .int .i64 tr, .int .i64 ow, .int .i64 ly, .slice sf nf cf, .pointer (some ⟨gl, o + i * 9, none⟩), .slice none 0 0] 73) = w5 at *
  generalize x10.now.heap.size = gs at *
  try simp only [Act.put, List.setIfInBounds_toArray, List.set_cons_succ, List.set_cons_zero]
  refine hoist [] [] (a1 := ?_) 11 rfl (by kernel_rfl) (.inl ⟨rfl, rfl⟩) rfl rfl rfl (fun x K hK => ?_) ?_
  rotate_left
  ·go_big_quiet_op
   exact hK
  refine done (by kernel_rfl) (fun xr => ?_)
  replace B6 := Lib.hid (B6.out.trans xr.bw)
  replace S6 : Hid (HpB xr.now gs (.cells (stC gh kd (i : Nat) (nn : Nat) rm tr ow ly sf nf cf gl (o + i * 9) (.slice none 0 0)) 73)) := Lib.hid (S6.out.bw xr.bw)
  replace G1 := Lib.hid (G1.out.bw B6.out)
  replace G2 := Lib.hid (G2.out.bw B6.out)
  replace G3 := Lib.hid (G3.out.bw B6.out)
  replace G4 := Lib.hid (G4.out.bw B6.out)
  replace hH := Lib.hid (hH.out.bw B6.out)
  have hgs : Hid (w.heap.size ≤ gs) := Lib.hid (Nat.le_trans B1.out.size hz6.out)
  replace B1 := Lib.hid (B1.out.trans B6.out)
  clear B6 hz6
  generalize xr.now = w6 at *
  clear xr
  have f2 := (hp_cell G1.out 2).trans (show _ = some (.int .u64 (nn : Nat)) from rfl)
  have s9 := (hp_cell S6.out 9).trans (show _ = some (.pointer (some ⟨gl, o + i * 9, none⟩)) from rfl)
  have m2 : ∀ y : LaterS [] w6, _ := fun y => y.bw.cell f2
  have m9 : ∀ y : LaterS [] w6, _ := fun y => y.bw.cell s9
  clear f2 s9
  go_upto_region 10 with (fail)
  try simp only [Act.put, List.setIfInBounds_toArray, List.set_cons_succ, List.set_cons_zero]
  refine wp_region_gg [] [] [6] (by kernel_rfl) ?_
  refine hoist [] [] (a1 := ?_) 0 rfl (by kernel_rfl) (.inl ⟨rfl, rfl⟩) rfl rfl rfl (fun x K hK => ?_) ?_
  rotate_left
  ·go_big_quiet_op
   exact hK
  refine hoist [] [] (a1 := ?_) 1 rfl (by kernel_rfl) (.inl ⟨rfl, rfl⟩) rfl rfl rfl (fun x K hK => ?_) ?_
  rotate_left
  ·go_big_quiet_op
   exact hK
  refine hoist [] [] (a1 := ?_) 2 rfl (by kernel_rfl) (.inl ⟨rfl, rfl⟩) rfl rfl rfl (fun x K hK => ?_) ?_
  rotate_left
  ·go_big_quiet_op
   exact hK
  refine hoist [] [] (a1 := ?_) 3 rfl (by kernel_rfl) (.inl ⟨rfl, rfl⟩) rfl rfl rfl (fun x K hK => ?_) ?_
  rotate_left
  ·go_big_quiet_op
   exact hK
  refine hoist [] [] (a1 := ?_) 4 rfl (by kernel_rfl) (.inl ⟨rfl, rfl⟩) rfl rfl rfl (fun x K hK => ?_) ?_
  rotate_left
  ·go_big_quiet_op
   exact hK
  refine hoist [] [] (a1 := ?_) 5 rfl (by kernel_rfl) (.inl ⟨rfl, rfl⟩) rfl rfl rfl (fun x K hK => ?_) ?_
  rotate_left
  ·go_big_quiet_op
   exact hK
  refine tail 6 rfl (by kernel_rfl) rfl (fun xr => ?_)
  simp only [List.drop_succ_cons, List.drop_zero]
  replace S6 := Lib.hid (S6.out.bw xr.bw)
  replace G1 := Lib.hid (G1.out.bw xr.bw)
  replace G2 := Lib.hid (G2.out.bw xr.bw)
  replace G3 := Lib.hid (G3.out.bw xr.bw)
  replace G4 := Lib.hid (G4.out.bw xr.bw)
  replace hH := Lib.hid (hH.out.bw xr.bw)
  replace B1 := Lib.hid (B1.out.trans xr.bw)
  clear m2 m9
  generalize xr.now = w7 at *
  clear xr
  obtain ⟨va, vb, hm, -, -⟩ := hH.out.mem i hi
  have z8 := (hm 8 (by decide)).trans (show _ = some (.int .u64 (L[i].1.n : Nat)) from rfl)
  obtain ⟨cr, hcr⟩ := hH.out.row
  have y8 : w7.frozen? ⟨gl, o + i * 9 + 8, none⟩ = false := hp_frz hcr _
  have H8 : HouseV (w7.setCell ⟨gl, o + i * 9 + 8, none⟩ (.int .u64 (nn : Nat))) base gh vS (.slice (some ⟨gl, o, none⟩) n c) S (L.set i ({ L[i].1 with n := nn }, L[i].2)) := hH.out.set i hi 8 (by decide) (.int .u64 (nn : Nat)) { L[i].1 with n := nn } rfl (fun cs ⟨va, vb, e, k0, k1, k2⟩ => ⟨va, vb, by rw [e]; rfl, k0, k1, k2⟩)
  have T8 := still_sc w7 gl (o + i * 9 + 8) (.int .u64 (nn : Nat))
  have hgl : ∀ {b : Nat} {cs : Array Value} {T : TypeId}, HpB w7 b (.cells cs T) → T ≠ 45 → b ∉ [gl] := fun hb ht hm => by
   obtain rfl := List.mem_singleton.1 hm
   have := hb.symm.trans hcr
   cases this
   exact ht rfl
  have S8 := Lib.hid (S6.out.st T8 (hgl S6.out (by decide)))
  have F8 := Lib.hid (G1.out.st T8 (hgl G1.out (by decide)))
  have R8 := Lib.hid (G2.out.st T8 (hgl G2.out (by decide)))
  have P8 := Lib.hid (G3.out.st T8 (hgl G3.out (by decide)))
  have K8 := Lib.hid (G4.out.st T8 (hgl G4.out (by decide)))
  have sq8 := Lib.hid (((hD.out.sq.bw B1.out).keep0 T8 (fun _ _ => trivial) (fun h0 g hg hm => by
   obtain rfl := List.mem_singleton.1 hm
   exact hD.out.hsf h0 g hg rfl)))
  have T9 := Lib.hid ((B1.out.still (gl :: hsB L)).trans (T8.weaken (fun x hx => by
   obtain rfl := List.mem_singleton.1 hx
   simp)))
  replace H8 := Lib.hid H8
  clear T8 hgl hcr hm S6 G1 G2 G3 G4 hH B1
  go_upto_block 1 with (fail)
  have hL1 : Hid (L.set i ({ L[i].1 with n := nn }, L[i].2) = L.set i ({ L[i].1 with n := nn }, L[i].2)) := Lib.hid rfl
  have hi1 : i < (L.set i ({ L[i].1 with n := nn }, L[i].2)).length := by simpa using hi
  have hm1 : (L.set i ({ L[i].1 with n := nn }, L[i].2))[i].1 = { L[i].1 with n := nn } := by rw [List.getElem_set_self]
  have hf1 : (L.set i ({ L[i].1 with n := nn }, L[i].2)).map Prod.fst = (L.map Prod.fst).set i { L[i].1 with n := nn } := map_set_fst ..
  have hb1 := hsB_set hi { L[i].1 with n := nn }
  have hl1 : (L.set i ({ L[i].1 with n := nn }, L[i].2)).length = L.length := List.length_set ..
  have hok1 : HouseOk ((L.set i ({ L[i].1 with n := nn }, L[i].2)).map Prod.fst) := by rw [hf1]; exact hD.out.ok.nonce i hget.out nn
  have hok2 : Ok2 ((L.set i ({ L[i].1 with n := nn }, L[i].2)).map Prod.fst) := by rw [hf1]; exact hD.out.ok2.set i _ (hD.out.ok2 L[i].1 (List.mem_of_getElem? hget.out))
  generalize L.set i ({ L[i].1 with n := nn }, L[i].2) = L1 at *
  generalize hmm : ({ L[i].1 with n := nn } : Mem) = m1 at *
  obtain ⟨va, vb, hmc, -, -⟩ := H8.out.mem i hi1
  generalize w7.setCell ⟨gl, o + i * 9 + 8, none⟩ (.int .u64 (nn : Nat)) = w8 at *
  have z0 := (hmc 0 (by decide)).trans (show _ = some (.int .i64 L1[i].1.r) from rfl)
  rw [hm1, Nat.add_zero] at z0
  clear z8 y8 hL1 hmc
  replace hm1 := Lib.hid hm1
  replace hf1 := Lib.hid hf1
  replace hb1 := Lib.hid hb1
  replace hl1 := Lib.hid hl1
  replace hok1 := Lib.hid hok1
  replace hok2 := Lib.hid hok2
  replace hmm := Lib.hid hmm
  have z1 := (hp_cell P8.out 1).trans (show _ = some (.int .i64 0) from rfl)
  have y1 := hp_frz P8.out 1
  have f0 := (hp_cell F8.out 0).trans (show _ = some (.int .i64 kd) from rfl)
  have s9 := (hp_cell S8.out 9).trans (show _ = some (.pointer (some ⟨gl, o + i * 9, none⟩)) from rfl)
  have hgp : Hid (gs ∉ [gp] ∧ ∀ k ∈ [gp], ∃ cs t f, w8.heap[k]? = some (.cells cs t f) ∧ t ≠ 64 ∧ t ≠ 30 ∧ t ≠ 48 ∧ t ≠ 45 ∧ t ≠ 3 ∧ t ≠ 50) := by
   refine Lib.hid ⟨fun hm => ?_, fun k hk => ?_⟩
   ·obtain rfl := List.mem_singleton.1 hm
    have := S8.out.symm.trans P8.out
    cases this
   ·obtain rfl := List.mem_singleton.1 hk
    exact ⟨_, _, _, P8.out, by decide⟩
  go_cut [] (fun wc => ∃ (L' : List (Mem × Value)) (cd : Nat) (v : Int) (sc : Option Addr) (nc cc : Nat), Hid (HpB wc gp (.cells (repA nn cd v) 36)) ∧ Hid (HpB wc gr (.cells #[.int .u64 0, .int .i64 0, .int .i64 0] 36)) ∧ Hid (HpB wc gs (.cells (stC gh kd (i : Nat) (nn : Nat) rm tr ow ly sf nf cf gl (o + i * 9) (.slice sc nc cc)) 73)) ∧ Hid (HouseV wc base gh vS (.slice (some ⟨gl, o, none⟩) n c) S L') ∧ Hid (OpRel (L1.map Prod.fst) i m1 (L'.map Prod.fst) cd v) ∧ Hid (cd ≠ 0 → nc = 0) ∧ Hid (nc ≤ 200) ∧ Hid (1 ≤ kd → kd < 9 → (kd ≠ 1 → kd ≠ 8 → m1.r ≠ -1) → ∀ hs : i < S.length, KEx kd rm tr ow ly nf F S[i] (L1.map Prod.fst) (L'.map Prod.fst) i m1 cd v) ∧ Hid (Still (gl :: hsB L) w wc))
  case first =>
   by_cases k1 : kd < 1
   ·have d1 : decide (kd < 1) = true := decide_eq_true k1
    have k1' := Lib.hid k1
    clear k1 s9 z0
    go_wp2_with fail
    go_meet
    exact ⟨L1, 1, 0, none, 0, 0, hp_set P8.out 1 (.int .i64 1), R8.out.st (still_sc w8 gp 1 (.int .i64 1)) (by simpa using hnew.out.2.2.2.1), S8.out.st (still_sc w8 gp 1 (.int .i64 1)) (hgp.out.1), H8.out.st (still_sc w8 gp 1 (.int .i64 1)) (hgp.out.2), .refuse 1 (by decide), fun _ => rfl, Nat.zero_le _, fun h => absurd k1'.out (by omega), T9.out.own3 (still_sc w8 gp 1 (.int .i64 1)) (fun x hx => .inr (by obtain rfl := List.mem_singleton.1 hx; exact hnew.out.2.2.2.2.2))⟩
   have d1 : decide (kd < 1) = false := decide_eq_false k1
   by_cases k9 : 9 ≤ kd
   ·have d9 : decide (9 ≤ kd) = true := decide_eq_true k9
    have k9' := Lib.hid k9
    clear k9 k1 s9 z0
    go_wp2_with fail
    go_meet
    exact ⟨L1, 1, 0, none, 0, 0, hp_set P8.out 1 (.int .i64 1), R8.out.st (still_sc w8 gp 1 (.int .i64 1)) (by simpa using hnew.out.2.2.2.1), S8.out.st (still_sc w8 gp 1 (.int .i64 1)) (hgp.out.1), H8.out.st (still_sc w8 gp 1 (.int .i64 1)) (hgp.out.2), .refuse 1 (by decide), fun _ => rfl, Nat.zero_le _, fun _ h => absurd k9'.out (by omega), T9.out.own3 (still_sc w8 gp 1 (.int .i64 1)) (fun x hx => .inr (by obtain rfl := List.mem_singleton.1 hx; exact hnew.out.2.2.2.2.2))⟩
   have d9 : decide (9 ≤ kd) = false := decide_eq_false k9
   obtain ⟨k, rfl⟩ : ∃ k : Nat, kd = (k : Int) := ⟨kd.toNat, by omega⟩
   have hk1 : 1 ≤ k := by omega
   have hk9 : k < 9 := by omega
   clear k1 k9
   by_cases k10 : k ≠ 1 ∧ k ≠ 8 ∧ m1.r = -1
   ·have e1 : (((k : Nat) : Int) != 1) = true := by simp; omega
    have e8 : (((k : Nat) : Int) != 8) = true := by simp; omega
    have er : (m1.r == -1) = true := by simpa using k10.2.2
    have k10' := Lib.hid k10
    generalize m1.r = r1 at *
    clear k10
    go_wp2_with fail
    go_meet
    exact ⟨L1, 10, 0, none, 0, 0, hp_set P8.out 1 (.int .i64 10), R8.out.st (still_sc w8 gp 1 (.int .i64 10)) (by simpa using hnew.out.2.2.2.1), S8.out.st (still_sc w8 gp 1 (.int .i64 10)) (hgp.out.1), H8.out.st (still_sc w8 gp 1 (.int .i64 10)) (hgp.out.2), .refuse 10 (by decide), fun _ => rfl, Nat.zero_le _, fun _ _ h => absurd (k10'.out.2.2) (h (by have := k10'.out.1; omega) (by have := k10'.out.2.1; omega)), T9.out.own3 (still_sc w8 gp 1 (.int .i64 10)) (fun x hx => .inr (by obtain rfl := List.mem_singleton.1 hx; exact hnew.out.2.2.2.2.2))⟩
   have hK1 : KIn base gs gh gl o n c i vS S L1 (k : Nat) (nn : Nat) rm tr ow ly sf nf cf F none 0 0 [] w8 := ⟨by rw [hl1.out]; exact hD.out.hL, by rw [hl1.out]; exact hD.out.hSL, hD.out.hS, hok1.out, hok2.out, by omega, Nat.le_trans hD.out.hb T9.out.size, S8.out, H8.out, EQ.nil _ _ _ _, sq8.out, hD.out.hF, hD.out.hnf⟩
   have hiS : i < S.length := by rw [hD.out.hSL]; exact hi
   have cC := Lib.hid (kAny k hk1 hk9 hi1 hiS (by rw [hm1.out]; intro q1 q8 q; exact k10 ⟨q1, q8, q⟩) hK1)
   have hN := kind_enter k
   have zk := (hp_cell K8.out k).trans (kindA_get k hk1 hk9)
   unfold fnV at zk
   have e18 : (((k : Nat) : Int) != 1) = false ∨ ((((k : Nat) : Int) != 1) = true ∧ (((k : Nat) : Int) != 8) = false) ∨ ((((k : Nat) : Int) != 1) = true ∧ (((k : Nat) : Int) != 8) = true ∧ (m1.r == -1) = false) := by
    by_cases q1 : k = 1
    ·exact .inl (by simp; omega)
    by_cases q8 : k = 8
    ·exact .inr (.inl ⟨by simp; omega, by simp; omega⟩)
    ·refine .inr (.inr ⟨by simp; omega, by simp; omega, ?_⟩)
     exact beq_eq_false_iff_ne.2 fun q => k10 ⟨q1, q8, q⟩
   have hleft := Lib.hid (fun (e : Ending) (w' : World) (h : KPost base gs gh gl o n c i vS S L1 hi1 S[i] (k : Nat) (nn : Nat) rm tr ow ly sf nf cf F none 0 0 w8 e w') => h.left H8.out S8.out P8.out R8.out)
   generalize kindF k = KF at *
   have hk10 := Lib.hid k10
   have hkz : Hid (1 ≤ k ∧ k < 9) := Lib.hid ⟨hk1, hk9⟩
   have hmr : Hid (∃ r, r = m1.r) := Lib.hid ⟨_, rfl⟩
   generalize hr1 : m1.r = r1 at z0 e18
   have cC2 := Lib.hid (cC.out.mono fun e w' h => hleft.out e w' h)
   clear cC hleft hK1 k10 hmr
   replace hr1 := Lib.hid hr1
   rcases e18 with e1 | ⟨e1, e8⟩ | ⟨e1, e8, er⟩
   all_goals
    go_wp2_with fail
    refine Calls.mono cC2.out ?_
    rintro e w9 ⟨L', cd, v, sc, nc, cc, rfl, hv1, hv2, hO, hE, P9, R9, S9, H9, hcz, hnc, T⟩
    have q1 := (hp_cell P9 1).trans (show _ = some (.int .i64 0) from rfl)
    have q2 := (hp_cell P9 2).trans (show _ = some (.int .i64 0) from rfl)
    have x1 := hp_frz P9 1
    have x2 := hp_frz P9 2
    have P10 : Hid (HpB ((w9.setCell ⟨gp, 2, none⟩ (.int .i64 v)).setCell ⟨gp, 1, none⟩ (.int .i64 (cd : Nat))) gp (.cells (repA nn cd v) 36)) := Lib.hid (hp_set (hp_set P9 2 (.int .i64 v)) 1 (.int .i64 (cd : Nat)))
    have T10 : Still [gp] w9 ((w9.setCell ⟨gp, 2, none⟩ (.int .i64 v)).setCell ⟨gp, 1, none⟩ (.int .i64 (cd : Nat))) := (still_sc w9 gp 2 _).trans (still_sc _ gp 1 _)
    have R10 := Lib.hid (R9.st T10 (by simpa using hnew.out.2.2.2.1))
    have S10 := Lib.hid (S9.st T10 hgp.out.1)
    have H10 := Lib.hid (H9.st T10 (fun b hb => by
     obtain rfl := List.mem_singleton.1 hb
     exact ⟨_, _, _, P9, by decide⟩))
    have T11 := Lib.hid (((T9.out.own3 T (fun x hx => by
     rcases List.mem_cons.1 hx with rfl | hx
     ·exact .inr hgs.out
     rcases List.mem_cons.1 hx with rfl | hx
     ·exact .inl (List.mem_cons_self)
     ·exact .inl (List.mem_cons_of_mem _ (hb1.out x hx)))).own3 T10 (fun x hx => .inr (by obtain rfl := List.mem_singleton.1 hx; exact hnew.out.2.2.2.2.2))))
    have hO' := Lib.hid hO
    have hE' := Lib.hid hE
    have hcz' := Lib.hid hcz
    have hnc' := Lib.hid hnc
    clear P9 R9 S9 H9 T T10 hO hE hcz hnc cC2
    dsimp only
    go_wp2_with fail
    go_meet
    exact ⟨L', cd, v, sc, nc, cc, P10, R10, S10, H10, by rw [← hm1.out]; exact hO', hcz', hnc', fun _ _ _ _ => by rw [← hm1.out]; exact hE'.out, T11⟩
  case rest =>
   obtain ⟨L', cd, v, sc, nc, cc, P9, R9, S9, H9, hO, hcz, hnc, hE, T9'⟩ := hcut
   clear z0 z1 y1 f0 s9 hgp S8 F8 R8 P8 K8 sq8 H8 T9
   have s10 := (hp_cell S9.out 10).trans (show _ = some (.slice sc nc cc) from rfl)
   have m10 : ∀ y : LaterS [] wc, _ := fun y => y.bw.cell s10
   clear s10
   go_upto_region 16 with (fail)
   try simp only [Act.put, List.setIfInBounds_toArray, List.set_cons_succ, List.set_cons_zero]
   refine wp_region_gg [] [] [6] (by kernel_rfl) ?_
   refine hoist [] [] (a1 := ?_) 0 rfl (by kernel_rfl) (.inl ⟨rfl, rfl⟩) rfl rfl rfl (fun x K hK => ?_) ?_
   rotate_left
   ·go_big_quiet_op
    exact hK
   refine hoist [] [] (a1 := ?_) 1 rfl (by kernel_rfl) (.inl ⟨rfl, rfl⟩) rfl rfl rfl (fun x K hK => ?_) ?_
   rotate_left
   ·go_big_quiet_op
    exact hK
   refine hoist [] [] (a1 := ?_) 2 rfl (by kernel_rfl) (.inl ⟨rfl, rfl⟩) rfl rfl rfl (fun x K hK => ?_) ?_
   rotate_left
   ·go_big_quiet_op
    exact hK
   refine hoist [] [] (a1 := ?_) 3 rfl (by kernel_rfl) (.inl ⟨rfl, rfl⟩) rfl rfl rfl (fun x K hK => ?_) ?_
   rotate_left
   ·go_big_quiet_op
    exact hK
   refine hoist [] [] (a1 := ?_) 4 rfl (by kernel_rfl) (.inl ⟨rfl, rfl⟩) rfl rfl rfl (fun x K hK => ?_) ?_
   rotate_left
   ·refine swQlC swRp rfl (by rfl) (c := repA nn cd v) rfl (fun w' hw => by subst hw; exact (P9.out.bw x.bw).range 0 _ rfl) (by simp only [Act.put, List.setIfInBounds_toArray, List.set_cons_succ, List.set_cons_zero]; rfl) ?_
    exact hK
   refine hoist [] [] (a1 := ?_) 5 rfl (by kernel_rfl) (.inl ⟨rfl, rfl⟩) rfl rfl rfl (fun x K hK => ?_) ?_
   rotate_left
   ·go_big_quiet_op
    exact hK
   refine tail 6 rfl (by kernel_rfl) rfl (fun xr => ?_)
   simp only [List.drop_succ_cons, List.drop_zero]
   have T12 := Lib.hid (T9'.out.trans (xr.bw.still _))
   have R12 := Lib.hid (R9.out.bw xr.bw)
   have H12 := Lib.hid (H9.out.bw xr.bw)
   clear m10 S9 R9 H9 T9' P9
   generalize xr.now = w12 at *
   have R13 := R12.out.rowS (repA nn cd v)
   have T13 := still_rowS w12 gr (repA nn cd v)
   have H13 := H12.out.st T13 (fun b hb => by
    obtain rfl := List.mem_singleton.1 hb
    exact ⟨_, _, _, R12.out, by decide⟩)
   have T14 := Lib.hid (T12.out.own3 T13 (fun x hx => .inr (by obtain rfl := List.mem_singleton.1 hx; exact hnew.out.2.2.2.2.1)))
   replace H13 := Lib.hid H13
   clear T13 T12 H12
   go_wp2_with (refine swSt swRp rfl rfl rfl rfl R12.out rfl rfl (by kernel_rfl) ?_)
   have q0 := (hp_cell R13 0).trans (show _ = some (.int .u64 (nn : Nat)) from rfl)
   have q1 := (hp_cell R13 1).trans (show _ = some (.int .i64 (cd : Nat)) from rfl)
   have q2 := (hp_cell R13 2).trans (show _ = some (.int .i64 v) from rfl)
   refine bodyPost_ret (v := .tuple #[.slice sc nc cc, .agg #[.int .u64 (nn : Nat), .int .i64 (cd : Nat), .int .i64 v]]) ?_ rfl ⟨⟨L', cd, v, sc, nc, cc, rfl, .op i L[i].1 rfl hget.out (by rw [hlnn.out]; exact h5'.out) (L'.map Prod.fst) cd v ?_, hcz.out, hnc.out, fun s m hs e1 e2 e3 h1 h9 hr => ?_, H13.out⟩, T14.out⟩
   ·simp [results, Try.results9, go_sem, q0, q1, q2]
   ·rw [hmm.out, ← hf1.out]
    exact hO.out
   ·obtain rfl : i = s := by omega
    obtain rfl : L[i].1 = m := Option.some.inj (hget.out.symm.trans e2)
    rw [hmm.out, ← hf1.out]
    exact hE.out h1 h9 (fun a b => by rw [← hmm.out]; exact hr a b) hs
