/- A step: leave. No condition but the sizes'. -/
import Derived.Test.YtebeifkgjhgmeaaRmM
import Derived.Test.YtebeifkgjhgmeaaRmG
namespace Go.Proofs.Ytebeifkgjhgmeaa
open Go.RowKit
theorem enterL1 (args : Array Value) (w : World) : (callFunc 26 args).run Try.prog w = .ok (.enter 26 args) w := by kernel_rfl
theorem enterL2 (args : Array Value) (w : World) : (callFunc 27 args).run Try.prog w = .ok (.enter 27 args) w := by kernel_rfl
theorem own_cons {gs gl : Nat} {v : Value} {k : Nat} (h : k ∈ gs :: gl :: v.ownBlock.toList) : k = gs ∨ k = gl ∨ v.ownBlock = some k := by
 rcases List.mem_cons.1 h with h | h
 ·exact .inl h
 rcases List.mem_cons.1 h with h | h
 ·exact .inr (.inl h)
 ·exact .inr (.inr (by simpa using h))
theorem own_cons_mem {gs gl : Nat} {v : Value} {k : Nat} (h : k = gs ∨ k = gl ∨ v.ownBlock = some k) : k ∈ gs :: gl :: v.ownBlock.toList := by
 rcases h with h | h | h
 ·rw [h]; exact List.mem_cons_self
 ·rw [h]; exact List.mem_cons_of_mem _ List.mem_cons_self
 ·exact List.mem_cons_of_mem _ (List.mem_cons_of_mem _ (by simpa using h))
theorem Still.chain {gs gl b0 : Nat} {v v' : Value} {w w1 w2 : World} (h : Still (gs :: gl :: v.ownBlock.toList) w w1) (h2 : Still (gs :: gl :: v'.ownBlock.toList) w1 w2) (hg : ∀ j, v'.ownBlock = some j → v.ownBlock = some j ∨ b0 ≤ j) (hb : w.heap.size ≤ b0) : Still (gs :: gl :: v.ownBlock.toList) w w2 :=
 h.own3 h2 fun k hk => by
  rcases own_cons hk with h | h | h
  ·exact .inl (own_cons_mem (.inl h))
  ·exact .inl (own_cons_mem (.inr (.inl h)))
  ·rcases hg k h with h | h
   ·exact .inl (own_cons_mem (.inr (.inr h)))
   ·exact .inr (Nat.le_trans hb h)
def leaveM (H : List Mem) (i : Nat) (n : Nat) : List Mem := (H.mapIdx fun j m => dropM (fun x => j == i || ofO i x) m).set i { mem0 with n := n }
set_option maxRecDepth 100000 in
set_option maxHeartbeats 8000000 in
theorem leave_any (gs gh gl o n c base i : Nat) (vS : Value) (S : List (List Nat)) (L : List (Mem × Value)) (hi : i < L.length) (hL : L.length ≤ 6) (h4 : ∀ m ∈ L.map Prod.fst, m.subs.length ≤ 4) (kd nn rm tr ow ly : Int) (sf : Option Addr) (nf cf : Nat) (sc : Option Addr) (nc cc : Nat) (C : List Chg) (hnc : nc ≤ 100) (w : World) (hbase : base ≤ w.heap.size) (h : HpB w gs (.cells (stC gh kd (i : Nat) nn rm tr ow ly sf nf cf gl (o + i * 9) (.slice sc nc cc)) 73)) (hH : HouseV w base gh vS (.slice (some ⟨gl, o, none⟩) n c) S L) (hq : EQ ECh 89 w base (.slice sc nc cc) nc C) :
  Calls Try.prog 18 #[.pointer (some ⟨gs, 0, none⟩)] w fun e w' => e = .returned (.tuple #[.int .i64 0, .int .i64 0]) ∧ ∃ L' : List (Mem × Value), L'.map Prod.fst = leaveM (L.map Prod.fst) i L[i].1.n ∧ StepP w w' base gs gh gl o n c vS S L' kd (i : Nat) nn rm tr ow ly sf nf cf (o + i * 9) 200 (.slice sc nc cc) := by
 have hmf : ∀ (fn : Fn) (first cap : Array Value) (w : World), (Instr.makeFunc fn first cap).run Try.prog w = .ok (.func fn first cap) w := fun _ _ _ _ => rfl
 have hln : n = L.length := by
  obtain ⟨_, _, e, _⟩ := hH.mb.len
  cases e; rfl
 have hcn : n ≤ c ∧ c ≤ maxLen := by
  obtain ⟨_, _, e, k1, k2⟩ := hH.mb.len
  cases e
  exact ⟨by rw [hln]; exact k1, k2⟩
 unfold maxLen at hcn
 obtain ⟨hcn1, hcn2⟩ := hcn
 have hsi : L[i].1.subs.length ≤ 4 := h4 _ (List.mem_map.2 ⟨_, List.getElem_mem hi, rfl⟩)
 have s2 := (hp_cell h 2).trans (show _ = some (.int .i64 (i : Nat)) from rfl)
 have BA : BW w (w.alloc (.cells #[.pointer (some ⟨gs, 0, none⟩)] 70)) := (BW.refl w).alloc
 have Gv := Lib.hid (HpB.new w (.cells #[.pointer (some ⟨gs, 0, none⟩)] 70))
 have S1 := Lib.hid (h.bw BA)
 have H1 := Lib.hid (hH.bw BA)
 have Q1 := Lib.hid (hq.bw BA)
 have z2 := BA.cell s2
 have B1 := Lib.hid BA
 have hnL := Lib.hid hln
 have h4h := Lib.hid h4
 clear h hH hq s2 BA h4
 replace hL := Lib.hid hL
 replace hln := Lib.hid hln
 replace hsi := Lib.hid hsi
 go_enter Try.func18, Try.ntmps18
 go_upto_region 1 with (fail)
 generalize w.alloc (.cells #[.pointer (some ⟨gs, 0, none⟩)] 70) = w1 at *
 generalize hgv : w.heap.size = gv at *
 have hbase : base ≤ w.heap.size := by rw [hgv]; exact hbase
 replace hgv := Lib.hid hgv
 replace hbase := Lib.hid hbase
 have zv := (hp_cell Gv.out 0).trans (show _ = some (.pointer (some ⟨gs, 0, none⟩)) from rfl)
 have mv : ∀ y : LaterS [] w1, _ := fun y => y.bw.cell zv
 have m2 : ∀ y : LaterS [] w1, _ := fun y => y.bw.cell z2
 clear zv z2
 refine wp_region_gg [] [] [6] (by kernel_rfl) ?_
 refine hoist [] [] (a1 := ?_) 0 rfl (by kernel_rfl) (.inl ⟨rfl, rfl⟩) rfl rfl rfl (fun x K hK => ?_) ?_
 rotate_left
 ·go_big_quiet_op
  exact hK
 refine hoist [] [] (a1 := ?_) 1 rfl (by kernel_rfl) (.inl ⟨rfl, rfl⟩) rfl rfl rfl (fun x K hK => ?_) ?_
 rotate_left
 ·go_big_quiet_op
  exact hK
 refine hoist [] [] (a1 := ?_) 2 rfl (by kernel_rfl) (.inl ⟨rfl, rfl⟩) rfl rfl rfl (fun x K hK => ?_) ?_
 rotate_left
 ·go_big_quiet_op
  exact hK
 refine hoist [] [] (a1 := ?_) 3 rfl (by kernel_rfl) (.inl ⟨rfl, rfl⟩) rfl rfl rfl (fun x K hK => ?_) ?_
 rotate_left
 ·go_big_quiet_op
  exact hK
 refine hoist [] [] (a1 := ?_) 4 rfl (by kernel_rfl) (.inl ⟨rfl, rfl⟩) rfl rfl rfl (fun x K hK => ?_) ?_
 rotate_left
 ·go_big_quiet_op
  exact hK
 refine hoist [] [] (a1 := ?_) 5 rfl (by kernel_rfl) (.inl ⟨rfl, rfl⟩) rfl rfl rfl (fun x K hK => ?_) ?_
 rotate_left
 ·go_big_quiet_op
  exact hK
 refine tail 6 rfl (by kernel_rfl) rfl (fun xr => ?_)
 simp only [List.drop_succ_cons, List.drop_zero]
 replace B1 := Lib.hid (B1.out.trans xr.bw)
 replace S1 := Lib.hid (S1.out.bw xr.bw)
 replace H1 := Lib.hid (H1.out.bw xr.bw)
 replace Q1 := Lib.hid (Q1.out.bw xr.bw)
 replace Gv := Lib.hid (Gv.out.bw xr.bw)
 clear mv m2
 generalize xr.now = w2 at *
 have hbw := Lib.hid (Nat.le_trans hbase.out B1.out.size)
 have cA := Lib.hid (sdropA gs gh gl o n c base i vS S L hi kd (i : Nat) nn rm tr ow ly sf nf cf (o + i * 9) sc nc cc C 26 (fun _ => true) (by omega) (by have := hsi.out; omega) w2 hbw.out S1.out H1.out Q1.out enterL1 (fun u wx chg _ => leave1_any u wx))
 go_wp2_with fail
 refine Calls.mono cA.out ?_
 rintro e w3 ⟨rfl, s3, n3, c3, C3, v3, k1, k2, k3, k4, k5, k6⟩
 replace Gv := Lib.hid (H1.out.stS Gv.out S1.out rfl Q1.out k5)
 have hL0 : Hid ((L.set i (dropM (fun _ => true) L[i].1, v3)).map Prod.fst = drK (fun j _ => j == i) (ofO i) 0 (L.map Prod.fst)) := Lib.hid (by
  rw [map_set_fst, ← drK_own (ofO i) (L.map Prod.fst) i (by simpa using hi)]
  congr 2
  rw [List.getElem_map])
 have hl3 : Hid ((L.set i (dropM (fun _ => true) L[i].1, v3)).length = L.length) := Lib.hid (List.length_set ..)
 generalize hLz : L.set i (dropM (fun _ => true) L[i].1, v3) = L3 at *
 clear hLz
 have hn3 : n3 ≤ nc + 4 := by have := hsi.out; omega
 have S3 := Lib.hid k2
 have H3 := Lib.hid k3
 have Q3 := Lib.hid k4
 have T3 := Lib.hid ((B1.out.still _).trans k5)
 have G3 := Lib.hid (fun j hj => (k6 j hj).imp_right (Nat.le_trans B1.out.size))
 clear cA k1 k2 k3 k4 k5 k6 S1 H1 Q1 hbw
 have zv := (hp_cell Gv.out 0).trans (show _ = some (.pointer (some ⟨gs, 0, none⟩)) from rfl)
 have z0 := (hp_cell S3.out 0).trans (show _ = some (.pointer (some ⟨gh, 0, none⟩)) from rfl)
 have zh := (hp_cell H3.out.hp 1).trans (show _ = some (.slice (some ⟨gl, o, none⟩) n c) from rfl)
 dsimp only
 go_upto_region 3 with (fail)
 clear zv z0 zh
 go_loopg [20] n (fun m' ix wx => ∃ (k : Nat) (sk : Option Addr) (nk ck : Nat) (Ck : List Chg) (Lk : List (Mem × Value)), m' = n - k ∧ k ≤ n ∧ ix = .int .i64 (k : Nat) ∧ nk ≤ 104 + 4 * k ∧ Hid (Lk.length = L.length) ∧ Hid (Lk.map Prod.fst = drK (fun j _ => j == i) (ofO i) k (L.map Prod.fst)) ∧ Hid (HpB wx gs (.cells (stC gh kd (i : Nat) nn rm tr ow ly sf nf cf gl (o + i * 9) (.slice sk nk ck)) 73)) ∧ Hid (HpB wx gv (.cells #[.pointer (some ⟨gs, 0, none⟩)] 70)) ∧ Hid (EQ ECh 89 wx base (.slice sk nk ck) nk Ck) ∧ Hid (HouseV wx base gh vS (.slice (some ⟨gl, o, none⟩) n c) S Lk) ∧ Hid (Still (gs :: gl :: (Value.slice sc nc cc).ownBlock.toList) w wx) ∧ Hid (∀ j, (Value.slice sk nk ck).ownBlock = some j → (Value.slice sc nc cc).ownBlock = some j ∨ w.heap.size ≤ j))
 case atStart => exact ⟨0, s3, n3, c3, C3, L3, by omega, by omega, rfl, by omega, hl3, hL0, S3, Gv, Q3, H3, T3, G3⟩
 case round =>
  clear S3 Gv Q3 H3 T3 G3 hL0 hl3 B1
  obtain ⟨k, sk, nk, ck, Ck, Lk, rfl, hk, rfl, hnk, hlk, hLk, S4, G4, Q4, H4, T4, O4⟩ := hrel
  have hz := Lib.hid (Nat.le_trans hbase.out T4.out.size)
  have zv := (hp_cell G4.out 0).trans (show _ = some (.pointer (some ⟨gs, 0, none⟩)) from rfl)
  by_cases hkn : k < n
  ·have d1 : decide ((k : Int) < (n : Int)) = true := by simp; omega
   have hkL : k < Lk.length := by rw [hlk.out, ← hnL.out]; exact hkn
   have hs4 : Lk[k].1.subs.length ≤ 4 := drK_le _ _ _ 4 _ h4h.out _ (by rw [← hLk.out]; exact List.mem_map.2 ⟨_, List.getElem_mem hkL, rfl⟩)
   have hn6 : n ≤ 6 := by rw [hnL.out]; exact hL.out
   have cB := Lib.hid (sdropB gs gh gl o n c base k gv vS S Lk hkL kd (i : Nat) nn rm tr ow ly sf nf cf (o + i * 9) sk nk ck Ck 27 (ofO i) (by omega) (by omega) wr hz.out S4.out H4.out Q4.out G4.out enterL2 (fun u wx chg hS hc => leave2_any gs gh gv kd (i : Nat) nn rm tr ow ly sf nf cf gl (o + i * 9) chg u wx hS hc))
   replace hn6 := Lib.hid hn6
   go_wp2_with fail
   refine Calls.mono cB.out ?_
   rintro e w5 ⟨rfl, s5, n5, c5, C5, v5, k1, k2, k3, k4, k5, k6⟩
   have G5 := Lib.hid (H4.out.stS G4.out S4.out rfl Q4.out k5)
   have hL5 : Hid ((Lk.set k (dropM (ofO i) Lk[k].1, v5)).map Prod.fst = drK (fun j _ => j == i) (ofO i) (k + 1) (L.map Prod.fst)) := Lib.hid (drK_step hLk.out hkL v5)
   have hl5 : Hid ((Lk.set k (dropM (ofO i) Lk[k].1, v5)).length = L.length) := Lib.hid ((List.length_set ..).trans hlk.out)
   generalize hLz : Lk.set k (dropM (ofO i) Lk[k].1, v5) = L5 at *
   have hn5 : n5 ≤ 104 + 4 * (k + 1) := by omega
   have S5 := Lib.hid k2
   have H5 := Lib.hid k3
   have Q5 := Lib.hid k4
   have T5 := Lib.hid (T4.out.chain k5 O4.out (Nat.le_refl _))
   have O5 := Lib.hid (fun j hj => (k6 j hj).elim (O4.out j) (fun h => .inr (Nat.le_trans T4.out.size h)) : ∀ j, (Value.slice s5 n5 c5).ownBlock = some j → (Value.slice sc nc cc).ownBlock = some j ∨ w.heap.size ≤ j)
   clear cB k1 k2 k3 k4 k5 k6 S4 H4 Q4 T4 O4 G4 hLz hs4 zv
   dsimp only
   go_wp2_with fail
   go_roundg (n - (k + 1))
   case measure => omega
   case rel => exact ⟨k + 1, s5, n5, c5, C5, L5, rfl, by omega, by first | rfl | (push_cast; rfl), hn5, hl5, hL5, S5, G5, Q5, H5, T5, O5⟩
  ·obtain rfl : k = n := by omega
   have d1 : decide ((k : Int) < (k : Int)) = false := by simp
   have hn6 : k ≤ 6 := by rw [hnL.out]; exact hL.out
   have hiL : i < Lk.length := by rw [hlk.out]; exact hi
   go_upto_region 7 with (fail)
   obtain ⟨va, vb, hm, -, -⟩ := H4.out.mem i hiL
   have z8 := (hm 8 (by decide)).trans (show _ = some (.int .u64 (Lk[i].1.n : Nat)) from rfl)
   have s9 := (hp_cell S4.out 9).trans (show _ = some (.pointer (some ⟨gl, o + i * 9, none⟩)) from rfl)
   have mv : ∀ y : LaterS [] wr, _ := fun y => y.bw.cell zv
   have m8 : ∀ y : LaterS [] wr, _ := fun y => y.bw.cell z8
   have m9 : ∀ y : LaterS [] wr, _ := fun y => y.bw.cell s9
   have hnn : Lk[i].1.n = L[i].1.n := by rw [drK_mem hLk.out i hiL hi]; rfl
   rw [hnn] at m8
   generalize hle : L[i].1.n = ln at *
   replace hle := Lib.hid hle
   clear hm z8 s9 zv
   replace hnn := Lib.hid hnn
   replace hn6 := Lib.hid hn6
   try simp only [Act.put, List.setIfInBounds_toArray, List.set_cons_succ, List.set_cons_zero]
   refine wp_region_gg [] [] [12] (by kernel_rfl) ?_
   refine hoist [] [] (a1 := ?_) 0 rfl (by kernel_rfl) (.inl ⟨rfl, rfl⟩) rfl rfl rfl (fun x K hK => ?_) ?_
   rotate_left
   ·go_big_quiet_op
    exact hK
   refine hoist [] [] (a1 := ?_) 1 rfl (by kernel_rfl) (.inl ⟨rfl, rfl⟩) rfl rfl rfl (fun x K hK => ?_) ?_
   rotate_left
   ·go_big_quiet_op
    exact hK
   refine hoist [] [] (a1 := ?_) 2 rfl (by kernel_rfl) (.inl ⟨rfl, rfl⟩) rfl rfl rfl (fun x K hK => ?_) ?_
   rotate_left
   ·go_big_quiet_op
    exact hK
   refine hoist [] [] (a1 := ?_) 3 rfl (by kernel_rfl) (.inl ⟨rfl, rfl⟩) rfl rfl rfl (fun x K hK => ?_) ?_
   rotate_left
   ·go_big_quiet_op
    exact hK
   refine hoist [] [] (a1 := ?_) 4 rfl (by kernel_rfl) (.inl ⟨rfl, rfl⟩) rfl rfl rfl (fun x K hK => ?_) ?_
   rotate_left
   ·go_big_quiet_op
    exact hK
   refine hoist [] [] (a1 := ?_) 5 rfl (by kernel_rfl) (.inl ⟨rfl, rfl⟩) rfl rfl rfl (fun x K hK => ?_) ?_
   rotate_left
   ·go_big_quiet_op
    exact hK
   refine hoist [] [] (a1 := ?_) 6 rfl (by kernel_rfl) (.inl ⟨rfl, rfl⟩) rfl rfl rfl (fun x K hK => ?_) ?_
   rotate_left
   ·go_big_quiet_op
    exact hK
   refine hoist [] [] (a1 := ?_) 7 rfl (by kernel_rfl) (.inl ⟨rfl, rfl⟩) rfl rfl rfl (fun x K hK => ?_) ?_
   rotate_left
   ·go_big_quiet_op
    exact hK
   refine hoist [] [] (a1 := ?_) 8 rfl (by kernel_rfl) (.inl ⟨rfl, rfl⟩) rfl rfl rfl (fun x K hK => ?_) ?_
   rotate_left
   ·go_big_quiet_op
    exact hK
   refine hoist [] [] (a1 := ?_) 9 rfl (by kernel_rfl) (.inl ⟨rfl, rfl⟩) rfl rfl rfl (fun x K hK => ?_) ?_
   rotate_left
   ·go_big_quiet_op
    exact hK
   refine hoist [] [] (a1 := ?_) 10 rfl (by kernel_rfl) (.inl ⟨rfl, rfl⟩) rfl rfl rfl (fun x K hK => ?_) ?_
   rotate_left
   ·go_big_quiet_op
    exact hK
   refine hoist [] [] (a1 := ?_) 11 rfl (by kernel_rfl) (.inl ⟨rfl, rfl⟩) rfl rfl rfl (fun x K hK => ?_) ?_
   rotate_left
   ·go_big_quiet_op
    exact hK
   refine tail 12 rfl (by kernel_rfl) rfl (fun xr => ?_)
   simp only [List.drop_succ_cons, List.drop_zero]
   have S6 := Lib.hid (S4.out.bw xr.bw)
   have Q6 := Lib.hid (Q4.out.bw xr.bw)
   have H6 := Lib.hid (H4.out.bw xr.bw)
   have T6 := Lib.hid (T4.out.trans (xr.bw.still _))
   clear S4 Q4 H4 T4 G4 hz mv m8 m9
   generalize xr.now = w6 at *
   obtain ⟨cr, hcr⟩ := H6.out.row
   obtain ⟨va, vb, hm, -, -⟩ := H6.out.mem i hiL
   have z0 : w6.cell? ⟨gl, o + i * 9, none⟩ = _ := hm 0 (by decide)
   have y0 : w6.frozen? ⟨gl, o + i * 9, none⟩ = false := hp_frz hcr _
   have z1 : w6.cell? ⟨gl, o + i * 9 + 1, none⟩ = _ := hm 1 (by decide)
   have y1 : w6.frozen? ⟨gl, o + i * 9 + 1, none⟩ = false := hp_frz hcr _
   have z2 : w6.cell? ⟨gl, o + i * 9 + 2, none⟩ = _ := hm 2 (by decide)
   have y2 : w6.frozen? ⟨gl, o + i * 9 + 2, none⟩ = false := hp_frz hcr _
   have z3 : w6.cell? ⟨gl, o + i * 9 + 3, none⟩ = _ := hm 3 (by decide)
   have y3 : w6.frozen? ⟨gl, o + i * 9 + 3, none⟩ = false := hp_frz hcr _
   have z4 : w6.cell? ⟨gl, o + i * 9 + 4, none⟩ = _ := hm 4 (by decide)
   have y4 : w6.frozen? ⟨gl, o + i * 9 + 4, none⟩ = false := hp_frz hcr _
   have z5 : w6.cell? ⟨gl, o + i * 9 + 5, none⟩ = _ := hm 5 (by decide)
   have y5 : w6.frozen? ⟨gl, o + i * 9 + 5, none⟩ = false := hp_frz hcr _
   have z6 : w6.cell? ⟨gl, o + i * 9 + 6, none⟩ = _ := hm 6 (by decide)
   have y6 : w6.frozen? ⟨gl, o + i * 9 + 6, none⟩ = false := hp_frz hcr _
   have z7 : w6.cell? ⟨gl, o + i * 9 + 7, none⟩ = _ := hm 7 (by decide)
   have y7 : w6.frozen? ⟨gl, o + i * 9 + 7, none⟩ = false := hp_frz hcr _
   have z8 : w6.cell? ⟨gl, o + i * 9 + 8, none⟩ = _ := hm 8 (by decide)
   have y8 : w6.frozen? ⟨gl, o + i * 9 + 8, none⟩ = false := hp_frz hcr _
   simp only [memC, List.getElem?_cons_zero, List.getElem?_cons_succ] at z0 z1 z2 z3 z4 z5 z6 z7 z8
   clear hm
   replace hcr := Lib.hid hcr
   go_wp2_with fail
   have T7 := still_put9 w6 gl o i (.int .i64 (-1)) (.bool false) (.int .i64 0) (.slice none 0 0) (.bool false) (.int .i64 0) (.slice none 0 0) (.slice none 0 0) (.int .u64 (ln : Nat))
   have hkk : Lk.length = k := hlk.out.trans hnL.out.symm
   have Mm := H6.out.mb
   rw [hkk] at Mm
   have M7 := EQ.put9 (a := (({ mem0 with n := ln } : Mem), Value.slice none 0 0)) Mm rfl (show NoI w6 gl from .inr ⟨cr, _, _, hcr.out, by decide⟩) (show EMb.R w6 base (({ mem0 with n := ln } : Mem), Value.slice none 0 0) [.int .i64 (-1), .bool false, .int .i64 0, .slice none 0 0, .bool false, .int .i64 0, .slice none 0 0, .slice none 0 0, .int .u64 (ln : Nat)] from ⟨.slice none 0 0, .slice none 0 0, rfl, rfl, EQ.nil .., EQ.nil ..⟩) i (hkk ▸ hiL)
   have H7 := Lib.hid (H6.out.put i hiL { mem0 with n := ln } (.slice none 0 0) T7 M7 (EQ.nil ..) (fun k hk => by cases hk))
   have S7 := Lib.hid (S6.out.st T7 (fun hm => by
    obtain rfl : gs = gl := by simpa using hm
    have := S6.out.symm.trans hcr.out
    cases this))
   have Q7 := Lib.hid (Q6.out.still T7 (fun _ _ => trivial) (fun g hg hm => by
    obtain rfl : g = gl := by simpa using hm
    exact Q6.out.ne hcr.out (by decide) _ hg rfl))
   have T8 := Lib.hid (T6.out.trans (T7.weaken (fun x hx => by
    obtain rfl : x = gl := by simpa using hx
    simp)))
   have hF : Hid ((Lk.set i (({ mem0 with n := ln } : Mem), Value.slice none 0 0)).map Prod.fst = leaveM (L.map Prod.fst) i ln) := Lib.hid (by
    unfold leaveM
    rw [map_set_fst, hLk.out, hnL.out, show L.length = (L.map Prod.fst).length from (List.length_map ..).symm, drK_all])
   clear T7 M7 S6 Q6 H6 T6
   go_ret2
   refine ⟨rfl, _, ?_, ⟨⟨sk, nk, ck, Ck, by have := hn6.out; omega, S7.out, Q7.out, O4.out⟩, H7.out, T8.out⟩⟩
   rw [hle.out]
   exact hF.out
end Go.Proofs.Ytebeifkgjhgmeaa
