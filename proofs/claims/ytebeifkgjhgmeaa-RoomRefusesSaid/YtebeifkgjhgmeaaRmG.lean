/- A step's closures; the free number of a source. No condition but the sizes'. -/
import Derived.Test.YtebeifkgjhgmeaaRmC
namespace Go.Proofs.Ytebeifkgjhgmeaa
open Go.RowKit
set_option maxRecDepth 100000 in
set_option maxHeartbeats 8000000 in
theorem leave1_any (u : Sbs) (w : World) : Calls Try.prog 26 #[.agg (sbA u)] w fun e w' => e = .returned (.bool true) ∧ BW w w' := by
 have BA : BW w (w.alloc (.cells (sbA u) 50)) := (BW.refl w).alloc
 unfold sbA at *
 replace BA := Lib.hid BA
 go_enter Try.func26, Try.ntmps26
 go_wp2_with fail
 go_ret
 exact ⟨rfl, BA.out⟩
set_option maxRecDepth 100000 in
set_option maxHeartbeats 8000000 in
theorem leave2_any (gs gh gv : Nat) (kd st nn rm tr ow ly : Int) (sf : Option Addr) (nf cf : Nat) (gl ol : Nat) (chg : Value) (u : Sbs) (w : World) (h : HpB w gs (.cells (stC gh kd st nn rm tr ow ly sf nf cf gl ol chg) 73)) (hv : w.cell? ⟨gv, 0, none⟩ = some (.pointer (some ⟨gs, 0, none⟩))) :
  Calls Try.prog 27 #[.agg (sbA u), .pointer (some ⟨gv, 0, none⟩)] w fun e w' => e = .returned (.bool (ofO st u)) ∧ BW w w' := by
 have BA : BW w (w.alloc (.cells (sbA u) 50)) := (BW.refl w).alloc
 have x0 := (hp_cell (HpB.new w (.cells (sbA u) 50)) 0).trans (show _ = some (.int .i64 u.o) from rfl)
 have s2 := (hp_cell (h.bw BA) 2).trans (show _ = some (.int .i64 st) from rfl)
 have v0 := BA.cell hv
 have hq : ofO st u = (u.o == st) := rfl
 generalize ofO st u = b at *
 clear h hv
 unfold sbA at *
 replace hq := Lib.hid hq
 replace BA := Lib.hid BA
 go_enter Try.func27, Try.ntmps27
 go_upto_region 1 with (fail)
 generalize w.alloc (.cells #[.int .i64 u.o, .int .i64 u.t, .int .i64 u.l, .int .u32 (u.s : Nat)] 50) = w1 at *
 generalize w.heap.size = gx at *
 have m0 : ∀ y : LaterS [] w1, _ := fun y => y.bw.cell x0
 have m2 : ∀ y : LaterS [] w1, _ := fun y => y.bw.cell s2
 have mv : ∀ y : LaterS [] w1, _ := fun y => y.bw.cell v0
 clear x0 s2 v0
 refine wp_region_gg [] [] [] (by kernel_rfl) ?_
 refine hoist [] [] (a1 := ?_) 0 rfl (by kernel_rfl) (.inl ⟨rfl, rfl⟩) rfl rfl rfl (fun x K hK => ?_) ?_
 rotate_left
 ·go_big_quiet_op
  exact hK
 refine hoist [] [] (a1 := ?_) 1 rfl (by kernel_rfl) (.inl ⟨rfl, rfl⟩) rfl rfl rfl (fun x K hK => ?_) ?_
 rotate_left
 ·go_big_quiet_op
  exact hK
 refine hoist [] [] (a1 := ?_) 2 rfl (by kernel_rfl) (.inl ⟨rfl, rfl⟩) rfl rfl rfl (fun x K hK => ?_) ?_
 rotate_left
 ·go_big_quiet_op
  exact hK
 refine hoist [] [] (a1 := ?_) 3 rfl (by kernel_rfl) (.inl ⟨rfl, rfl⟩) rfl rfl rfl (fun x K hK => ?_) ?_
 rotate_left
 ·go_big_quiet_op
  exact hK
 refine hoist [] [] (a1 := ?_) 4 rfl (by kernel_rfl) (.inl ⟨rfl, rfl⟩) rfl rfl rfl (fun x K hK => ?_) ?_
 rotate_left
 ·go_big_quiet_op
  exact hK
 refine hoist [] [] (a1 := ?_) 5 rfl (by kernel_rfl) (.inl ⟨rfl, rfl⟩) rfl rfl rfl (fun x K hK => ?_) ?_
 rotate_left
 ·go_big_quiet_op
  exact hK
 refine hoist [] [] (a1 := ?_) 6 rfl (by kernel_rfl) (.inl ⟨rfl, rfl⟩) rfl rfl rfl (fun x K hK => ?_) ?_
 rotate_left
 ·go_big_quiet_op
  exact hK
 refine hoist [] [] (a1 := ?_) 7 rfl (by kernel_rfl) (.inl ⟨rfl, rfl⟩) rfl rfl rfl (fun x K hK => ?_) ?_
 rotate_left
 ·go_big_quiet_op
  exact hK
 refine hoist [] [] (a1 := ?_) 8 rfl (by kernel_rfl) (.inl ⟨rfl, rfl⟩) rfl rfl rfl (fun x K hK => ?_) ?_
 rotate_left
 ·go_big_quiet_op
  exact hK
 refine done (by kernel_rfl) (fun xr => ?_)
 have hb := BA.out.trans xr.bw
 replace hb := Lib.hid hb
 go_wp2_with fail
 go_ret
 exact ⟨by rw [hq.out]; rfl, hb.out⟩
def isS (k : Nat) (u : Sbs) : Bool := u.s == k
set_option maxRecDepth 100000 in
set_option maxHeartbeats 8000000 in
theorem free1_any (gn k : Nat) (u : Sbs) (w : World) (hv : w.cell? ⟨gn, 0, none⟩ = some (.int .u32 (k : Nat))) :
  Calls Try.prog 43 #[.agg (sbA u), .pointer (some ⟨gn, 0, none⟩)] w fun e w' => e = .returned (.bool (isS k u)) ∧ BW w w' := by
 have BA : BW w (w.alloc (.cells (sbA u) 50)) := (BW.refl w).alloc
 have x3 := (hp_cell (HpB.new w (.cells (sbA u) 50)) 3).trans (show _ = some (.int .u32 (u.s : Nat)) from rfl)
 have v0 := BA.cell hv
 have hq : isS k u = ((u.s : Int) == (k : Int)) := by
  unfold isS
  by_cases e : u.s = k
  ·rw [e]; simp
  ·rw [beq_eq_false_iff_ne.2 e, beq_eq_false_iff_ne.2 (by omega)]
 generalize isS k u = b at *
 clear hv
 unfold sbA at *
 replace hq := Lib.hid hq
 replace BA := Lib.hid BA
 go_enter Try.func43, Try.ntmps43
 go_upto_region 1 with (fail)
 generalize w.alloc (.cells #[.int .i64 u.o, .int .i64 u.t, .int .i64 u.l, .int .u32 (u.s : Nat)] 50) = w1 at *
 generalize w.heap.size = gx at *
 go_wp2_with fail
 go_ret
 exact ⟨by rw [hq.out]; rfl, BA.out⟩
theorem enterF1 (args : Array Value) (w : World) : (callFunc 43 args).run Try.prog w = .ok (.enter 43 args) w := by kernel_rfl
def freeF : Nat → Nat → List Sbs → Nat
 | 0, b, _ => b
 | f + 1, b, l => if l.any (isS b) then freeF f (b + 1) l else b
def freeN (b : Nat) (l : List Sbs) : Nat := freeF (l.length + 1) b l
theorem freeF_step (l : List Sbs) : ∀ (j f b : Nat), (∀ i, i < j → l.any (isS (b + i)) = true) → freeF (f + j) b l = freeF f (b + j) l
 | 0, _, _, _ => rfl
 | j + 1, f, b, h => by
  show (if l.any (isS b) then freeF (f + j) (b + 1) l else b) = _
  rw [if_pos (show l.any (isS b) = true from h 0 (by omega)), freeF_step l j f (b + 1) (fun i hi => by have := h (i + 1) (by omega); rw [show b + (i + 1) = b + 1 + i by omega] at this; exact this)]
  congr 1; omega
theorem any_mem {l : List Sbs} {k : Nat} : l.any (isS k) = true ↔ k ∈ l.map Sbs.s := by
 rw [List.any_eq_true, List.mem_map]
 constructor
 ·rintro ⟨x, hx, e⟩; exact ⟨x, hx, eq_of_beq e⟩
 ·rintro ⟨x, hx, e⟩; exact ⟨x, hx, by unfold isS; rw [e]; exact beq_self_eq_true k⟩
theorem free_run {l : List Sbs} {b j : Nat} (h : ∀ i, i < j → l.any (isS (b + i)) = true) : j ≤ l.length := by
 have := run_le j b (l.map Sbs.s) (fun i hi => any_mem.1 (h i hi))
 simpa using this
theorem freeN_eq {l : List Sbs} {b j : Nat} (h : ∀ i, i < j → l.any (isS (b + i)) = true) (hn : l.any (isS (b + j)) = false) : freeN b l = b + j := by
 have hj := free_run h
 unfold freeN
 rw [show l.length + 1 = (l.length - j + 1) + j by omega, freeF_step l j _ b h]
 show (if l.any (isS (b + j)) then _ else b + j) = b + j
 rw [hn]; rfl
set_option maxRecDepth 100000 in
set_option maxHeartbeats 8000000 in
theorem free_any (gs gh base : Nat) (kd nn rm tr ow ly : Int) (st : Nat) (sf : Option Addr) (nf cf : Nat) (gl ol : Nat) (chg : Value) (sv : Option Addr) (nv cv : Nat) (l : List Sbs) (hst : st ≤ 100) (hn : nv ≤ 1000) (w : World) (h : HpB w gs (.cells (stC gh kd (st : Nat) nn rm tr ow ly sf nf cf gl ol chg) 73)) (hm : w.cell? ⟨gl, ol + 7, none⟩ = some (.slice sv nv cv)) (hq : EQ ESb 50 w base (.slice sv nv cv) nv l) :
  Calls Try.prog 36 #[.pointer (some ⟨gs, 0, none⟩)] w fun e w' => e = .returned (.int .u32 (freeN (1048576 + 16 * st) l : Nat)) ∧ BW w w' := by
 have hmf : ∀ (fn : Fn) (first cap : Array Value) (w : World), (Instr.makeFunc fn first cap).run Try.prog w = .ok (.func fn first cap) w := fun _ _ _ _ => rfl
 obtain ⟨_, _, he, hnc, hcm⟩ := hq.len
 cases he
 unfold maxLen at hcm
 have s2 := (hp_cell h 2).trans (show _ = some (.int .i64 (st : Nat)) from rfl)
 obtain ⟨b, hbe⟩ : ∃ b, b = 1048576 + 16 * st := ⟨_, rfl⟩
 rw [← hbe]
 have B1 := Lib.hid (show BW w (w.alloc (.cells #[.int .u32 ((b : Nat) : Int)] 48)) from (BW.refl w).alloc)
 have X1 := Lib.hid (HpB.new w (.cells #[.int .u32 ((b : Nat) : Int)] 48))
 have hS := Lib.hid h
 have hM := Lib.hid hm
 have hQ := Lib.hid hq
 have hll := Lib.hid hq.1
 have hw0 : ((1048576 : Int) + 16 * (st : Int)) = (b : Int) := by omega
 have hst1 : (st : Int) ≤ 100 := by omega
 have hst0 : 0 ≤ (st : Int) := by omega
 have hbz1 : b ≤ 1100000 := by omega
 have hbz : Hid (b ≤ 1100000) := Lib.hid (by omega)
 replace hbe := Lib.hid hbe
 clear h hm hq
 go_enter Try.func36, Try.ntmps36
 go_upto_region 2 with (fail)
 generalize w.alloc (.cells #[.int .u32 ((b : Nat) : Int)] 48) = w1 at *
 generalize hgn : w.heap.size = gn at *
 clear s2 hw0 hst1 hst0
 replace hgn := Lib.hid hgn
 go_loopg [] nv (fun m' wx => ∃ j : Nat, m' = nv - j ∧ Hid (∀ i, i < j → l.any (isS (b + i)) = true) ∧ Hid (HpB wx gn (.cells #[.int .u32 ((b + j : Nat) : Int)] 48)) ∧ Hid (BW w wx))
 case atStart => exact ⟨0, by omega, fun i hi => by omega, X1, B1⟩
 case round =>
  clear X1 B1
  obtain ⟨j, rfl, hA, X, B⟩ := hrel
  have hj := free_run hA.out
  have hl := hll.out
  have hm := B.out.cell hM.out
  have s9 := (hp_cell (hS.out.bw B.out) 9).trans (show _ = some (.pointer (some ⟨gl, ol, none⟩)) from rfl)
  have cH := shasC base nv _ l 43 [.pointer (some ⟨gn, 0, none⟩)] (isS (b + j)) wr (hQ.out.bw B.out) (by omega) (fun x _ wx hB => free1_any gn (b + j) x wx (hB.cell ((hp_cell X.out 0).trans rfl))) enterF1
  cases hc : l.any (isS (b + j)) with
  | true =>
   rw [hc] at cH
   have hA2 : ∀ i, i < j + 1 → l.any (isS (b + i)) = true := fun i hi => by
    by_cases e : i = j
    ·rw [e]; exact hc
    ·exact hA.out i (by omega)
   have hj2 := free_run hA2
   have hb := hbz.out
   replace cH := Lib.hid cH
   replace hc := Lib.hid hc
   replace hA2 := Lib.hid hA2
   go_wp2_with fail
   refine Calls.mono cH.out ?_
   rintro e w3 ⟨rfl, hb3⟩
   have X3 := X.out.bw hb3
   have z0 := (hp_cell X3 0).trans (show _ = some (.int .u32 ((b + j : Nat) : Int)) from rfl)
   have y0 := hp_frz X3 0
   have B3 := Lib.hid ((B.out.trans hb3).set (g := gn) (o := 0) (v := .int .u32 ((b + (j + 1) : Nat) : Int)) (Nat.le_of_eq hgn.out))
   have X4 : Hid (HpB (w3.setCell ⟨gn, 0, none⟩ (.int .u32 ((b + (j + 1) : Nat) : Int))) gn (.cells #[.int .u32 ((b + (j + 1) : Nat) : Int)] 48)) := Lib.hid (hp_set X3 0 _)
   have hsum : (((b + j : Nat) : Int) + 1) % 4294967296 = ((b + (j + 1) : Nat) : Int) := by omega
   clear X X3 cH hb3 s9 hm
   dsimp only
   go_wp2_with fail
   go_roundg (nv - (j + 1))
   case measure => omega
   case rel => exact ⟨j + 1, rfl, hA2, X4, B3⟩
  | false =>
   rw [hc] at cH
   have hR := freeN_eq hA.out hc
   replace cH := Lib.hid cH
   replace hc := Lib.hid hc
   replace hR := Lib.hid hR
   go_wp2_with fail
   refine Calls.mono cH.out ?_
   rintro e w3 ⟨rfl, hb3⟩
   have z0 := (hp_cell (X.out.bw hb3) 0).trans (show _ = some (.int .u32 ((b + j : Nat) : Int)) from rfl)
   have B3 := Lib.hid (B.out.trans hb3)
   clear cH hb3 s9 hm
   dsimp only
   go_wp2_with fail
   go_ret
   exact ⟨by rw [hR.out]; rfl, B3.out⟩
end Go.Proofs.Ytebeifkgjhgmeaa
