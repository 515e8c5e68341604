/- A step: unsubscribe. No condition but the sizes'. -/
import Derived.Test.YtebeifkgjhgmeaaRmI
import Derived.Test.YtebeifkgjhgmeaaRmJ
namespace Go.Proofs.Ytebeifkgjhgmeaa
open Go.RowKit
theorem enterTo (args : Array Value) (w : World) : (callFunc 35 args).run Try.prog w = .ok (.enter 35 args) w := by kernel_rfl
theorem enterOf (args : Array Value) (w : World) : (callFunc 33 args).run Try.prog w = .ok (.enter 33 args) w := by kernel_rfl
structure StepP (w w' : World) (base gs gh gl o n c : Nat) (vS : Value) (S : List (List Nat)) (L' : List (Mem × Value)) (kd st nn rm tr ow ly : Int) (sf : Option Addr) (nf cf om nm : Nat) (chg : Value) : Prop where
 ex : ∃ (sc' : Option Addr) (nc' cc' : Nat) (C' : List Chg), nc' ≤ nm ∧ HpB w' gs (.cells (stC gh kd st nn rm tr ow ly sf nf cf gl om (.slice sc' nc' cc')) 73) ∧ EQ ECh 89 w' base (.slice sc' nc' cc') nc' C' ∧ (∀ j, (Value.slice sc' nc' cc').ownBlock = some j → chg.ownBlock = some j ∨ w.heap.size ≤ j)
 hv : HouseV w' base gh vS (.slice (some ⟨gl, o, none⟩) n c) S L'
 st : Still (gs :: gl :: chg.ownBlock.toList) w w'
def OrP (b : Bool) (A B : Prop) : Prop := (b = false ∧ A) ∨ (b = true ∧ B)
theorem OrP.no {A B : Prop} (h : A) : OrP false A B := .inl ⟨rfl, h⟩
theorem OrP.yes {A B : Prop} (h : B) : OrP true A B := .inr ⟨rfl, h⟩
set_option maxRecDepth 100000 in
set_option maxHeartbeats 8000000 in
theorem unsub_any (gs gh gl o n c base i : Nat) (vS : Value) (S : List (List Nat)) (L : List (Mem × Value)) (hi : i < L.length) (kd nn rm tr ow ly : Int) (sf : Option Addr) (nf cf : Nat) (sc : Option Addr) (nc cc : Nat) (C : List Chg) (hnc : nc ≤ 1000) (hns : L[i].1.subs.length ≤ 100) (w : World) (hbase : base ≤ w.heap.size) (h : HpB w gs (.cells (stC gh kd (i : Nat) nn rm tr ow ly sf nf cf gl (o + i * 9) (.slice sc nc cc)) 73)) (hH : HouseV w base gh vS (.slice (some ⟨gl, o, none⟩) n c) S L) (hq : EQ ECh 89 w base (.slice sc nc cc) nc C) :
  Calls Try.prog 22 #[.pointer (some ⟨gs, 0, none⟩)] w fun e w' => OrP (L[i].1.subs.any (ofT ow tr)) (RefP 9 w e w') (e = .returned (.tuple #[.int .i64 0, .int .i64 0]) ∧ ∃ v, StepP w w' base gs gh gl o n c vS S (L.set i (dropM (ofT ow tr) L[i].1, v)) kd (i : Nat) nn rm tr ow ly sf nf cf (o + i * 9) (nc + L[i].1.subs.length) (.slice sc nc cc)) := by
 have hmf : ∀ (fn : Fn) (first cap : Array Value) (w : World), (Instr.makeFunc fn first cap).run Try.prog w = .ok (.func fn first cap) w := fun _ _ _ _ => rfl
 obtain ⟨va, vb, hm, -, -⟩ := hH.mem i hi
 have hsub := hH.sb L[i] (List.getElem_mem hi)
 obtain ⟨sm, cm, hsm, hcm1, hcm2⟩ := hsub.len
 have z7 := (hm 7 (by decide)).trans (show _ = some L[i].2 from rfl)
 rw [hsm] at z7 hsub
 have s9 := (hp_cell h 9).trans (show _ = some (.pointer (some ⟨gl, o + i * 9, none⟩)) from rfl)
 have cH := Lib.hid (shasM base _ _ L[i].1.subs 35 gs (ofT ow tr) w hsub (by omega) (fun x _ wx hB => to_any gs gh kd (i : Nat) nn rm tr ow ly sf nf cf gl (o + i * 9) (.slice sc nc cc) x wx (h.bw hB)) enterTo)
 have cD := Lib.hid (fun (y : World) (hy : BW w y) => sdropM gs gh gl o n c base i vS S L hi kd (i : Nat) nn rm tr ow ly sf nf cf (o + i * 9) sc nc cc C 35 (ofT ow tr) hnc hns y (Nat.le_trans hbase hy.size) (h.bw hy) (hH.bw hy) (hq.bw hy) enterTo (fun u wx chg hS => to_any gs gh kd (i : Nat) nn rm tr ow ly sf nf cf gl (o + i * 9) chg u wx hS))
 have hS := Lib.hid h
 clear h hH hm hsub hq
 generalize L[i].1.subs.length = ns at *
 generalize hb : L[i].1.subs.any (ofT ow tr) = b at *
 replace hsm := Lib.hid hsm
 replace hb := Lib.hid hb
 replace hns := Lib.hid hns
 cases b with
 | false =>
  go_enter Try.func22, Try.ntmps22
  go_wp2_with fail
  refine Calls.mono cH.out ?_
  rintro e w1 ⟨rfl, hb1⟩
  replace hb1 := Lib.hid hb1
  clear cH z7 s9
  dsimp only
  go_wp2_with fail
  go_ret2
  exact OrP.no ⟨rfl, hb1.out⟩
 | true =>
  go_enter Try.func22, Try.ntmps22
  go_wp2_with fail
  refine Calls.mono cH.out ?_
  rintro e w1 ⟨rfl, hb1⟩
  have s2 := (hp_cell (hS.out.bw hb1) 2).trans (show _ = some (.int .i64 (i : Nat)) from rfl)
  have cD2 := Lib.hid (cD.out w1 hb1)
  replace hb1 := Lib.hid hb1
  clear cH cD z7 s9
  dsimp only
  go_wp2_with fail
  refine Calls.mono cD2.out ?_
  rintro e w2 ⟨rfl, sc', nc', cc', C', v, k1, k2, k3, k4, k5, k6⟩
  have hP : Hid (StepP w w2 base gs gh gl o n c vS S (L.set i (dropM (ofT ow tr) L[i].1, v)) kd (i : Nat) nn rm tr ow ly sf nf cf (o + i * 9) (nc + ns) (.slice sc nc cc)) := Lib.hid ⟨⟨sc', nc', cc', C', k1, k2, k4, fun j hj => (k6 j hj).imp_right (Nat.le_trans hb1.out.size)⟩, k3, (hb1.out.still _).trans k5⟩
  clear cD2 k1 k2 k3 k4 k5 k6 s2
  dsimp only
  go_wp2_with fail
  go_ret2
  exact OrP.yes ⟨rfl, v, hP.out⟩
end Go.Proofs.Ytebeifkgjhgmeaa
