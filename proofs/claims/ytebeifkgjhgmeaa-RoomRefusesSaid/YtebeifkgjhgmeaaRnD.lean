/- The kinds of frames, as an array of functions. No condition. -/
import Derived.Test.YtebeifkgjhgmeaaRnC
import Derived.Laws.EntriesVeiled
import Derived.Deep.CutBlock
namespace Go.Proofs.Ytebeifkgjhgmeaa
open Go.RowKit
def fnV (f : FuncId) : Value := .func (.func f) #[] #[]
def kindF : Nat → FuncId
 | 1 => 17
 | 2 => 18
 | 3 => 19
 | 4 => 20
 | 5 => 21
 | 6 => 22
 | 7 => 23
 | _ => 24
def kindA : Array Value := #[.nilFunc, fnV (kindF 1), fnV (kindF 2), fnV (kindF 3), fnV (kindF 4), fnV (kindF 5), fnV (kindF 6), fnV (kindF 7), fnV (kindF 8)]
theorem kind_enter (k : Nat) (args : Array Value) (w : World) : (callFunc (kindF k) args).run Try.prog w = .ok (.enter (kindF k) args) w := by
 unfold kindF
 split <;> kernel_rfl
theorem kindA_get (k : Nat) (h1 : 1 ≤ k) (h9 : k < 9) : kindA[k]? = some (fnV (kindF k)) := by
 have : k = 1 ∨ k = 2 ∨ k = 3 ∨ k = 4 ∨ k = 5 ∨ k = 6 ∨ k = 7 ∨ k = 8 := by omega
 rcases this with rfl | rfl | rfl | rfl | rfl | rfl | rfl | rfl <;> rfl
section
variable {base gs gh gl o n c i : Nat} {vS : Value} {S : List (List Nat)} {L : List (Mem × Value)} {nn rm tr ow ly : Int} {sf : Option Addr} {nf cf : Nat} {F : List Nat} {sc : Option Addr} {nc cc : Nat} {C : List Chg} {w : World}
theorem kAny (k : Nat) (h1 : 1 ≤ k) (h9 : k < 9) (hi : i < L.length) (hiS : i < S.length) (hr : k ≠ 1 → k ≠ 8 → L[i].1.r ≠ -1) (K : KIn base gs gh gl o n c i vS S L (k : Nat) nn rm tr ow ly sf nf cf F sc nc cc C w) :
  Calls Try.prog (kindF k) #[.pointer (some ⟨gs, 0, none⟩)] w (KPost base gs gh gl o n c i vS S L hi S[i] (k : Nat) nn rm tr ow ly sf nf cf F sc nc cc w) := by
 have : k = 1 ∨ k = 2 ∨ k = 3 ∨ k = 4 ∨ k = 5 ∨ k = 6 ∨ k = 7 ∨ k = 8 := by omega
 rcases this with rfl | rfl | rfl | rfl | rfl | rfl | rfl | rfl
 ·exact kJoin hi K
 ·exact kLeave hi K
 ·exact kPub hi K hiS
 ·exact kUnpub hi K
 ·exact kSub hi (hr (by decide) (by decide)) K
 ·exact kUnsub hi K
 ·exact kLayer hi K
 ·exact kReset hi K
theorem StepQ.oth {L' : List (Mem × Value)} {kd st : Int} {om nm : Nat} {chg : Value} {w' : World} (Q : StepQ w w' base gs gh gl o n c vS S L L' kd st nn rm tr ow ly sf nf cf om nm chg) (hH : HouseV w base gh vS (.slice (some ⟨gl, o, none⟩) n c) S L) {y : Array Value} (hs : HpB w gs (.cells y 73)) (hc : ∀ g, chg.ownBlock = some g → ∃ cs, w.heap[g]? = some (.cells cs 89 (0, 0))) {b : Nat} {x : Array Value} {T : TypeId} (hb : HpB w b (.cells x T)) (h1 : T ≠ 73) (h2 : T ≠ 45) (h3 : T ≠ 89) (h4 : T ≠ 50) : HpB w' b (.cells x T) := by
 have key : ∀ {cs : Array Value} {t : TypeId} {f : Nat × Nat}, w.heap[b]? = some (.cells cs t f) → T = t := fun h => by
  have := hb.symm.trans h
  cases this; rfl
 refine hb.st Q.st fun hm => ?_
 rcases List.mem_cons.1 hm with rfl | hm
 ·exact h1 (key hs)
 rcases List.mem_cons.1 hm with rfl | hm
 ·obtain ⟨cr, hcr⟩ := hH.row
  exact h2 (key hcr)
 rcases List.mem_append.1 hm with hm | hm
 ·obtain ⟨cs, hcs⟩ := hc b (by simpa using hm)
  exact h3 (key hcs)
 ·obtain ⟨p, hp, hpb⟩ := List.mem_flatMap.1 hm
  obtain ⟨cs, hcs⟩ := (hH.sb p hp).row b (by simpa using hpb)
  exact h4 (key hcs)
end
theorem hsB_set {L : List (Mem × Value)} {i : Nat} (hi : i < L.length) (m : Mem) : ∀ x ∈ hsB (L.set i (m, L[i].2)), x ∈ hsB L := fun x hx => by
 obtain ⟨p, hp, hpx⟩ := List.mem_flatMap.1 hx
 rcases List.mem_or_eq_of_mem_set hp with hp | rfl
 ·exact List.mem_flatMap.2 ⟨p, hp, hpx⟩
 ·exact List.mem_flatMap.2 ⟨L[i], List.getElem_mem hi, hpx⟩
theorem KPost.left {base gs gh gl o n c i : Nat} {vS : Value} {S : List (List Nat)} {L : List (Mem × Value)} {hi : i < L.length} {Si : List Nat} {kd nn rm tr ow ly : Int} {sf : Option Addr} {nf cf : Nat} {F : List Nat} {w : World} {e : Ending} {w' : World} (h : KPost base gs gh gl o n c i vS S L hi Si kd nn rm tr ow ly sf nf cf F none 0 0 w e w') (hH : HouseV w base gh vS (.slice (some ⟨gl, o, none⟩) n c) S L) (hs : HpB w gs (.cells (stC gh kd (i : Nat) nn rm tr ow ly sf nf cf gl (o + i * 9) (.slice none 0 0)) 73)) {gp gr : Nat} {x y : Array Value} (hp : HpB w gp (.cells x 36)) (hr : HpB w gr (.cells y 36)) :
  ∃ (L' : List (Mem × Value)) (cd : Nat) (v : Int) (sc : Option Addr) (nc cc : Nat), e = .returned (.tuple #[.int .i64 v, .int .i64 (cd : Nat)]) ∧ -1000 ≤ v ∧ v ≤ 10000 ∧ OpRel (L.map Prod.fst) i L[i].1 (L'.map Prod.fst) cd v ∧ KEx kd rm tr ow ly nf F Si (L.map Prod.fst) (L'.map Prod.fst) i L[i].1 cd v ∧ HpB w' gp (.cells x 36) ∧ HpB w' gr (.cells y 36) ∧ HpB w' gs (.cells (stC gh kd (i : Nat) nn rm tr ow ly sf nf cf gl (o + i * 9) (.slice sc nc cc)) 73) ∧ HouseV w' base gh vS (.slice (some ⟨gl, o, none⟩) n c) S L' ∧ (cd ≠ 0 → nc = 0) ∧ nc ≤ 200 ∧ Still (gs :: gl :: hsB L) w w' := by
 obtain ⟨L', cd, v, he, h1, h2, h3, h4, h5⟩ := h
 rcases h5 with ⟨hc, hb, rfl⟩ | ⟨hc, hq⟩
 ·exact ⟨L', cd, v, none, 0, 0, he, h1, h2, h3, h4, hp.bw hb, hr.bw hb, hs.bw hb, hH.bw hb, fun _ => rfl, by omega, hb.still _⟩
 ·obtain ⟨sc, nc, cc, C, k1, k2, k3, k4⟩ := hq.ex
  exact ⟨L', cd, v, sc, nc, cc, he, h1, h2, h3, h4, hq.oth hH hs (fun g hg => by cases hg) hp (by decide) (by decide) (by decide) (by decide), hq.oth hH hs (fun g hg => by cases hg) hr (by decide) (by decide) (by decide) (by decide), k2, hq.hv, fun e => absurd hc e, k1, hq.st⟩
theorem swKd : SwT 67 9 := ⟨⟨_, Try.underlying67, rfl, rfl⟩, by kernel_rfl⟩
set_option maxRecDepth 100000 in
set_option maxHeartbeats 8000000 in
theorem kinds_any (w : World) : Calls Try.prog 13 #[] w fun e w' => e = .returned (.agg kindA) ∧ BW w w' := by
 go_enter Try.func13, Try.ntmps13
 go_upto_region 1 with (fail)
 have B1 : BW w (w.alloc (.cells #[.nilFunc, .nilFunc, .nilFunc, .nilFunc, .nilFunc, .nilFunc, .nilFunc, .nilFunc, .nilFunc] 67)) := (BW.refl w).alloc
 have X1 := HpB.new w (.cells #[.nilFunc, .nilFunc, .nilFunc, .nilFunc, .nilFunc, .nilFunc, .nilFunc, .nilFunc, .nilFunc] 67)
 generalize w.alloc _ = w1 at *
 generalize hgx : w.heap.size = gx at *
 have X2 := Lib.hid (X1.rowS kindA)
 have B2 := Lib.hid (B1.row (Nat.le_of_eq hgx) kindA)
 replace X1 := Lib.hid X1
 replace B1 := Lib.hid B1
 replace hgx := Lib.hid hgx
 unfold kindA fnV kindF at *
 go_wp2_with (refine swSt swKd rfl rfl rfl rfl X1.out rfl rfl (by kernel_rfl) ?_)
 exact bodyPost_ret (results_cell_row (p := 0) rfl _ _ gx _ _ _ _ rfl X2.out Try.underlying67 rfl (by kernel_rfl)) rfl ⟨rfl, B2.out⟩
end Go.Proofs.Ytebeifkgjhgmeaa
