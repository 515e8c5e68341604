/- What each kind of frame does, said in one way. No condition but the sizes'. -/
import Derived.Test.YtebeifkgjhgmeaaRnA
namespace Go.Proofs.Ytebeifkgjhgmeaa
open Go.RowKit
def KEx (kd rm tr ow ly : Int) (nf : Nat) (F Si : List Nat) (H H' : List Mem) (i : Nat) (m : Mem) (c : Nat) (v : Int) : Prop :=
 (kd = 1 → joinC m.r rm = 0 → c = 0 ∧ H' = H.set i { m with r := rm }) ∧
 (kd = 3 → pubB tr ly nf = true → (m.tk tr).is = false → decide (0 ≤ ixIN (placesN Si F) (-1) 0) = false → nf + m.a.p.length + m.b.p.length ≤ 1 → c = 0 ∧ v = (nf : Nat) ∧ H' = H.set i (m.setTk tr ⟨true, ly, placesN Si F⟩)) ∧
 (kd = 5 → (∃ k t : Nat, ow = (k : Int) ∧ tr = (t : Int) ∧ (t = 0 ∨ t = 1) ∧ k ≠ i ∧ ∃ q, H[k]? = some q ∧ q.r = m.r ∧ (q.tk t).is = true) → m.subs = [] → c = 0 ∧ v = 16 * (i : Int))
structure KIn (base gs gh gl o n c i : Nat) (vS : Value) (S : List (List Nat)) (L : List (Mem × Value)) (kd nn rm tr ow ly : Int) (sf : Option Addr) (nf cf : Nat) (F : List Nat) (sc : Option Addr) (nc cc : Nat) (C : List Chg) (w : World) : Prop where
 hL : L.length ≤ 6
 hSL : S.length = L.length
 hS : ∀ s ∈ S, s.length ≤ 20
 ok : HouseOk (L.map Prod.fst)
 ok2 : Ok2 (L.map Prod.fst)
 hnc : nc ≤ 100
 hb : base ≤ w.heap.size
 h : HpB w gs (.cells (stC gh kd (i : Nat) nn rm tr ow ly sf nf cf gl (o + i * 9) (.slice sc nc cc)) 73)
 hH : HouseV w base gh vS (.slice (some ⟨gl, o, none⟩) n c) S L
 hq : EQ ECh 89 w base (.slice sc nc cc) nc C
 sq : SQ EU4 w 0 (.slice sf nf cf) nf F
 hF : ∀ x ∈ F, x < 4294967296
 hnf : nf ≤ 40
def KPost (base gs gh gl o n c i : Nat) (vS : Value) (S : List (List Nat)) (L : List (Mem × Value)) (hi : i < L.length) (Si : List Nat) (kd nn rm tr ow ly : Int) (sf : Option Addr) (nf cf : Nat) (F : List Nat) (sc : Option Addr) (nc cc : Nat) (w : World) (e : Ending) (w' : World) : Prop :=
 ∃ (L' : List (Mem × Value)) (cd : Nat) (v : Int), e = .returned (.tuple #[.int .i64 v, .int .i64 (cd : Nat)]) ∧ -1000 ≤ v ∧ v ≤ 10000 ∧ OpRel (L.map Prod.fst) i L[i].1 (L'.map Prod.fst) cd v ∧ KEx kd rm tr ow ly nf F Si (L.map Prod.fst) (L'.map Prod.fst) i L[i].1 cd v ∧ ((cd ≠ 0 ∧ BW w w' ∧ L' = L) ∨ (cd = 0 ∧ StepQ w w' base gs gh gl o n c vS S L L' kd (i : Nat) nn rm tr ow ly sf nf cf (o + i * 9) 200 (.slice sc nc cc)))
section
variable {base gs gh gl o n c i : Nat} {vS : Value} {S : List (List Nat)} {L : List (Mem × Value)} {nn rm tr ow ly : Int} {sf : Option Addr} {nf cf : Nat} {F : List Nat} {sc : Option Addr} {nc cc : Nat} {C : List Chg} {w : World} {Si : List Nat}
theorem get_fst {L : List (Mem × Value)} {i : Nat} (hi : i < L.length) : (L.map Prod.fst)[i]? = some L[i].1 := by
 rw [List.getElem?_map, List.getElem?_eq_getElem hi]; rfl
theorem KPost.no {kd : Int} (hi : i < L.length) (cd : Nat) (hc : cd ≠ 0) (hx : KEx kd rm tr ow ly nf F Si (L.map Prod.fst) (L.map Prod.fst) i L[i].1 cd 0) {e : Ending} {w' : World} (h : RefP (cd : Nat) w e w') : KPost base gs gh gl o n c i vS S L hi Si kd nn rm tr ow ly sf nf cf F sc nc cc w e w' :=
 ⟨L, cd, 0, h.1, by omega, by omega, .refuse cd hc, hx, .inl ⟨hc, h.2, rfl⟩⟩
theorem KIn.h4 {kd : Int} (K : KIn base gs gh gl o n c i vS S L kd nn rm tr ow ly sf nf cf F sc nc cc C w) : ∀ m ∈ L.map Prod.fst, m.subs.length ≤ 4 := fun m hm => by
 obtain ⟨k, hk, rfl⟩ := List.mem_iff_getElem.1 hm
 exact (K.ok k _ (List.getElem?_eq_getElem hk)).n
theorem KIn.mOk {kd : Int} (K : KIn base gs gh gl o n c i vS S L kd nn rm tr ow ly sf nf cf F sc nc cc C w) (hi : i < L.length) : MemOk (L.map Prod.fst) i L[i].1 := K.ok i _ (get_fst hi)
theorem KIn.m2 {kd : Int} (K : KIn base gs gh gl o n c i vS S L kd nn rm tr ow ly sf nf cf F sc nc cc C w) (hi : i < L.length) : -1 ≤ L[i].1.r ∧ L[i].1.a.p.length ≤ 4 ∧ L[i].1.b.p.length ≤ 4 := K.ok2 _ (List.mem_map.2 ⟨_, List.getElem_mem hi, rfl⟩)
theorem kJoin (hi : i < L.length) (K : KIn base gs gh gl o n c i vS S L 1 nn rm tr ow ly sf nf cf F sc nc cc C w) :
  Calls Try.prog 17 #[.pointer (some ⟨gs, 0, none⟩)] w (KPost base gs gh gl o n c i vS S L hi Si 1 nn rm tr ow ly sf nf cf F sc nc cc w) := by
 by_cases hc : joinC L[i].1.r rm = 0
 ·refine (join_yes gs gh gl o n c base vS S L i hi 1 (i : Nat) nn rm tr ow ly sf nf cf (.slice sc nc cc) w K.h K.hH hc).mono ?_
  rintro e w' ⟨rfl, hv, hT⟩
  have hr : L[i].1.r = -1 ∧ 0 ≤ rm ∧ rm < 4 := by
   unfold joinC at hc
   split at hc
   ·cases hc
   split at hc
   ·cases hc
   ·omega
  obtain ⟨cr, hcr⟩ := K.hH.row
  refine ⟨_, 0, rm, rfl, by omega, by omega, ?_, ⟨fun _ _ => ⟨rfl, map_set_fst ..⟩, fun h => by omega, fun h => by omega⟩, .inr ⟨rfl, ⟨⟨sc, nc, cc, C, by have := K.hnc; omega, K.h.st hT (fun hm => ?_), K.hq.still hT (fun _ _ => trivial) (fun g hg hm => ?_), fun j hj => .inl hj⟩, hv, hT.weaken (fun x hx => ?_)⟩⟩⟩
  ·rw [map_set_fst]
   exact .join (by omega) rm rm hr.2.1
  ·obtain rfl := List.mem_singleton.1 hm
   have := K.h.symm.trans hcr
   cases this
  ·obtain rfl := List.mem_singleton.1 hm
   exact K.hq.ne hcr (by decide) _ hg rfl
  ·obtain rfl := List.mem_singleton.1 hx
   simp
 ·obtain ⟨z0, hm0⟩ : ∃ u, w.cell? ⟨gl, o + i * 9, none⟩ = some u ∧ u = .int .i64 L[i].1.r := by
   obtain ⟨va, vb, hm, -, -⟩ := K.hH.mem i hi
   exact ⟨_, hm 0 (by decide), rfl⟩
  obtain ⟨hm0, rfl⟩ := hm0
  refine (join_no gs gh gl (o + i * 9) 1 (i : Nat) nn rm tr ow ly sf nf cf (.slice sc nc cc) L[i].1.r w K.h hm0 hc).mono fun e w' h => ?_
  have hcc : joinC L[i].1.r rm = 10 ∨ joinC L[i].1.r rm = 1 := by
   unfold joinC at hc ⊢
   split
   ·exact .inl rfl
   split
   ·exact .inr rfl
   ·rename_i h1 h2
    rw [if_neg h1, if_neg h2] at hc
    exact absurd rfl hc
  rcases hcc with e1 | e1
  ·rw [e1] at h
   exact .no hi 10 (by decide) ⟨fun _ e => absurd e hc, fun h => by omega, fun h => by omega⟩ h
  ·rw [e1] at h
   exact .no hi 1 (by decide) ⟨fun _ e => absurd e hc, fun h => by omega, fun h => by omega⟩ h
theorem kLeave (hi : i < L.length) (K : KIn base gs gh gl o n c i vS S L 2 nn rm tr ow ly sf nf cf F sc nc cc C w) :
  Calls Try.prog 18 #[.pointer (some ⟨gs, 0, none⟩)] w (KPost base gs gh gl o n c i vS S L hi Si 2 nn rm tr ow ly sf nf cf F sc nc cc w) := by
 refine (leave_any gs gh gl o n c base i vS S L hi K.hL K.h4 2 nn rm tr ow ly sf nf cf sc nc cc C K.hnc w K.hb K.h K.hH K.hq).mono ?_
 rintro e w' ⟨rfl, L', hL', hP⟩
 refine ⟨L', 0, 0, rfl, by omega, by omega, ?_, ⟨fun h => by omega, fun h => by omega, fun h => by omega⟩, .inr ⟨rfl, hP.q (by omega)⟩⟩
 rw [hL']
 exact .leave 0
theorem kUnpub (hi : i < L.length) (K : KIn base gs gh gl o n c i vS S L 4 nn rm tr ow ly sf nf cf F sc nc cc C w) :
  Calls Try.prog 20 #[.pointer (some ⟨gs, 0, none⟩)] w (KPost base gs gh gl o n c i vS S L hi Si 4 nn rm tr ow ly sf nf cf F sc nc cc w) := by
 cases hb : unpB L[i].1 tr with
 | false => exact (unpub_no gs gh gl o n c base i vS S L hi 4 (i : Nat) nn rm tr ow ly sf nf cf (.slice sc nc cc) w K.h K.hH hb).mono fun e w' h => .no hi 9 (by decide) ⟨fun h => by omega, fun h => by omega, fun h => by omega⟩ h
 | true =>
  refine (unpub_yes gs gh gl o n c base i vS S L hi K.hL K.h4 4 nn rm tr ow ly sf nf cf sc nc cc C K.hnc w K.hb K.h K.hH K.hq hb).mono ?_
  rintro e w' ⟨rfl, L', hL', hP⟩
  refine ⟨L', 0, 0, rfl, by omega, by omega, ?_, ⟨fun h => by omega, fun h => by omega, fun h => by omega⟩, .inr ⟨rfl, hP.q (by omega)⟩⟩
  rw [hL']
  simp only [unpB, Bool.and_eq_true, decide_eq_true_eq] at hb
  exact .unpublish tr (by omega) 0
theorem kUnsub (hi : i < L.length) (K : KIn base gs gh gl o n c i vS S L 6 nn rm tr ow ly sf nf cf F sc nc cc C w) :
  Calls Try.prog 22 #[.pointer (some ⟨gs, 0, none⟩)] w (KPost base gs gh gl o n c i vS S L hi Si 6 nn rm tr ow ly sf nf cf F sc nc cc w) := by
 have h4 := (K.mOk hi).n
 refine (unsub_any gs gh gl o n c base i vS S L hi 6 nn rm tr ow ly sf nf cf sc nc cc C (by have := K.hnc; omega) (by omega) w K.hb K.h K.hH K.hq).mono fun e w' h => ?_
 rcases h with ⟨-, h⟩ | ⟨-, rfl, v, hP⟩
 ·exact .no hi 9 (by decide) ⟨fun h => by omega, fun h => by omega, fun h => by omega⟩ h
 ·refine ⟨_, 0, 0, rfl, by omega, by omega, ?_, ⟨fun h => by omega, fun h => by omega, fun h => by omega⟩, .inr ⟨rfl, hP.q (by have := K.hnc; omega)⟩⟩
  rw [map_set_fst]
  exact .unsub _ 0
theorem kReset (hi : i < L.length) (K : KIn base gs gh gl o n c i vS S L 8 nn rm tr ow ly sf nf cf F sc nc cc C w) :
  Calls Try.prog 24 #[.pointer (some ⟨gs, 0, none⟩)] w (KPost base gs gh gl o n c i vS S L hi Si 8 nn rm tr ow ly sf nf cf F sc nc cc w) := by
 have hkx : ∀ cd v, KEx 8 rm tr ow ly nf F Si (L.map Prod.fst) (L.map Prod.fst) i L[i].1 cd v := fun cd v => ⟨fun h => by omega, fun h => by omega, fun h => by omega⟩
 by_cases hc : resC (i : Nat) ow n = 0
 ·have hr : i = 0 ∧ 0 ≤ ow ∧ ow < (n : Int) := by
   unfold resC at hc
   split at hc
   ·cases hc
   split at hc
   ·omega
   ·cases hc
  obtain ⟨rfl, how⟩ := hr
  refine (reset_yes gs gh base n c vS _ 8 nn rm tr ow ly sf nf cf gl (o + 0 * 9) sc nc cc C (by have := K.hnc; omega) w K.hb K.h K.hH.hp how K.hq).mono ?_
  rintro e w' ⟨rfl, s', c', k1, k2, k3, k4⟩
  refine ⟨L, 0, 0, rfl, by omega, by omega, .reset 0, hkx _ _, .inr ⟨rfl, ⟨⟨s', nc + 1, c', _, by have := K.hnc; omega, k1, k2, k4⟩, K.hH.st k3 (fun k hk => ?_), k3.weaken (fun x hx => ?_)⟩⟩⟩
  ·rcases List.mem_cons.1 hk with rfl | hk
   ·exact ⟨_, _, _, K.h, by decide⟩
   ·obtain ⟨cs, hcs⟩ := K.hq.row k (by simpa using hk)
    exact ⟨cs, _, _, hcs, by decide⟩
  ·rcases List.mem_cons.1 hx with rfl | hx
   ·simp
   ·simp only [List.mem_cons, List.mem_append]
    exact .inr (.inr (.inl hx))
 ·refine (reset_no gs gh gl (o + i * 9) n c vS _ 8 (i : Nat) nn rm tr ow ly sf nf cf (.slice sc nc cc) w K.h K.hH.hp hc).mono fun e w' h => ?_
  have hcc : resC (i : Nat) ow n = 4 ∨ resC (i : Nat) ow n = 9 := by
   unfold resC at hc ⊢
   split
   ·exact .inl rfl
   split
   ·rename_i h1 h2
    rw [if_neg h1, if_pos h2] at hc
    exact absurd rfl hc
   ·exact .inr rfl
  rcases hcc with e1 | e1
  ·rw [e1] at h
   exact .no hi 4 (by decide) (hkx _ _) h
  ·rw [e1] at h
   exact .no hi 9 (by decide) (hkx _ _) h
end
end Go.Proofs.Ytebeifkgjhgmeaa
