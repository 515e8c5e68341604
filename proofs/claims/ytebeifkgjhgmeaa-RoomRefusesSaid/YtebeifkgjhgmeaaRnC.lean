/- What each kind of frame does, said in one way: layer, subscribe, publish. No condition but the sizes'. -/
import Derived.Test.YtebeifkgjhgmeaaRnB
namespace Go.Proofs.Ytebeifkgjhgmeaa
open Go.RowKit
section
variable {base gs gh gl o n c i : Nat} {vS : Value} {S : List (List Nat)} {L : List (Mem × Value)} {nn rm tr ow ly : Int} {sf : Option Addr} {nf cf : Nat} {F : List Nat} {sc : Option Addr} {nc cc : Nat} {C : List Chg} {w : World} {Si : List Nat}
theorem fst_get {k : Nat} {q : Mem} (h : (L.map Prod.fst)[k]? = some q) : ∃ hk : k < L.length, L[k].1 = q := by
 have hk : k < L.length := by
  have := (List.getElem?_eq_some_iff.1 h).1
  simpa using this
 exact ⟨hk, Option.some.inj ((get_fst hk).symm.trans h)⟩
theorem kLayer (hi : i < L.length) (K : KIn base gs gh gl o n c i vS S L 7 nn rm tr ow ly sf nf cf F sc nc cc C w) :
  Calls Try.prog 23 #[.pointer (some ⟨gs, 0, none⟩)] w (KPost base gs gh gl o n c i vS S L hi Si 7 nn rm tr ow ly sf nf cf F sc nc cc w) := by
 have h4 := (K.mOk hi).n
 have hx : ∀ H' cd v, KEx 7 rm tr ow ly nf F Si (L.map Prod.fst) H' i L[i].1 cd v := fun _ _ _ => ⟨fun h => by omega, fun h => by omega, fun h => by omega⟩
 cases hb : L[i].1.subs.any (ofT ow tr) with
 | false => exact (layer_none gs gh gl o n c base i vS S L hi 7 (i : Nat) nn rm tr ow ly sf nf cf (.slice sc nc cc) (by omega) w K.h K.hH hb).mono fun e w' h => .no hi 9 (by decide) (hx _ _ _) h
 | true =>
  rw [firstN_any] at hb
  have hlt := of_decide_eq_true hb
  have htr := firstN_true _ _ hlt
  have hso := (K.mOk hi).x _ (List.getElem_mem hlt)
  obtain ⟨⟨k, h1, h2, q, h3, h5, h6, h7⟩, ht, -, -, -⟩ := hso
  obtain ⟨hk, rfl⟩ := fst_get h3
  have e1 : (L[i].1.subs[firstN (ofT ow tr) L[i].1.subs]).o = ow ∧ (L[i].1.subs[firstN (ofT ow tr) L[i].1.subs]).t = tr := by simpa [ofT] using htr
  obtain ⟨t, rfl, ht2⟩ : ∃ t : Nat, tr = (t : Int) ∧ (t = 0 ∨ t = 1) := ⟨tr.toNat, by omega, by omega⟩
  obtain rfl : ow = (k : Int) := by rw [← e1.1]; exact h1
  refine (layer_some gs gh gl o n c base i k t vS S L hi hk ht2 7 nn rm ly sf nf cf sc nc cc C K.hnc (by omega) w K.hb K.h K.hH K.hq hlt).mono fun e w' h => ?_
  rcases h with ⟨-, h⟩ | ⟨hb2, rfl, hP⟩
  ·exact .no hi 1 (by decide) (hx _ _ _) h
  ·have hl : -1 ≤ ly ∧ ly < (L[k].1.tk (t : Nat)).p.length := by
    unfold layB at hb2
    simp only [Bool.not_eq_true', Bool.or_eq_false_iff, decide_eq_false_iff_not] at hb2
    omega
   refine ⟨_, 0, 0, rfl, by omega, by omega, ?_, hx _ _ _, .inr ⟨rfl, hP⟩⟩
   rw [map_set_fst]
   refine .layer _ hlt ly hl.1 (fun k' q' e2 e3 => ?_) 0
   rw [e1.1] at e2
   obtain rfl : k = k' := by omega
   obtain ⟨_, rfl⟩ := fst_get e3
   rw [e1.2]
   exact hl.2
theorem kSub (hi : i < L.length) (hr : L[i].1.r ≠ -1) (K : KIn base gs gh gl o n c i vS S L 5 nn rm tr ow ly sf nf cf F sc nc cc C w) :
  Calls Try.prog 21 #[.pointer (some ⟨gs, 0, none⟩)] w (KPost base gs gh gl o n c i vS S L hi Si 5 nn rm tr ow ly sf nf cf F sc nc cc w) := by
 have h4 := (K.mOk hi).n
 have hr0 : 0 ≤ L[i].1.r := by have := (K.m2 hi).1; omega
 by_cases hm : ∃ k t, SubMay L i ow tr k t
 ·obtain ⟨k, t, rfl, rfl, hk, ht, hne, hrm, his⟩ := hm
  refine (sub_some gs gh gl o n c base i k t vS S L hi hk K.hL ht hne (hrm hi) his 5 nn rm ly sf nf cf sc nc cc C K.hnc (by omega) w K.hb K.h K.hH K.hq).mono fun e w' h => ?_
  rcases h with ⟨hb, h⟩ | ⟨-, ⟨hb, h⟩ | ⟨hb, rfl, v, hP⟩⟩
  ·exact .no hi 10 (by decide) ⟨fun h => by omega, fun h => by omega, fun _ _ e => (by rw [e] at hb; cases hb)⟩ h
  ·exact .no hi 6 (by decide) ⟨fun h => by omega, fun h => by omega, fun _ _ e => (by rw [e] at hb; cases hb)⟩ h
  ·obtain ⟨f1, f2, f3⟩ := freeN_bd (1048576 + 16 * i) L[i].1.subs
   have hn : L[i].1.subs.length < 4 := of_decide_eq_true hb
   refine ⟨_, 0, _, rfl, by omega, by have := K.hL; omega, ?_, ⟨fun h => by omega, fun h => by omega, fun _ _ e => ⟨rfl, ?_⟩⟩, .inr ⟨rfl, hP⟩⟩
   ·rw [map_set_fst]
    refine .sub _ hn ⟨⟨k, rfl, hne, L[k].1, get_fst hk, hrm hi, his, ?_⟩, ?_, ?_, hr0, ?_, ?_⟩ (fun hm => ?_) _
    ·show (-1 : Int) < _
     omega
    ·show ((t : Nat) : Int) = 0 ∨ ((t : Nat) : Int) = 1
     omega
    ·exact Int.le_refl _
    ·exact f1
    ·show freeN _ _ < _
     omega
    ·have := any_mem.2 hm
     rw [show (subX k t i L[i].1.subs).s = freeN (1048576 + 16 * i) L[i].1.subs from rfl, f3] at this
     cases this
   ·rw [e] at f1 f2 ⊢
    have : ([] : List Sbs).length = 0 := rfl
    omega
 ·refine (sub_none gs gh gl o n c base i vS S L hi 5 nn rm tr ow ly sf nf cf (.slice sc nc cc) w K.h K.hH (fun k t h => hm ⟨k, t, h⟩)).mono fun e w' h => ?_
  refine .no hi 9 (by decide) ⟨fun h => by omega, fun h => by omega, fun _ ⟨k, t, e1, e2, ht, hne, q, hq, e3, e4⟩ _ => absurd ?_ hm⟩ h
  obtain ⟨hk, rfl⟩ := fst_get hq
  exact ⟨k, t, e1, e2, hk, ht, hne, fun _ => e3, e4⟩
theorem kPub (hi : i < L.length) (K : KIn base gs gh gl o n c i vS S L 3 nn rm tr ow ly sf nf cf F sc nc cc C w) (hiS : i < S.length) :
  Calls Try.prog 19 #[.pointer (some ⟨gs, 0, none⟩)] w (KPost base gs gh gl o n c i vS S L hi S[i] 3 nn rm tr ow ly sf nf cf F sc nc cc w) := by
 cases hb : pubB tr ly nf with
 | false => exact (pub_arg gs gh gl (o + i * 9) 3 (i : Nat) nn rm tr ow ly sf nf cf (.slice sc nc cc) (by have := K.hnf; omega) w K.h hb).mono fun e w' h => .no hi 1 (by decide) ⟨fun h => by omega, fun _ e => (by rw [hb] at e; cases e), fun h => by omega⟩ h
 | true =>
  have hb' := hb
  simp only [pubB, Bool.and_eq_true, decide_eq_true_eq] at hb'
  obtain ⟨⟨ht0, ht1⟩, ⟨⟨hl0, hl3⟩, hn1⟩, hn4⟩ := hb'
  obtain ⟨t, rfl, ht2⟩ : ∃ t : Nat, tr = (t : Int) ∧ (t = 0 ∨ t = 1) := ⟨tr.toNat, by omega, by omega⟩
  have h2 := K.m2 hi
  have hSi : S[i].length ≤ 1000 := by have := K.hS S[i] (List.getElem_mem hiS); omega
  refine (pub_ok gs gh gl o n c base i t vS S L hi hiS hSi ht2 ly hl0 hl3 3 nn rm ow sf nf cf hn1 hn4 F K.hF sc nc cc C K.hnc h2.2.1 h2.2.2 w K.hb K.h K.hH K.hq K.sq).mono fun e w' h => ?_
  rcases h with ⟨hc, h⟩ | ⟨hc, ⟨hd, h⟩ | ⟨hd, b, hbb, ⟨he, h⟩ | ⟨he, rfl, hP⟩⟩⟩
  ·exact .no hi 10 (by decide) ⟨fun h => by omega, fun _ _ e => (by rw [e] at hc; cases hc), fun h => by omega⟩ h
  ·exact .no hi 9 (by decide) ⟨fun h => by omega, fun _ _ _ e => (by rw [e] at hd; cases hd), fun h => by omega⟩ h
  ·exact .no hi 1 (by decide) ⟨fun h => by omega, fun _ _ _ _ e => (by rw [hbb e] at he; cases he), fun h => by omega⟩ h
  ·have hpl : (placesN S[i] F).length = nf := by unfold placesN; rw [List.length_map]; exact K.sq.1
   refine ⟨_, 0, (nf : Nat), rfl, by omega, by omega, ?_, ⟨fun h => by omega, fun _ _ _ _ _ => ⟨rfl, rfl, map_set_fst ..⟩, fun h => by omega⟩, .inr ⟨rfl, hP.q (by omega)⟩⟩
   rw [map_set_fst]
   refine .publish _ (by omega) (by simpa using hc) _ _ ?_
   show (placesN S[i] F).length ≤ 4
   omega
end
end Go.Proofs.Ytebeifkgjhgmeaa
