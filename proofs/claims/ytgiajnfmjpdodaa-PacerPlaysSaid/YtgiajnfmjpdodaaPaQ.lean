/- What is pushed and let out by one list, and by four: plain laws. No condition. -/
import Derived.Test.YtgiajnfmjpdodaaPaJ
namespace Go.Proofs.Ytgiajnfmjpdodaa
open Go.RowKit

abbrev PL := List (Int × List Nat)
def cl (L : PL) (i : Nat) : Int := (L.getD i (0, [])).1
def ofC (c : Nat) (L : PL) : List (List Nat) := (L.filter fun p => p.1 == (c : Int)).map fun p => p.2
structure QL (qs : List (List (List Nat))) (L : PL) : Prop where
  ql : qs.length = 4
  cls : ∀ p ∈ L, 0 ≤ p.1 ∧ p.1 < 4
  at_ : ∀ c, c < 4 → qs.getD c [] = ofC c L
theorem ofC_nil (c : Nat) : ofC c [] = [] := rfl
theorem ofC_app (c : Nat) (A B : PL) : ofC c (A ++ B) = ofC c A ++ ofC c B := by unfold ofC; rw [List.filter_append, List.map_append]
theorem ofC_cons (c : Nat) (p : Int × List Nat) (B : PL) : ofC c (p :: B) = if p.1 = (c : Int) then p.2 :: ofC c B else ofC c B := by
  unfold ofC
  by_cases h : p.1 = (c : Int)
  · rw [if_pos h, List.filter_cons, if_pos (by simpa using h), List.map_cons]
  · rw [if_neg h, List.filter_cons, if_neg (by simpa using h)]
theorem ofC_none (c : Nat) (A : PL) (h : ∀ p ∈ A, p.1 ≠ (c : Int)) : ofC c A = [] := by
  unfold ofC
  rw [List.filter_eq_nil_iff.2 (fun p hp => by have := h p hp; simpa using this)]; rfl
theorem ofC_some {c : Nat} {A : PL} (h : 0 < (ofC c A).length) : ∃ i, i < A.length ∧ cl A i = (c : Int) := by
  unfold ofC at h
  rw [List.length_map] at h
  obtain ⟨p, hp⟩ := List.exists_mem_of_length_pos h
  obtain ⟨h1, h2⟩ := List.mem_filter.1 hp
  obtain ⟨i, hi, e⟩ := List.mem_iff_getElem.1 h1
  refine ⟨i, hi, ?_⟩
  unfold cl
  rw [List.getD_eq_getElem?_getD, List.getElem?_eq_getElem hi]
  show A[i].1 = _
  rw [e]; simpa using h2
theorem cl_get {L : PL} {i : Nat} (h : i < L.length) : cl L i = L[i].1 := by
  unfold cl
  rw [List.getD_eq_getElem?_getD, List.getElem?_eq_getElem h]; rfl
theorem four (L : PL) (h : ∀ p ∈ L, 0 ≤ p.1 ∧ p.1 < 4) : (ofC 0 L).length + ((ofC 1 L).length + ((ofC 2 L).length + (ofC 3 L).length)) = L.length ∧ lnS (ofC 0 L) + (lnS (ofC 1 L) + (lnS (ofC 2 L) + lnS (ofC 3 L))) = lensL L := by
  induction L with
  | nil => exact ⟨rfl, rfl⟩
  | cons p L ih =>
    obtain ⟨i1, i2⟩ := ih fun q hq => h q (List.mem_cons_of_mem _ hq)
    obtain ⟨h1, h2⟩ := h p List.mem_cons_self
    have e : lensL (p :: L) = p.2.length + lensL L := rfl
    rw [ofC_cons, ofC_cons, ofC_cons, ofC_cons, e, List.length_cons]
    have hl : ∀ x l, lnS (x :: l) = x.length + lnS l := fun _ _ => rfl
    have hp : p.1 = 0 ∨ p.1 = 1 ∨ p.1 = 2 ∨ p.1 = 3 := by omega
    rcases hp with hp | hp | hp | hp <;> simp [hp, hl] <;> omega
theorem QL.mny {qs : List (List (List Nat))} {L : PL} (h : QL qs L) : mny qs = L.length := by
  rw [mny4 h.ql, h.at_ 0 (by omega), h.at_ 1 (by omega), h.at_ 2 (by omega), h.at_ 3 (by omega), (four L h.cls).1]
theorem QL.siz {qs : List (List (List Nat))} {L : PL} (h : QL qs L) : siz qs = lensL L := by
  rw [siz4 h.ql, h.at_ 0 (by omega), h.at_ 1 (by omega), h.at_ 2 (by omega), h.at_ 3 (by omega), (four L h.cls).2]
theorem QL.cl {qs : List (List (List Nat))} {L : PL} (h : QL qs L) {i : Nat} (hi : i < L.length) : 0 ≤ cl L i ∧ cl L i < 4 := by
  rw [cl_get hi]; exact h.cls _ (List.getElem_mem hi)
theorem split_at (L : PL) (a : Nat) (h : a < L.length) : L = L.take a ++ L[a] :: L.drop (a + 1) := by
  rw [← List.drop_eq_getElem_cons h, List.take_append_drop]
theorem mem_take_cl {L : PL} {a : Nat} {p : Int × List Nat} (h : p ∈ L.take a) (ha : a ≤ L.length) : ∃ j, j < a ∧ cl L j = p.1 := by
  obtain ⟨j, hj, e⟩ := List.mem_iff_getElem.1 h
  rw [List.length_take] at hj
  refine ⟨j, by omega, ?_⟩
  rw [cl_get (by omega)]
  rw [List.getElem_take] at e
  rw [e]
theorem mem_drop_cl {L : PL} {a : Nat} {p : Int × List Nat} (h : p ∈ L.drop a) : ∃ j, a ≤ j ∧ j < L.length ∧ cl L j = p.1 := by
  obtain ⟨j, hj, e⟩ := List.mem_iff_getElem.1 h
  rw [List.length_drop] at hj
  refine ⟨a + j, by omega, by omega, ?_⟩
  rw [cl_get (by omega)]
  rw [List.getElem_drop] at e
  rw [e]
theorem QL.sub {qs qs' : List (List (List Nat))} {L L' : PL} (h : QL qs L) (hq : qs'.length = 4) (hs : ∀ p ∈ L', p ∈ L) (ha : ∀ c, c < 4 → qs'.getD c [] = ofC c L') : QL qs' L' := ⟨hq, fun p hp => h.cls p (hs p hp), ha⟩

/-- The place of the newest one of the greatest class above one, of the first n. -/
def lastR (above : Int) (L : PL) : Nat → Option Nat
  | 0 => none
  | i + 1 => match lastR above L i with
    | none => if above < cl L i then some i else none
    | some a => if above < cl L i ∧ cl L a ≤ cl L i then some i else some a
def LastIs (above : Int) (L : PL) (n : Nat) : Option Nat → Prop
  | none => ∀ j, j < n → cl L j ≤ above
  | some a => a < n ∧ above < cl L a ∧ ∀ j, j < n → above < cl L j → cl L j ≤ cl L a ∧ (a < j → cl L j < cl L a)
theorem lastR_is (above : Int) (L : PL) : ∀ n, LastIs above L n (lastR above L n)
  | 0 => fun j hj => by omega
  | n + 1 => by
    have ih := lastR_is above L n
    unfold lastR
    cases h : lastR above L n with
    | none =>
      rw [h] at ih
      dsimp only
      by_cases hc : above < _root_.Go.Proofs.Ytgiajnfmjpdodaa.cl L n
      · rw [if_pos hc]
        refine ⟨by omega, hc, fun j hj h1 => ?_⟩
        by_cases e : j = n
        · subst e; exact ⟨by omega, fun h => by omega⟩
        · have := ih j (by omega); omega
      · rw [if_neg hc]
        intro j hj
        by_cases e : j = n
        · subst e; omega
        · exact ih j (by omega)
    | some a =>
      rw [h] at ih
      obtain ⟨i1, i2, i3⟩ := ih
      dsimp only
      by_cases hc : above < _root_.Go.Proofs.Ytgiajnfmjpdodaa.cl L n ∧ _root_.Go.Proofs.Ytgiajnfmjpdodaa.cl L a ≤ _root_.Go.Proofs.Ytgiajnfmjpdodaa.cl L n
      · rw [if_pos hc]
        refine ⟨by omega, hc.1, fun j hj h1 => ?_⟩
        by_cases e : j = n
        · subst e; exact ⟨by omega, fun h => by omega⟩
        · have := i3 j (by omega) h1; exact ⟨by omega, fun h => by omega⟩
      · rw [if_neg hc]
        refine ⟨by omega, i2, fun j hj h1 => ?_⟩
        by_cases e : j = n
        · subst e; exact ⟨by omega, fun h => by omega⟩
        · exact i3 j (by omega) h1
def fitsB (pk by_ : Int) (L : PL) (n : Nat) : Bool := decide ((L.length : Int) + 1 ≤ pk ∧ (lensL L : Int) + n ≤ by_)
theorem room_fits {S : PcS} {L : PL} (h : QL S.qs L) (n : Nat) : roomB S 0 0 n = fitsB S.packets S.bytes L n := by
  unfold roomB fitsB
  have h1 := h.mny
  have h2 := h.siz
  rw [h1, h2]
  congr 1
  exact propext ⟨fun h => ⟨by omega, by omega⟩, fun h => ⟨by omega, by omega, by omega⟩⟩
def tryR (pk by_ : Int) (n : Nat) (c : Int) : Nat → PL → Nat → Option (PL × Nat)
  | 0, _, _ => none
  | f + 1, L, g => if fitsB pk by_ L n = true then some (L, g) else match lastR c L L.length with
    | none => none
    | some a => tryR pk by_ n c f (L.eraseIdx a) (g + 1)
def rp2 (o : Option (PL × Nat)) (L : PL) (gone : Nat) (cls : Int) (b : List Nat) : Nat × PL × Nat := match o with
  | none => (6, L, gone)
  | some (L', g) => (0, L' ++ [(cls, b)], gone + g)
def rpushN (burst pk by_ : Int) (L : PL) (gone : Nat) (cls : Int) (b : List Nat) : Nat × PL × Nat :=
  if cls < 0 ∨ 3 < cls ∨ b.length = 0 then (1, L, gone)
  else if burst < b.length then (8, L, gone)
  else rp2 (tryR pk by_ b.length cls (L.length + 1) L 0) L gone cls b
theorem sub_erase {L : PL} {a : Nat} : ∀ p ∈ L.eraseIdx a, p ∈ L := fun p hp => (List.eraseIdx_sublist L a).subset hp
theorem last_drop {S : PcS} {L : PL} (h : QL S.qs L) {c : Nat} {a : Nat} (hl : lastR (c : Int) L L.length = some a) : topC S.qs < 4 ∧ c < topC S.qs ∧ a < L.length ∧ 0 < (S.qs.getD (topC S.qs) []).length ∧ QL (dropS S (topC S.qs)).qs (L.eraseIdx a) := by
  have hi := lastR_is (c : Int) L L.length
  rw [hl] at hi
  obtain ⟨i1, i2, i3⟩ := hi
  have hm : 0 < _root_.Go.Proofs.Ytgiajnfmjpdodaa.mny S.qs := by rw [h.mny]; omega
  obtain ⟨t1, t2, t3⟩ := topC_spec h.ql hm
  obtain ⟨b0, b1⟩ := h.cl i1
  obtain ⟨d, hd⟩ : ∃ d : Nat, cl L a = (d : Int) := ⟨(cl L a).toNat, by omega⟩
  have hd4 : d < 4 := by omega
  have hsp := split_at L a i1
  have hca : (L[a]).1 = (d : Int) := by rw [← cl_get i1, hd]
  have hlate : ofC d (L.drop (a + 1)) = [] := ofC_none _ _ fun p hp e => by
    obtain ⟨j, j1, j2, j3⟩ := mem_drop_cl hp
    have := (i3 j j2 (by omega)).2 (by omega)
    omega
  have hd1 : ofC d L = ofC d (L.take a) ++ [L[a].2] := by
    conv => lhs; rw [hsp]
    rw [ofC_app, ofC_cons, if_pos hca, hlate]
  have hdt : d = topC S.qs := by
    have e1 : d ≤ topC S.qs := by
      refine Nat.le_of_not_lt fun hlt => ?_
      have := t3 d hlt hd4
      rw [h.at_ d hd4, hd1, List.length_append] at this
      simp at this
    have e2 : topC S.qs ≤ d := by
      rw [h.at_ _ t1] at t2
      obtain ⟨j, j1, j2⟩ := ofC_some t2
      by_cases hx : (c : Int) < cl L j
      · have := (i3 j j1 hx).1; omega
      · omega
    omega
  refine ⟨t1, by omega, i1, t2, h.sub (by show (S.qs.set _ _).length = 4; rw [List.length_set]; exact h.ql) sub_erase fun e he => ?_⟩
  show (S.qs.set _ _).getD e [] = _
  rw [getD_set _ _ _ _ _ (by rw [h.ql]; exact t1), List.eraseIdx_eq_take_drop_succ, ofC_app]
  by_cases e1 : e = topC S.qs
  · rw [if_pos e1, e1, h.at_ _ t1, ← hdt, hd1, hlate, List.length_append, List.append_nil]
    show List.take (_ + 1 - 1) _ = _
    rw [Nat.add_sub_cancel, List.take_left']; rfl
  · rw [if_neg e1, h.at_ e he]
    conv => lhs; rw [hsp]
    rw [ofC_app, ofC_cons, if_neg (by rw [hca]; omega)]
theorem try_same (n c : Nat) (hc : c < 4) : ∀ (f : Nat) (S : PcS) (L : PL) (g : Nat), QL S.qs L → L.length < f →
    (roomB S (mny (S.qs.drop (c + 1))) (siz (S.qs.drop (c + 1))) n = true → ∃ L' g', tryR S.packets S.bytes n (c : Int) f L g = some (L', g') ∧ QL (dropsN n (mny S.qs) S).qs L' ∧ (dropsN n (mny S.qs) S).gone + g = S.gone + g') ∧
    (roomB S (mny (S.qs.drop (c + 1))) (siz (S.qs.drop (c + 1))) n = false → tryR S.packets S.bytes n (c : Int) f L g = none)
  | 0, _, _, _, _, hf => by omega
  | f + 1, S, L, g, h, hf => by
    have hrf := room_fits h n
    unfold tryR
    cases h0 : fitsB S.packets S.bytes L n with
    | true =>
      rw [h0] at hrf
      rw [if_pos rfl]
      refine ⟨fun _ => ⟨L, g, rfl, ?_, ?_⟩, fun hr => ?_⟩
      · rw [dropsN_room hrf]; exact h
      · rw [dropsN_room hrf]
      · exfalso
        have e1 := of_decide_eq_true hrf
        have e2 := of_decide_eq_false hr
        omega
    | false =>
      rw [h0] at hrf
      rw [if_neg (by decide)]
      cases hl : lastR (c : Int) L L.length with
      | none =>
        have hi := lastR_is (c : Int) L L.length
        rw [hl] at hi
        have hno : mny (S.qs.drop (c + 1)) = 0 := by
          refine Nat.le_antisymm (Nat.le_of_not_lt fun hp => ?_) (Nat.zero_le _)
          have ht := topC_up h.ql c hc hp
          have hm : 0 < mny S.qs := Nat.lt_of_lt_of_le hp (mny_drop _ _)
          obtain ⟨t1, t2, _⟩ := topC_spec h.ql hm
          rw [h.at_ _ t1] at t2
          obtain ⟨j, j1, j2⟩ := ofC_some t2
          have := hi j j1
          omega
        refine ⟨fun hr => ?_, fun _ => rfl⟩
        have := room_more hr hrf
        omega
      | some a =>
        obtain ⟨t1, t2, t3, t4, hq⟩ := last_drop h hl
        have ih := try_same n c hc f (dropS S (topC S.qs)) (L.eraseIdx a) (g + 1) hq (by rw [List.length_eraseIdx, if_pos t3]; omega)
        have hdm := dropS_mny h.ql t1 t4
        have hup : roomB (dropS S (topC S.qs)) (mny ((dropS S (topC S.qs)).qs.drop (c + 1))) (siz ((dropS S (topC S.qs)).qs.drop (c + 1))) n = roomB S (mny (S.qs.drop (c + 1))) (siz (S.qs.drop (c + 1))) n := by
          rw [roomB_up, roomB_up, dropS_take (by omega)]; rfl
        rw [hup] at ih
        refine ⟨fun hr => ?_, fun hr => ih.2 hr⟩
        obtain ⟨L', g', e1, e2, e3⟩ := ih.1 hr
        have hdr : dropsN n (mny S.qs) S = dropsN n (mny (dropS S (topC S.qs)).qs) (dropS S (topC S.qs)) := by
          rw [← hdm]
          conv => lhs; unfold dropsN
          rw [if_neg (by rw [hrf]; decide)]
        refine ⟨L', g', e1, by rw [hdr]; exact e2, ?_⟩
        rw [hdr]
        have e4 : (dropS S (topC S.qs)).gone = S.gone + 1 := rfl
        omega
theorem push_same (S : PcS) (L : PL) (h : QL S.qs L) (cls : Int) (b : List Nat) :
    (pushN S cls b).1 = (rpushN S.burst S.packets S.bytes L S.gone cls b).1 ∧ QL (pushN S cls b).2.qs (rpushN S.burst S.packets S.bytes L S.gone cls b).2.1 ∧ (pushN S cls b).2.gone = (rpushN S.burst S.packets S.bytes L S.gone cls b).2.2 := by
  unfold pushN rpushN
  by_cases h1 : cls < 0 ∨ 4 ≤ cls ∨ b.length = 0
  · rw [if_pos h1, if_pos (by omega)]; exact ⟨rfl, h, rfl⟩
  rw [if_neg h1, if_neg (by omega : ¬ (cls < 0 ∨ 3 < cls ∨ b.length = 0))]
  by_cases h2 : S.burst < b.length
  · rw [if_pos h2, if_pos h2]; exact ⟨rfl, h, rfl⟩
  rw [if_neg h2, if_neg h2]
  obtain ⟨c, rfl⟩ : ∃ c : Nat, cls = (c : Int) := ⟨cls.toNat, by omega⟩
  have hc : c < 4 := by omega
  have ht := try_same b.length c hc (L.length + 1) S L 0 h (by omega)
  rw [Int.toNat_natCast]
  cases hr : roomB S (mny (S.qs.drop (c + 1))) (siz (S.qs.drop (c + 1))) b.length with
  | false => rw [if_pos rfl, ht.2 hr]; exact ⟨rfl, h, rfl⟩
  | true =>
    obtain ⟨L', g', e1, e2, e3⟩ := ht.1 hr
    rw [if_neg (by decide), e1]
    dsimp only [rp2]
    generalize dropsN b.length (mny S.qs) S = T at *
    refine ⟨rfl, ⟨by rw [List.length_set]; exact e2.ql, fun p hp => ?_, fun d hd => ?_⟩, by omega⟩
    · rcases List.mem_append.1 hp with hp | hp
      · exact e2.cls p hp
      · obtain rfl : p = ((c : Int), b) := by simpa using hp
        exact ⟨by show (0 : Int) ≤ c; omega, by show (c : Int) < 4; omega⟩
    · rw [getD_set _ _ _ _ _ (by rw [e2.ql]; exact hc), ofC_app, ofC_cons, ofC_nil]
      by_cases e : d = c
      · rw [if_pos e, e, e2.at_ c hc, if_pos rfl]
      · rw [if_neg e, e2.at_ d hd, if_neg (by show ¬ (c : Int) = d; omega), List.append_nil]
end Go.Proofs.Ytgiajnfmjpdodaa
