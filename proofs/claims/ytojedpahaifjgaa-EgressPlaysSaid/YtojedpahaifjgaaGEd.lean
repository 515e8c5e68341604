/- A ring in order, and packets as they came: plain laws. No condition. The reference's ring: At, Size, Least, drop. No condition but the sizes'. The reference's ring: drop. No condition but the sizes'. -/
import Derived.Test.YtojedpahaifjgaaGEc
import Derived.Test.YtojedpahaifjgaaArB
import Derived.Test.YtojedpahaifjgaaBst
import Derived.Test.YtojedpahaifjgaaGEe
namespace Go.Proofs.Ytojedpahaifjgaa
open Go.RowKit
def atI : Option Nat → Int
 | none => -1
 | some a => (a : Nat)
def atR (M : PL) (x : Int) : Nat → Nat → Option Nat
 | _, 0 => none
 | k, f + 1 => if cl M k = x then some k else atR M x (k + 1) f
def atN (M : PL) (x : Int) : Option Nat := atR M x 0 M.length
theorem atR_spec (M : PL) (x : Int) : ∀ (f k : Nat), match atR M x k f with
  | none => ∀ j, k ≤ j → j < k + f → cl M j ≠ x
  | some a => k ≤ a ∧ a < k + f ∧ cl M a = x
 | 0, k => fun j h1 h2 => by omega
 | f + 1, k => by
  have ih := atR_spec M x f (k + 1)
  unfold atR
  by_cases h : cl M k = x
  ·rw [if_pos h]; exact ⟨Nat.le_refl _, by omega, h⟩
  ·rw [if_neg h]
   cases hr : atR M x (k + 1) f with
   | none =>
    rw [hr] at ih
    intro j h1 h2
    by_cases e : j = k
    ·rw [e]; exact h
    ·exact ih j (by omega) (by omega)
   | some a =>
    rw [hr] at ih
    exact ⟨by omega, by omega, ih.2.2⟩
def leastR (M : PL) : Nat → Option Nat
 | 0 => none
 | k + 1 => match leastR M k with
  | none => some k
  | some a => if cl M k < cl M a then some k else some a
theorem leastR_spec (M : PL) : ∀ k, match leastR M k with
  | none => k = 0
  | some a => a < k ∧ ∀ j, j < k → cl M a ≤ cl M j
 | 0 => rfl
 | k + 1 => by
  have ih := leastR_spec M k
  unfold leastR
  cases hr : leastR M k with
  | none =>
   rw [hr] at ih
   have ih' : k = 0 := ih
   subst ih'
   exact ⟨by omega, fun j hj => by obtain rfl : j = 0 := (by omega); exact Int.le_refl _⟩
  | some a =>
   rw [hr] at ih
   dsimp only
   by_cases h : cl M k < cl M a
   ·rw [if_pos h]
    refine ⟨by omega, fun j hj => ?_⟩
    by_cases e : j = k
    ·rw [e]; exact Int.le_refl _
    ·have := ih.2 j (by omega); omega
   ·rw [if_neg h]
    refine ⟨by have := ih.1; omega, fun j hj => ?_⟩
    by_cases e : j = k
    ·rw [e]; omega
    ·exact ih.2 j (by omega)
def trimR (pk by_ : Int) : Nat → PL → PL
 | 0, M => M
 | f + 1, M => if pk < (M.length : Nat) ∨ by_ < (lensL M : Nat) then match leastR M M.length with
   | none => M
   | some a => trimR pk by_ f (M.eraseIdx a)
  else M
def rputN (pk by_ : Int) (M : PL) (x : Int) (b : List Nat) : Nat × PL :=
 if x < 0 then (1, M) else if by_ < (b.length : Nat) then (8, M)
 else if (atN M x).isSome = true ∨ ((M.length : Int) = pk ∧ x < cl M ((leastR M M.length).getD 0)) then (5, M)
 else (0, trimR pk by_ (M.length + 1) (M ++ [(x, b)]))
structure SP (L M : PL) : Prop where
 srt : L.Pairwise fun a b => a.1 < b.1
 perm : L.Perm M
theorem SP.len {L M : PL} (h : SP L M) : L.length = M.length := h.perm.length_eq
theorem lensL_perm {L M : PL} (h : L.Perm M) : lensL L = lensL M := by
 induction h with
 | nil => rfl
 | cons p _ ih => show p.2.length + lensL _ = p.2.length + lensL _; rw [ih]
 | swap p q l => show q.2.length + (p.2.length + lensL l) = p.2.length + (q.2.length + lensL l); omega
 | trans _ _ h1 h2 => exact h1.trans h2
theorem split_atM (L : PL) (a : Nat) (h : a < L.length) : L = L.take a ++ L[a] :: L.drop (a + 1) := by
 rw [← List.drop_eq_getElem_cons h, List.take_append_drop]
theorem least_of {p : Int × List Nat} {L M : PL} (h : SP (p :: L) M) : ∃ a, leastR M M.length = some a ∧ ∃ ha : a < M.length, M[a] = p ∧ cl M a = p.1 ∧ SP L (M.eraseIdx a) ∧ (M.eraseIdx a).length = L.length := by
 have hs := leastR_spec M M.length
 have hl := h.len
 cases hr : leastR M M.length with
 | none => rw [hr] at hs; have hs' : M.length = 0 := hs; rw [hs'] at hl; simp at hl
 | some a =>
  rw [hr] at hs
  obtain ⟨ha, hmin⟩ := hs
  have hp : M[a] = p := by
   have h1 : M[a] ∈ p :: L := h.perm.mem_iff.2 (List.getElem_mem ha)
   rcases List.mem_cons.1 h1 with e | e
   ·exact e
   ·exfalso
    have h2 : p ∈ M := h.perm.mem_iff.1 List.mem_cons_self
    obtain ⟨j, hj, ej⟩ := List.mem_iff_getElem.1 h2
    have h3 := hmin j hj
    rw [cl_get ha, cl_get hj, ej] at h3
    have h4 := (List.pairwise_cons.1 h.srt).1 _ e
    omega
  refine ⟨a, rfl, ha, hp, by rw [cl_get ha, hp], ⟨(List.pairwise_cons.1 h.srt).2, ?_⟩, ?_⟩
  ·have h1 : M.Perm (p :: M.eraseIdx a) := by
    conv => lhs; rw [split_atM M a ha]
    rw [hp, List.eraseIdx_eq_take_drop_succ]
    exact List.perm_middle
   exact (h.perm.trans h1).cons_inv
  ·rw [List.length_eraseIdx, if_pos ha, ← hl]; rfl
theorem SP.nil_right {M : PL} (h : SP [] M) : M = [] := List.eq_nil_of_length_eq_zero h.len.symm
theorem trim_same (pk by_ : Int) : ∀ (L M : PL), SP L M → SP (trimN pk by_ L) (trimR pk by_ M.length M)
 | [], M, h => by
  obtain rfl := h.nil_right
  exact h
 | p :: L, M, h => by
  obtain ⟨a, h1, ha, hp, hc, h2, h3⟩ := least_of h
  have hl := h.len
  have hlen := lensL_perm h.perm
  rw [← hl, List.length_cons]
  unfold trimN trimR
  rw [← hlen, ← hl, List.length_cons]
  by_cases ht : pk < ((L.length + 1 : Nat) : Int) ∨ by_ < ((lensL (p :: L) : Nat) : Int)
  ·rw [if_pos ht, if_pos ht]
   rw [← hl, List.length_cons] at h1
   rw [h1]
   have := trim_same pk by_ L (M.eraseIdx a) h2
   rw [h3] at this
   exact this
  ·rw [if_neg ht, if_neg ht]; exact h
theorem lowN_cons (p : Int × List Nat) (L : PL) (x : Int) : lowN (p :: L) x = if p.1 < x then lowN L x + 1 else 0 := by
 unfold lowN
 by_cases h : p.1 < x
 ·rw [if_pos h, List.takeWhile_cons, if_pos (by simpa using h)]; rfl
 ·rw [if_neg h, List.takeWhile_cons, if_neg (by simpa using h)]; rfl
theorem low_split {L : PL} {x : Int} (h : L.Pairwise fun a b => a.1 < b.1) : (∀ p ∈ L.take (lowN L x), p.1 < x) ∧ (∀ p ∈ L.drop (lowN L x), x ≤ p.1) := by
 induction L with
 | nil => exact ⟨fun p hp => by simp at hp, fun p hp => by simp at hp⟩
 | cons q L ih =>
  obtain ⟨h1, h2⟩ := List.pairwise_cons.1 h
  rw [lowN_cons]
  by_cases ht : q.1 < x
  ·rw [if_pos ht, List.take_succ_cons, List.drop_succ_cons]
   obtain ⟨i1, i2⟩ := ih h2
   exact ⟨fun p hp => by rcases List.mem_cons.1 hp with rfl | hp; exact ht; exact i1 p hp, i2⟩
  ·rw [if_neg ht]
   refine ⟨fun p hp => by simp at hp, fun p hp => ?_⟩
   rcases List.mem_cons.1 (by simpa using hp) with rfl | hp
   ·omega
   ·have := h1 p hp; omega
theorem isAt_iff {L : PL} {x : Int} (h : L.Pairwise fun a b => a.1 < b.1) : isAt L x = true ↔ ∃ p ∈ L, p.1 = x := by
 obtain ⟨s1, s2⟩ := low_split (x := x) h
 unfold isAt
 refine ⟨fun ht => ?_, fun ⟨p, hp, e⟩ => ?_⟩
 ·obtain ⟨k1, k2⟩ := of_decide_eq_true ht
  exact ⟨L[lowN L x], List.getElem_mem k1, by rw [← cl_get k1]; exact k2⟩
 ·rw [← List.take_append_drop (lowN L x) L] at hp
  rcases List.mem_append.1 hp with hp | hp
  ·have := s1 p hp; omega
  ·have hk : lowN L x < L.length := by
    have := List.length_pos_of_mem hp
    rw [List.length_drop] at this; omega
   refine decide_eq_true ⟨hk, ?_⟩
   rw [cl_get hk]
   have hd := List.drop_eq_getElem_cons hk
   rw [hd] at hp s2
   have h0 := s2 _ List.mem_cons_self
   rcases List.mem_cons.1 hp with rfl | hp
   ·exact e
   ·have hpw : (L.drop (lowN L x)).Pairwise fun a b => a.1 < b.1 := h.sublist (List.drop_sublist _ _)
    rw [hd] at hpw
    have := (List.pairwise_cons.1 hpw).1 p hp
    omega
theorem atN_some {M : PL} {x : Int} {a : Nat} (h : atN M x = some a) : a < M.length ∧ cl M a = x := by
 have := atR_spec M x M.length 0
 unfold atN at h
 rw [h] at this
 exact ⟨by omega, this.2.2⟩
theorem atN_iff {M : PL} {x : Int} : (atN M x).isSome = true ↔ ∃ p ∈ M, p.1 = x := by
 have hsp := atR_spec M x M.length 0
 cases h : atN M x with
 | none =>
  unfold atN at h
  rw [h] at hsp
  refine ⟨(fun h => by cases h), fun ⟨p, hp, e⟩ => ?_⟩
  obtain ⟨j, hj, ej⟩ := List.mem_iff_getElem.1 hp
  have := hsp j (by omega) (by omega)
  rw [cl_get hj, ej] at this
  exact absurd e this
 | some a =>
  obtain ⟨h1, h2⟩ := atN_some h
  exact ⟨fun _ => ⟨M[a], List.getElem_mem h1, by rw [← cl_get h1]; exact h2⟩, fun _ => rfl⟩
theorem at_same {L M : PL} (h : SP L M) (x : Int) : isAt L x = (atN M x).isSome := by
 have h1 := isAt_iff (x := x) h.srt
 have h2 := atN_iff (M := M) (x := x)
 have h3 : (∃ p ∈ L, p.1 = x) ↔ ∃ p ∈ M, p.1 = x := ⟨fun ⟨p, hp, e⟩ => ⟨p, h.perm.mem_iff.1 hp, e⟩, fun ⟨p, hp, e⟩ => ⟨p, h.perm.mem_iff.2 hp, e⟩⟩
 rw [Bool.eq_iff_iff, h1, h2, h3]
theorem key_one {L : PL} (h : L.Pairwise fun a b => a.1 < b.1) {p q : Int × List Nat} (hp : p ∈ L) (hq : q ∈ L) (e : p.1 = q.1) : p = q := by
 induction L with
 | nil => cases hp
 | cons r L ih =>
  obtain ⟨h1, h2⟩ := List.pairwise_cons.1 h
  rcases List.mem_cons.1 hp with e1 | hp'
  ·rcases List.mem_cons.1 hq with e2 | hq'
   ·rw [e1, e2]
   ·have := h1 q hq'; rw [e1] at e; omega
  ·rcases List.mem_cons.1 hq with e2 | hq'
   ·have := h1 p hp'; rw [e2] at e; omega
   ·exact ih h2 hp' hq'
theorem get_same {L M : PL} (h : SP L M) {x : Int} {a : Nat} (ha : atN M x = some a) : ∃ hl : a < M.length, getN L x = (M[a]).2 := by
 obtain ⟨h1, h2⟩ := atN_some ha
 refine ⟨h1, ?_⟩
 have hi : isAt L x = true := by rw [at_same h, ha]; rfl
 have hk := of_decide_eq_true hi
 unfold getN
 rw [hi, if_pos rfl, List.getD_eq_getElem?_getD, List.getElem?_eq_getElem hk.1]
 show (L[lowN L x]).2 = _
 rw [key_one h.srt (List.getElem_mem hk.1) (h.perm.mem_iff.2 (List.getElem_mem h1)) (by rw [← cl_get hk.1, ← cl_get h1, hk.2, h2])]
theorem ins_same {L M : PL} (h : SP L M) {x : Int} (b : List Nat) (hn : isAt L x = false) : SP (insN L x b) (M ++ [(x, b)]) := by
 obtain ⟨s1, s2⟩ := low_split (x := x) h.srt
 have hno : ∀ p ∈ L, p.1 ≠ x := fun p hp e => by
  have := (isAt_iff (x := x) h.srt).2 ⟨p, hp, e⟩
  rw [hn] at this; cases this
 have hpw : (L.take (lowN L x) ++ L.drop (lowN L x)).Pairwise fun a b => a.1 < b.1 := by rw [List.take_append_drop]; exact h.srt
 obtain ⟨q1, q2, q3⟩ := List.pairwise_append.1 hpw
 refine ⟨?_, ?_⟩
 ·unfold insN
  rw [List.append_assoc]
  refine List.pairwise_append.2 ⟨q1, List.pairwise_append.2 ⟨List.pairwise_singleton _ _, q2, fun p hp q hq => ?_⟩, fun p hp q hq => ?_⟩
  ·obtain rfl : p = (x, b) := by simpa using hp
   have h1 := s2 q hq
   have h2 := hno q (List.mem_of_mem_drop hq)
   show x < q.1
   omega
  ·rcases List.mem_append.1 hq with hq | hq
   ·obtain rfl : q = (x, b) := by simpa using hq
    exact s1 p hp
   ·exact q3 p hp q hq
 ·unfold insN
  rw [List.append_assoc]
  have h1 : (L.take (lowN L x) ++ ([(x, b)] ++ L.drop (lowN L x))).Perm ((x, b) :: (L.take (lowN L x) ++ L.drop (lowN L x))) := List.perm_middle
  rw [List.take_append_drop] at h1
  exact h1.trans ((h.perm.cons (x, b)).trans (List.perm_append_comm (l₁ := [(x, b)]) (l₂ := M)))
theorem put_same {L M : PL} (h : SP L M) (pk by_ x : Int) (b : List Nat) (hp : 1 ≤ pk) : (putN pk by_ L x b).1 = (rputN pk by_ M x b).1 ∧ SP (putN pk by_ L x b).2 (rputN pk by_ M x b).2 := by
 unfold putN rputN
 by_cases h1 : x < 0
 ·rw [if_pos h1, if_pos h1]; exact ⟨rfl, h⟩
 rw [if_neg h1, if_neg h1]
 by_cases h2 : by_ < (b.length : Nat)
 ·rw [if_pos h2, if_pos h2]; exact ⟨rfl, h⟩
 rw [if_neg h2, if_neg h2, at_same h]
 have hiff : ((atN M x).isSome = true ∨ (lowN L x = 0 ∧ (L.length : Int) = pk)) ↔ ((atN M x).isSome = true ∨ ((M.length : Int) = pk ∧ x < cl M ((leastR M M.length).getD 0))) := by
  rw [h.len]
  cases hs : (atN M x).isSome with
  | true => simp
  | false =>
   have hno : ∀ p ∈ L, p.1 ≠ x := fun p hp e => by
    have := (isAt_iff (x := x) h.srt).2 ⟨p, hp, e⟩
    rw [at_same h, hs] at this; cases this
   refine ⟨fun hh => ?_, fun hh => ?_⟩
   ·rcases hh with hh | ⟨e1, e2⟩
    ·cases hh
    ·right
     cases L with
     | nil => have := h.len; simp at this; omega
     | cons p L =>
      obtain ⟨a, k1, ka, kp, kc, _, _⟩ := least_of h
      rw [lowN_cons] at e1
      have hpx : ¬ p.1 < x := fun hl => by rw [if_pos hl] at e1; omega
      have := hno p List.mem_cons_self
      refine ⟨e2, ?_⟩
      rw [k1]
      show x < cl M a
      rw [kc]; omega
   ·rcases hh with hh | ⟨e2, e1⟩
    ·cases hh
    ·right
     cases L with
     | nil => exact ⟨rfl, e2⟩
     | cons p L =>
      obtain ⟨a, k1, ka, kp, kc, _, _⟩ := least_of h
      rw [k1] at e1
      have e3 : x < cl M a := e1
      rw [kc] at e3
      refine ⟨?_, e2⟩
      rw [lowN_cons, if_neg (by omega)]
 by_cases h3 : (atN M x).isSome = true ∨ (lowN L x = 0 ∧ (L.length : Int) = pk)
 ·rw [if_pos h3, if_pos (hiff.1 h3)]; exact ⟨rfl, h⟩
 ·rw [if_neg h3, if_neg (fun hh => h3 (hiff.2 hh))]
  refine ⟨rfl, ?_⟩
  have hn : isAt L x = false := by
   rw [at_same h]
   cases hs : (atN M x).isSome with
   | true => exact absurd (.inl hs) h3
   | false => rfl
  have := trim_same pk by_ _ _ (ins_same h b hn)
  rw [List.length_append, List.length_singleton] at this
  exact this
end Go.Proofs.Ytojedpahaifjgaa

namespace Go.Proofs.Ytojedpahaifjgaa
open Go.RowKit
theorem bstr_size (l : List Nat) : (bstr l).size = l.length := by unfold bstr; rw [strOfNums_size, List.length_map]
def S1 : Elt (List Nat) where
 size := 1
 R := fun _ _ a c => c = [.string (bstr a)]
 Ok := fun _ _ => True
 pos := by decide
 len := fun e => by rw [e]; rfl
 one := fun e u hu => by rw [e] at hu; simp at hu; rw [hu]; rfl
 bw := fun e _ => e
 up := fun e _ => e
 still := fun e _ _ => e
 old := fun e _ _ => e
theorem slStr : SlTy Try.prog 88 9 1 16 := SlTy.mk' Try.underlying88 (by kernel_rfl) (by decide)
theorem s1_form {T : TypeId} {w : World} {base : Nat} {sv : Option Addr} {n cap : Nat} {L : List (List Nat)} (h : EQ S1 T w base (.slice sv n cap) n L) (h0 : 0 < n) :
  ∃ g o, sv = some ⟨g, o, none⟩ ∧ ∀ i (hi : i < L.length), w.cell? ⟨g, o + i, none⟩ = some (.string (bstr L[i])) := by
 obtain ⟨g, o, cap', hsl, _, _, _, _, hce⟩ := h.form h0
 simp only [Value.slice.injEq] at hsl
 refine ⟨g, o, hsl.1, fun i hi => ?_⟩
 obtain ⟨c, hc, hcc⟩ := hce i hi
 have hc' : c = [.string (bstr L[i])] := hc
 have z0 := hcc 0 (by decide)
 have e2 : S1.size = 1 := rfl
 rw [hc', e2, Nat.mul_one] at z0
 exact z0
structure RefV (w : World) (base g : Nat) (pk by_ : Int) (vi vb : Value) (M : PL) : Prop where
 cells : HpB w g (.cells #[.int .i64 pk, .int .i64 by_, vi, vb] 99)
 qi : EQ I1 2 w base vi M.length (M.map Prod.fst)
 qb : EQ S1 9 w base vb M.length (M.map Prod.snd)
theorem RefV.bw {w w' : World} {base g : Nat} {pk by_ : Int} {vi vb : Value} {M : PL} (h : RefV w base g pk by_ vi vb M) (hb : BW w w') : RefV w' base g pk by_ vi vb M := ⟨h.cells.bw hb, h.qi.bw hb, h.qb.bw hb⟩
theorem RefV.i_form {w : World} {base g : Nat} {pk by_ : Int} {sv : Option Addr} {n cap : Nat} {vb : Value} {M : PL} (h : RefV w base g pk by_ (.slice sv n cap) vb M) (hn : M.length = n) (h0 : 0 < n) : ∃ b o, sv = some ⟨b, o, none⟩ ∧ ∀ i, i < n → w.cell? ⟨b, o + i, none⟩ = some (.int .i64 (cl M i)) := by
 subst hn
 obtain ⟨b, o, e, hc⟩ := i1_form h.qi h0
 refine ⟨b, o, e, fun i hi => ?_⟩
 have := hc i (by simpa using hi)
 rw [List.getElem_map, ← cl_get hi] at this
 exact this
theorem RefV.b_form {w : World} {base g : Nat} {pk by_ : Int} {sv : Option Addr} {n cap : Nat} {vi : Value} {M : PL} (h : RefV w base g pk by_ vi (.slice sv n cap) M) (hn : M.length = n) (h0 : 0 < n) : ∃ b o, sv = some ⟨b, o, none⟩ ∧ ∀ i (hi : i < M.length), w.cell? ⟨b, o + i, none⟩ = some (.string (bstr (M[i]).2)) := by
 subst hn
 obtain ⟨b, o, e, hc⟩ := s1_form h.qb h0
 refine ⟨b, o, e, fun i hi => ?_⟩
 have := hc i (by simpa using hi)
 rw [List.getElem_map] at this
 exact this
set_option maxRecDepth 100000 in
set_option maxHeartbeats 8000000 in
theorem rat_any (base g : Nat) (pk by_ : Int) (vi vb : Value) (M : PL) (x : Int) (w : World) (h : RefV w base g pk by_ vi vb M) :
  Calls Try.prog 54 #[.pointer (some ⟨g, 0, none⟩), .int .i64 x] w fun e w' => e = .returned (.int .i64 (atI (atN M x))) ∧ w = w' := by
 obtain ⟨sv, cv, rfl, hnc, hmc⟩ := h.qi.len
 have z2 : w.cell? ⟨g, 2, none⟩ = some (.slice sv M.length cv) := hp_cell h.cells 2
 have hH := Lib.hid h
 unfold maxLen at hmc
 clear h
 generalize hn : M.length = n at *
 have hR : atR M x 0 n = atN M x := by unfold atN; rw [hn]
 generalize atN M x = R at *
 replace hn := Lib.hid hn
 replace hR := Lib.hid hR
 go_enter Try.func54, Try.ntmps54
 go_upto_region 2 with (fail)
 go_loopg [5] n (fun m' i wx => ∃ k : Nat, m' = n - k ∧ k ≤ n ∧ i = .int .i64 (k : Nat) ∧ Hid (atR M x k (n - k) = R) ∧ w = wx)
 case atStart => exact ⟨0, by omega, by omega, rfl, hR, rfl⟩
 case round =>
  clear hR
  obtain ⟨k, rfl, hk, rfl, hR, rfl⟩ := hrel
  by_cases hkn : k < n
  ·have d : decide ((k : Int) < (n : Int)) = true := by simp; omega
   obtain ⟨b, o, rfl, hc⟩ := hH.out.i_form hn.out (by omega)
   have z0 := hc k hkn
   have hR2 : (if cl M k = x then some k else atR M x (k + 1) (n - (k + 1))) = R := by
    rw [← hR.out, show n - k = (n - (k + 1)) + 1 by omega]
    conv => rhs; unfold atR
   clear hc
   by_cases he : cl M k = x
   ·have d2 : (cl M k == x) = true := by simpa using he
    rw [if_pos he] at hR2
    have hR3 : R = some k := hR2.symm
    replace he := Lib.hid he
    replace hR2 := Lib.hid hR2
    replace hR3 := Lib.hid hR3
    replace hR := Lib.hid hR
    go_wp2_with fail
    go_ret
    rw [hR3.out]
    exact ⟨rfl, rfl⟩
   ·have d2 : (cl M k == x) = false := by simpa using he
    rw [if_neg he] at hR2
    replace he := Lib.hid he
    replace hR2 := Lib.hid hR2
    go_wp2_with fail
    go_roundg (n - (k + 1))
    case measure => omega
    case rel => exact ⟨k + 1, rfl, by omega, by push_cast; rfl, hR2, rfl⟩
  ·obtain rfl : k = n := by omega
   have d : decide ((k : Int) < (k : Int)) = false := by simp
   have hR3 : R = none := by rw [← hR.out, Nat.sub_self]; rfl
   replace hR3 := Lib.hid hR3
   go_wp2_with fail
   go_ret
   rw [hR3.out]
   exact ⟨rfl, rfl⟩
set_option maxRecDepth 100000 in
set_option maxHeartbeats 8000000 in
theorem rsz_any (base g : Nat) (pk by_ : Int) (vi vb : Value) (M : PL) (w : World) (h : RefV w base g pk by_ vi vb M) (hl : lensL M ≤ 1000000000) :
  Calls Try.prog 28 #[.pointer (some ⟨g, 0, none⟩)] w fun e w' => e = .returned (.int .i64 (lensL M : Nat)) ∧ w = w' := by
 obtain ⟨sv, cv, rfl, hnc, hmc⟩ := h.qb.len
 have z3 : w.cell? ⟨g, 3, none⟩ = some (.slice sv M.length cv) := hp_cell h.cells 3
 have hH := Lib.hid h
 have hle := Lib.hid fun j => lensL_le M j
 unfold maxLen at hmc
 clear h
 generalize hn : M.length = n at *
 replace hn := Lib.hid hn
 go_enter Try.func28, Try.ntmps28
 go_upto_region 3 with (fail)
 go_loopg [3, 4] n (fun m' s i wx => ∃ k : Nat, m' = n - k ∧ k ≤ n ∧ s = .int .i64 (lensL (M.take k) : Nat) ∧ i = .int .i64 (k : Nat) ∧ w = wx)
 case atStart => exact ⟨0, by omega, by omega, rfl, rfl, rfl⟩
 case round =>
  obtain ⟨k, rfl, hk, rfl, rfl, rfl⟩ := hrel
  by_cases hkn : k < n
  ·have d : decide ((k : Int) < (n : Int)) = true := by simp; omega
   obtain ⟨b, o, rfl, hc⟩ := hH.out.b_form hn.out (by omega)
   have z0 := hc k (by rw [hn.out]; exact hkn)
   have ht := lensL_take M k (by rw [hn.out]; exact hkn)
   have hl1 := hle.out (k + 1)
   have hsz : (bstr (M[k]'(by rw [hn.out]; exact hkn)).2).size = (M[k]'(by rw [hn.out]; exact hkn)).2.length := bstr_size _
   clear hc
   generalize hbs : bstr (M[k]'(by rw [hn.out]; exact hkn)).2 = bs at *
   generalize (M[k]'(by rw [hn.out]; exact hkn)).2.length = bl at *
   generalize hL1 : lensL (M.take (k + 1)) = L1 at *
   generalize lensL (M.take k) = L0 at *
   replace hL1 := Lib.hid hL1
   replace hbs := Lib.hid hbs
   have hu : (L0 : Int) + (bl : Int) ≤ 1000000000 := by omega
   replace ht := Lib.hid ht
   go_wp2_with fail
   go_roundg (n - (k + 1))
   case measure => omega
   case rel => exact ⟨k + 1, rfl, by omega, by rw [hL1.out, ht.out]; push_cast; rfl, by push_cast; rfl, rfl⟩
  ·obtain rfl : k = n := by omega
   have d : decide ((k : Int) < (k : Int)) = false := by simp
   rw [List.take_of_length_le (by rw [hn.out]; exact Nat.le_refl _)]
   go_wp2_with fail
   go_ret
   exact ⟨rfl, rfl⟩
theorem leastR_succ (M : PL) (k : Nat) : leastR M (k + 1) = match leastR M k with
  | none => some k
  | some a => if cl M k < cl M a then some k else some a := rfl
set_option maxRecDepth 100000 in
set_option maxHeartbeats 8000000 in
theorem rleast_any (base g : Nat) (pk by_ : Int) (vi vb : Value) (M : PL) (w : World) (h : RefV w base g pk by_ vi vb M) :
  Calls Try.prog 63 #[.pointer (some ⟨g, 0, none⟩)] w fun e w' => e = .returned (.int .i64 (atI (leastR M M.length))) ∧ BW w w' := by
 obtain ⟨sv, cv, rfl, hnc, hmc⟩ := h.qi.len
 have z2 : w.cell? ⟨g, 2, none⟩ = some (.slice sv M.length cv) := hp_cell h.cells 2
 have hH := Lib.hid h
 have hsp := Lib.hid (leastR_spec M)
 unfold maxLen at hmc
 clear h
 have hsu := Lib.hid (leastR_succ M)
 generalize hn : M.length = n at *
 replace hn := Lib.hid hn
 replace z2 := Lib.hid z2
 go_enter Try.func63, Try.ntmps63
 go_upto_region 3 with (fail)
 go_loopg [3, 4] n (fun m' s i wx => ∃ k : Nat, m' = n - k ∧ k ≤ n ∧ s = .int .i64 (atI (leastR M k)) ∧ i = .int .i64 (k : Nat) ∧ Hid (BW w wx))
 case atStart => exact ⟨0, by omega, by omega, rfl, rfl, BW.refl _⟩
 case round =>
  obtain ⟨k, rfl, hk, rfl, rfl, B⟩ := hrel
  have z2 := B.out.cell z2.out
  by_cases hkn : k < n
  ·have d : decide ((k : Int) < (n : Int)) = true := by simp; omega
   have hks := hsu.out k
   have hia := hsp.out k
   obtain ⟨b, o, rfl, hc⟩ := (hH.out.bw B.out).i_form hn.out (by omega)
   have y1 := hc k hkn
   replace hc := Lib.hid hc
   cases hl : leastR M k with
   | none =>
    rw [hl] at hks
    dsimp only at hks
    have e1 : atI none = -1 := rfl
    rw [e1]
    clear hia e1
    replace hks := Lib.hid hks
    replace hl := Lib.hid hl
    go_upto_region 5 with (fail)
    refine wp_region_gg [] [] [] (by kernel_rfl) ?_
    refine hoist [] [] (a1 := ?_) 0 rfl (by kernel_rfl) (.inl ⟨rfl, rfl⟩) rfl rfl rfl (fun x K hK => ?_) ?_
    rotate_left
    ·go_big_quiet_op
     exact hK
    refine hoist [] [] (a1 := ?_) 1 rfl (by kernel_rfl) (.inl ⟨rfl, rfl⟩) rfl rfl rfl (fun x K hK => ?_) ?_
    rotate_left
    ·go_big_quiet_op
     exact hK
    refine hoist [] [] (a1 := ?_) 2 rfl (by kernel_rfl) (.inl ⟨rfl, rfl⟩) rfl rfl rfl (fun x K hK => ?_) ?_
    rotate_left
    ·go_big_quiet_op
     exact hK
    refine hoist_skip [] [] 3 rfl (by kernel_rfl) (.inl ⟨rfl, rfl⟩) rfl (a1 := ?_) ?_ ?_
    rotate_left
    ·simp only [Act.put, List.setIfInBounds_toArray, List.set_cons_succ, List.set_cons_zero]; rfl
    refine hoist_skip [] [] 4 rfl (by kernel_rfl) (.inl ⟨rfl, rfl⟩) rfl (a1 := ?_) ?_ ?_
    rotate_left
    ·simp only [Act.put, List.setIfInBounds_toArray, List.set_cons_succ, List.set_cons_zero]; rfl
    refine hoist_skip [] [] 5 rfl (by kernel_rfl) (.inl ⟨rfl, rfl⟩) rfl (a1 := ?_) ?_ ?_
    rotate_left
    ·simp only [Act.put, List.setIfInBounds_toArray, List.set_cons_succ, List.set_cons_zero]; rfl
    refine hoist_skip [] [] 6 rfl (by kernel_rfl) (.inl ⟨rfl, rfl⟩) rfl (a1 := ?_) ?_ ?_
    rotate_left
    ·simp only [Act.put, List.setIfInBounds_toArray, List.set_cons_succ, List.set_cons_zero]; rfl
    refine hoist_skip [] [] 7 rfl (by kernel_rfl) (.inl ⟨rfl, rfl⟩) rfl (a1 := ?_) ?_ ?_
    rotate_left
    ·simp only [Act.put, List.setIfInBounds_toArray, List.set_cons_succ, List.set_cons_zero]; rfl
    refine hoist_skip [] [] 8 rfl (by kernel_rfl) (.inl ⟨rfl, rfl⟩) rfl (a1 := ?_) ?_ ?_
    rotate_left
    ·simp only [Act.put, List.setIfInBounds_toArray, List.set_cons_succ, List.set_cons_zero]; rfl
    refine hoist_skip [] [] 9 rfl (by kernel_rfl) (.inl ⟨rfl, rfl⟩) rfl (a1 := ?_) ?_ ?_
    rotate_left
    ·simp only [Act.put, List.setIfInBounds_toArray, List.set_cons_succ, List.set_cons_zero]; rfl
    refine hoist_skip [] [] 10 rfl (by kernel_rfl) (.inl ⟨rfl, rfl⟩) rfl (a1 := ?_) ?_ ?_
    rotate_left
    ·simp only [Act.put, List.setIfInBounds_toArray, List.set_cons_succ, List.set_cons_zero]; rfl
    refine hoist_skip [] [] 11 rfl (by kernel_rfl) (.inl ⟨rfl, rfl⟩) rfl (a1 := ?_) ?_ ?_
    rotate_left
    ·simp only [Act.put, List.setIfInBounds_toArray, List.set_cons_succ, List.set_cons_zero]; rfl
    refine hoist_skip [] [] 12 rfl (by kernel_rfl) (.inl ⟨rfl, rfl⟩) rfl (a1 := ?_) ?_ ?_
    rotate_left
    ·simp only [Act.put, List.setIfInBounds_toArray, List.set_cons_succ, List.set_cons_zero]; rfl
    refine hoist_skip [] [] 13 rfl (by kernel_rfl) (.inl ⟨rfl, rfl⟩) rfl (a1 := ?_) ?_ ?_
    rotate_left
    ·simp only [Act.put, List.setIfInBounds_toArray, List.set_cons_succ, List.set_cons_zero]; rfl
    refine hoist_skip [] [] 14 rfl (by kernel_rfl) (.inl ⟨rfl, rfl⟩) rfl (a1 := ?_) ?_ ?_
    rotate_left
    ·simp only [Act.put, List.setIfInBounds_toArray, List.set_cons_succ, List.set_cons_zero]; rfl
    refine hoist_skip [] [] 15 rfl (by kernel_rfl) (.inl ⟨rfl, rfl⟩) rfl (a1 := ?_) ?_ ?_
    rotate_left
    ·simp only [Act.put, List.setIfInBounds_toArray, List.set_cons_succ, List.set_cons_zero]; rfl
    refine hoist_skip [] [] 16 rfl (by kernel_rfl) (.inl ⟨rfl, rfl⟩) rfl (a1 := ?_) ?_ ?_
    rotate_left
    ·simp only [Act.put, List.setIfInBounds_toArray, List.set_cons_succ, List.set_cons_zero]; rfl
    refine hoist_skip [] [] 17 rfl (by kernel_rfl) (.inl ⟨rfl, rfl⟩) rfl (a1 := ?_) ?_ ?_
    rotate_left
    ·simp only [Act.put, List.setIfInBounds_toArray, List.set_cons_succ, List.set_cons_zero]; rfl
    refine hoist [] [] (a1 := ?_) 18 rfl (by kernel_rfl) (.inl ⟨rfl, rfl⟩) rfl rfl rfl (fun x K hK => ?_) ?_
    rotate_left
    ·go_big_quiet_op
     exact hK
    refine done (by kernel_rfl) (fun xr => ?_)
    have BX := Lib.hid (B.out.trans xr.bw)
    clear y1 z2 d
    go_wp2_with fail
    go_roundg (n - (k + 1))
    case measure => omega
    case rel => exact ⟨k + 1, rfl, by omega, by rw [hks.out]; rfl, by push_cast; rfl, BX⟩
   | some a =>
    rw [hl] at hks hia
    dsimp only at hks
    have e1 : atI (some a) = (a : Nat) := rfl
    rw [e1]
    have ha : a < k := hia.1
    have y2 := hc.out a (by omega)
    have d3 : decide ((a : Int) < 0) = false := by simp
    clear hia e1
    by_cases hc2 : cl M k < cl M a
    ·rw [if_pos hc2] at hks
     have d4 : decide (cl M k < cl M a) = true := by simpa using hc2
     replace hks := Lib.hid hks
     replace hl := Lib.hid hl
     replace hc2 := Lib.hid hc2
     go_upto_region 5 with (fail)
     have l3 := fun x : LaterS [] wr => x.cell z2 (by simp)
     have ly := fun x : LaterS [] wr => x.cell y1 (by simp)
     have la := fun x : LaterS [] wr => x.cell y2 (by simp)
     clear y1 y2 z2
     refine wp_region_gg [] [] [] (by kernel_rfl) ?_
     refine hoist [] [] (a1 := ?_) 0 rfl (by kernel_rfl) (.inl ⟨rfl, rfl⟩) rfl rfl rfl (fun x K hK => ?_) ?_
     rotate_left
     ·go_big_quiet_op
      exact hK
     refine hoist [] [] (a1 := ?_) 1 rfl (by kernel_rfl) (.inl ⟨rfl, rfl⟩) rfl rfl rfl (fun x K hK => ?_) ?_
     rotate_left
     ·go_big_quiet_op
      exact hK
     refine hoist [] [] (a1 := ?_) 2 rfl (by kernel_rfl) (.inl ⟨rfl, rfl⟩) rfl rfl rfl (fun x K hK => ?_) ?_
     rotate_left
     ·go_big_quiet_op
      exact hK
     refine hoist [] [] (a1 := ?_) 3 rfl (by kernel_rfl) (.inl ⟨rfl, rfl⟩) rfl rfl rfl (fun x K hK => ?_) ?_
     rotate_left
     ·go_big_quiet_op
      exact hK
     refine hoist [] [] (a1 := ?_) 4 rfl (by kernel_rfl) (.inl ⟨rfl, rfl⟩) rfl rfl rfl (fun x K hK => ?_) ?_
     rotate_left
     ·go_big_quiet_op
      exact hK
     refine hoist [] [] (a1 := ?_) 5 rfl (by kernel_rfl) (.inl ⟨rfl, rfl⟩) rfl rfl rfl (fun x K hK => ?_) ?_
     rotate_left
     ·go_big_quiet_op
      exact hK
     refine hoist [] [] (a1 := ?_) 6 rfl (by kernel_rfl) (.inl ⟨rfl, rfl⟩) rfl rfl rfl (fun x K hK => ?_) ?_
     rotate_left
     ·go_big_quiet_op
      exact hK
     refine hoist [] [] (a1 := ?_) 7 rfl (by kernel_rfl) (.inl ⟨rfl, rfl⟩) rfl rfl rfl (fun x K hK => ?_) ?_
     rotate_left
     ·go_big_quiet_op
      exact hK
     refine hoist [] [] (a1 := ?_) 8 rfl (by kernel_rfl) (.inl ⟨rfl, rfl⟩) rfl rfl rfl (fun x K hK => ?_) ?_
     rotate_left
     ·go_big_quiet_op
      exact hK
     refine hoist [] [] (a1 := ?_) 9 rfl (by kernel_rfl) (.inl ⟨rfl, rfl⟩) rfl rfl rfl (fun x K hK => ?_) ?_
     rotate_left
     ·go_big_quiet_op
      exact hK
     refine hoist [] [] (a1 := ?_) 10 rfl (by kernel_rfl) (.inl ⟨rfl, rfl⟩) rfl rfl rfl (fun x K hK => ?_) ?_
     rotate_left
     ·go_big_quiet_op
      exact hK
     refine hoist [] [] (a1 := ?_) 11 rfl (by kernel_rfl) (.inl ⟨rfl, rfl⟩) rfl rfl rfl (fun x K hK => ?_) ?_
     rotate_left
     ·go_big_quiet_op
      exact hK
     refine hoist [] [] (a1 := ?_) 12 rfl (by kernel_rfl) (.inl ⟨rfl, rfl⟩) rfl rfl rfl (fun x K hK => ?_) ?_
     rotate_left
     ·go_big_quiet_op
      exact hK
     refine hoist [] [] (a1 := ?_) 13 rfl (by kernel_rfl) (.inl ⟨rfl, rfl⟩) rfl rfl rfl (fun x K hK => ?_) ?_
     rotate_left
     ·go_big_quiet_op
      exact hK
     refine hoist [] [] (a1 := ?_) 14 rfl (by kernel_rfl) (.inl ⟨rfl, rfl⟩) rfl rfl rfl (fun x K hK => ?_) ?_
     rotate_left
     ·go_big_quiet_op
      exact hK
     refine hoist [] [] (a1 := ?_) 15 rfl (by kernel_rfl) (.inl ⟨rfl, rfl⟩) rfl rfl rfl (fun x K hK => ?_) ?_
     rotate_left
     ·go_big_quiet_op
      exact hK
     refine hoist [] [] (a1 := ?_) 16 rfl (by kernel_rfl) (.inl ⟨rfl, rfl⟩) rfl rfl rfl (fun x K hK => ?_) ?_
     rotate_left
     ·go_big_quiet_op
      exact hK
     refine hoist [] [] (a1 := ?_) 17 rfl (by kernel_rfl) (.inl ⟨rfl, rfl⟩) rfl rfl rfl (fun x K hK => ?_) ?_
     rotate_left
     ·go_big_quiet_op
      exact hK
     refine hoist [] [] (a1 := ?_) 18 rfl (by kernel_rfl) (.inl ⟨rfl, rfl⟩) rfl rfl rfl (fun x K hK => ?_) ?_
     rotate_left
     ·go_big_quiet_op
      exact hK
     refine done (by kernel_rfl) (fun xr => ?_)
     have BX := Lib.hid (B.out.trans xr.bw)
     clear d3 d4 d l3 ly la
     go_wp2_with fail
     go_roundg (n - (k + 1))
     case measure => omega
     case rel => exact ⟨k + 1, rfl, by omega, by rw [hks.out]; rfl, by push_cast; rfl, BX⟩
    ·rw [if_neg hc2] at hks
     have d4 : decide (cl M k < cl M a) = false := by simpa using hc2
     replace hks := Lib.hid hks
     replace hl := Lib.hid hl
     replace hc2 := Lib.hid hc2
     go_upto_region 5 with (fail)
     have l3 := fun x : LaterS [] wr => x.cell z2 (by simp)
     have ly := fun x : LaterS [] wr => x.cell y1 (by simp)
     have la := fun x : LaterS [] wr => x.cell y2 (by simp)
     clear y1 y2 z2
     refine wp_region_gg [] [] [] (by kernel_rfl) ?_
     refine hoist [] [] (a1 := ?_) 0 rfl (by kernel_rfl) (.inl ⟨rfl, rfl⟩) rfl rfl rfl (fun x K hK => ?_) ?_
     rotate_left
     ·go_big_quiet_op
      exact hK
     refine hoist [] [] (a1 := ?_) 1 rfl (by kernel_rfl) (.inl ⟨rfl, rfl⟩) rfl rfl rfl (fun x K hK => ?_) ?_
     rotate_left
     ·go_big_quiet_op
      exact hK
     refine hoist [] [] (a1 := ?_) 2 rfl (by kernel_rfl) (.inl ⟨rfl, rfl⟩) rfl rfl rfl (fun x K hK => ?_) ?_
     rotate_left
     ·go_big_quiet_op
      exact hK
     refine hoist [] [] (a1 := ?_) 3 rfl (by kernel_rfl) (.inl ⟨rfl, rfl⟩) rfl rfl rfl (fun x K hK => ?_) ?_
     rotate_left
     ·go_big_quiet_op
      exact hK
     refine hoist [] [] (a1 := ?_) 4 rfl (by kernel_rfl) (.inl ⟨rfl, rfl⟩) rfl rfl rfl (fun x K hK => ?_) ?_
     rotate_left
     ·go_big_quiet_op
      exact hK
     refine hoist [] [] (a1 := ?_) 5 rfl (by kernel_rfl) (.inl ⟨rfl, rfl⟩) rfl rfl rfl (fun x K hK => ?_) ?_
     rotate_left
     ·go_big_quiet_op
      exact hK
     refine hoist [] [] (a1 := ?_) 6 rfl (by kernel_rfl) (.inl ⟨rfl, rfl⟩) rfl rfl rfl (fun x K hK => ?_) ?_
     rotate_left
     ·go_big_quiet_op
      exact hK
     refine hoist [] [] (a1 := ?_) 7 rfl (by kernel_rfl) (.inl ⟨rfl, rfl⟩) rfl rfl rfl (fun x K hK => ?_) ?_
     rotate_left
     ·go_big_quiet_op
      exact hK
     refine hoist [] [] (a1 := ?_) 8 rfl (by kernel_rfl) (.inl ⟨rfl, rfl⟩) rfl rfl rfl (fun x K hK => ?_) ?_
     rotate_left
     ·go_big_quiet_op
      exact hK
     refine hoist [] [] (a1 := ?_) 9 rfl (by kernel_rfl) (.inl ⟨rfl, rfl⟩) rfl rfl rfl (fun x K hK => ?_) ?_
     rotate_left
     ·go_big_quiet_op
      exact hK
     refine hoist [] [] (a1 := ?_) 10 rfl (by kernel_rfl) (.inl ⟨rfl, rfl⟩) rfl rfl rfl (fun x K hK => ?_) ?_
     rotate_left
     ·go_big_quiet_op
      exact hK
     refine hoist [] [] (a1 := ?_) 11 rfl (by kernel_rfl) (.inl ⟨rfl, rfl⟩) rfl rfl rfl (fun x K hK => ?_) ?_
     rotate_left
     ·go_big_quiet_op
      exact hK
     refine hoist [] [] (a1 := ?_) 12 rfl (by kernel_rfl) (.inl ⟨rfl, rfl⟩) rfl rfl rfl (fun x K hK => ?_) ?_
     rotate_left
     ·go_big_quiet_op
      exact hK
     refine hoist [] [] (a1 := ?_) 13 rfl (by kernel_rfl) (.inl ⟨rfl, rfl⟩) rfl rfl rfl (fun x K hK => ?_) ?_
     rotate_left
     ·go_big_quiet_op
      exact hK
     refine hoist [] [] (a1 := ?_) 14 rfl (by kernel_rfl) (.inl ⟨rfl, rfl⟩) rfl rfl rfl (fun x K hK => ?_) ?_
     rotate_left
     ·go_big_quiet_op
      exact hK
     refine hoist [] [] (a1 := ?_) 15 rfl (by kernel_rfl) (.inl ⟨rfl, rfl⟩) rfl rfl rfl (fun x K hK => ?_) ?_
     rotate_left
     ·go_big_quiet_op
      exact hK
     refine hoist [] [] (a1 := ?_) 16 rfl (by kernel_rfl) (.inl ⟨rfl, rfl⟩) rfl rfl rfl (fun x K hK => ?_) ?_
     rotate_left
     ·go_big_quiet_op
      exact hK
     refine hoist [] [] (a1 := ?_) 17 rfl (by kernel_rfl) (.inl ⟨rfl, rfl⟩) rfl rfl rfl (fun x K hK => ?_) ?_
     rotate_left
     ·go_big_quiet_op
      exact hK
     refine hoist [] [] (a1 := ?_) 18 rfl (by kernel_rfl) (.inl ⟨rfl, rfl⟩) rfl rfl rfl (fun x K hK => ?_) ?_
     rotate_left
     ·go_big_quiet_op
      exact hK
     refine done (by kernel_rfl) (fun xr => ?_)
     have BX := Lib.hid (B.out.trans xr.bw)
     clear d3 d4 d l3 ly la
     go_wp2_with fail
     go_roundg (n - (k + 1))
     case measure => omega
     case rel => exact ⟨k + 1, rfl, by omega, by rw [hks.out]; rfl, by push_cast; rfl, BX⟩
  ·obtain rfl : k = n := by omega
   have d : decide ((k : Int) < (k : Int)) = false := by simp
   go_wp2_with fail
   go_ret
   exact ⟨rfl, B.out⟩
end Go.Proofs.Ytojedpahaifjgaa

namespace Go.Proofs.Ytojedpahaifjgaa
open Go.RowKit
theorem er_suc {α : Type} (L : List α) (at_ k : Nat) (h : k < L.length) : (L.take (k + 1)).eraseIdx at_ = if k = at_ then (L.take k).eraseIdx at_ else (L.take k).eraseIdx at_ ++ [L[k]] := by
 rw [List.take_succ_eq_append_getElem h]
 have hl : (L.take k).length = k := by rw [List.length_take]; omega
 by_cases h1 : at_ < k
 ·rw [if_neg (by omega), List.eraseIdx_append_of_lt_length (by omega)]
 ·rw [List.eraseIdx_append_of_length_le (by omega), hl, List.eraseIdx_of_length_le (l := L.take k) (by omega)]
  by_cases e : k = at_
  ·subst e; rw [if_pos rfl, Nat.sub_self]; simp
  ·rw [if_neg e, List.eraseIdx_of_length_le (by simp; omega)]
theorem EQ.sep {α β : Type} {E : Elt α} {F : Elt β} {T U : TypeId} {w : World} {b1 b2 : Nat} {v u : Value} {n m : Nat} {l : List α} {k : List β} (h : EQ E T w b1 v n l) (g : EQ F U w b2 u m k) (ht : T ≠ U) : ∀ j, v.ownBlock = some j → j ∉ u.ownBlock.toList := fun j hj hm => by
 obtain ⟨cs, hr⟩ := g.row j (by simpa using hm)
 exact h.ne hr ht.symm j hj rfl
theorem map_eraseIdx' {α β : Type} (f : α → β) : ∀ (l : List α) (i : Nat), (l.eraseIdx i).map f = (l.map f).eraseIdx i
 | [], _ => rfl
 | _ :: _, 0 => rfl
 | a :: l, i + 1 => by simp [map_eraseIdx' f l i]
theorem RefV.set2 {w : World} {base g : Nat} {pk by_ : Int} {vi vb : Value} {M : PL} (h : RefV w base g pk by_ vi vb M) (vi' vb' : Value) (M' : PL) (hi : EQ I1 2 w base vi' M'.length (M'.map Prod.fst)) (hb : EQ S1 9 w base vb' M'.length (M'.map Prod.snd)) :
  RefV ((w.setCell ⟨g, 2, none⟩ vi').setCell ⟨g, 3, none⟩ vb') base g pk by_ vi' vb' M' := by
 have h1 := hp_set h.cells 2 vi'
 have s1 := still_setR w g 2 vi'
 have s2 := still_setR (w.setCell ⟨g, 2, none⟩ vi') g 3 vb'
 have ni : ∀ k, vi'.ownBlock = some k → k ∉ [g] := fun k hk => by have := hi.ne h.cells (by decide) k hk; simpa using this
 have nb : ∀ k, vb'.ownBlock = some k → k ∉ [g] := fun k hk => by have := hb.ne h.cells (by decide) k hk; simpa using this
 exact ⟨hp_set h1 3 vb', (hi.still s1 (fun _ _ => trivial) ni).still s2 (fun _ _ => trivial) ni, (hb.still s1 (fun _ _ => trivial) nb).still s2 (fun _ _ => trivial) nb⟩
set_option maxRecDepth 100000 in
set_option maxHeartbeats 8000000 in
theorem rdrp_any (base g : Nat) (pk by_ : Int) (vi vb : Value) (M : PL) (at_ : Nat) (w : World) (h : RefV w base g pk by_ vi vb M) (hl : M.length ≤ 1000000) (hbase : base ≤ w.heap.size) (hat : at_ < M.length) :
  Calls Try.prog 64 #[.pointer (some ⟨g, 0, none⟩), .int .i64 (at_ : Nat)] w fun e w' => e = .returned (.tuple #[]) ∧ (∃ vi' vb', RefV w' base g pk by_ vi' vb' (M.eraseIdx at_) ∧ (∀ k, vi'.ownBlock = some k → w.heap.size ≤ k) ∧ ∀ k, vb'.ownBlock = some k → w.heap.size ≤ k) ∧ Still [g] w w' := by
 obtain ⟨sv, cv, rfl, hnc, hmc⟩ := h.qi.len
 obtain ⟨sb, cb, rfl, hbc, hbm⟩ := h.qb.len
 have hH := Lib.hid h
 unfold maxLen at hmc hbm
 clear h
 have hfi : (M.map Prod.fst).length = M.length := by simp
 have hfb : (M.map Prod.snd).length = M.length := by simp
 have her1 := fun k hk => er_suc (M.map Prod.fst) at_ k hk
 have her2 := fun k hk => er_suc (M.map Prod.snd) at_ k hk
 generalize hn : M.length = n at *
 replace hn := Lib.hid hn
 replace hfi := Lib.hid hfi
 replace hfb := Lib.hid hfb
 replace her1 := Lib.hid her1
 replace her2 := Lib.hid her2
 go_enter Try.func64, Try.ntmps64
 go_upto_region 3 with (fail)
 go_loopg [4, 5, 6] n (fun m' s t i wx => ∃ (k m : Nat) (s4 : Option Addr) (c4 : Nat) (s5 : Option Addr) (c5 : Nat), m' = n - k ∧ k ≤ n ∧ s = .slice s4 m c4 ∧ t = .slice s5 m c5 ∧ c4 ≤ 9223372036854775807 ∧ c5 ≤ 9223372036854775807 ∧ m ≤ k ∧ i = .int .i64 (k : Nat) ∧ Hid (EQ I1 2 wx base (.slice s4 m c4) m (((M.map Prod.fst).take k).eraseIdx at_)) ∧ Hid (EQ S1 9 wx base (.slice s5 m c5) m (((M.map Prod.snd).take k).eraseIdx at_)) ∧ Hid (∀ j, (Value.slice s4 m c4).ownBlock = some j → w.heap.size ≤ j) ∧ Hid (∀ j, (Value.slice s5 m c5).ownBlock = some j → w.heap.size ≤ j) ∧ Hid (BW w wx))
 case atStart => exact ⟨0, 0, none, 0, none, 0, by omega, by omega, rfl, rfl, by omega, by omega, by omega, rfl, EQ.nil _ _ _ _, EQ.nil _ _ _ _, (fun j hj => by cases hj), (fun j hj => by cases hj), BW.refl _⟩
 case round =>
  obtain ⟨k, m, s4, c4, s5, c5, rfl, hk, rfl, rfl, hc4, hc5, hmk, rfl, Q4, Q5, F4, F5, B⟩ := hrel
  have hHr := Lib.hid (hH.out.bw B.out)
  have z2 : wr.cell? ⟨g, 2, none⟩ = some (.slice sv n cv) := hp_cell hHr.out.cells 2
  have z3 : wr.cell? ⟨g, 3, none⟩ = some (.slice sb n cb) := hp_cell hHr.out.cells 3
  by_cases hkn : k < n
  ·have d : decide ((k : Int) < (n : Int)) = true := by simp; omega
   have h1 := her1.out k (by rw [hfi.out]; exact hkn)
   have h2 := her2.out k (by rw [hfb.out]; exact hkn)
   by_cases hka : k = at_
   ·have d2 : ((k : Int) != (at_ : Int)) = false := by simp; omega
    rw [if_pos hka] at h1 h2
    rw [← h1] at Q4
    rw [← h2] at Q5
    replace h1 := Lib.hid h1
    replace h2 := Lib.hid h2
    replace hka := Lib.hid hka
    go_wp2_with fail
    go_roundg (n - (k + 1))
    case measure => omega
    case rel => exact ⟨k + 1, m, s4, c4, s5, c5, rfl, by omega, rfl, rfl, hc4, hc5, by omega, by push_cast; rfl, Q4, Q5, F4, F5, B⟩
   ·have d2 : ((k : Int) != (at_ : Int)) = true := by simp; omega
    rw [if_neg hka] at h1 h2
    obtain ⟨b1, o1, rfl, hc1⟩ := hHr.out.i_form hn.out (by omega)
    have y1 := hc1 k hkn
    obtain ⟨b2, o2, rfl, hc2⟩ := hHr.out.b_form hn.out (by omega)
    have y2 := hc2 k (by rw [hn.out]; exact hkn)
    have e1 : (M.map Prod.fst)[k]'(by rw [hfi.out]; exact hkn) = cl M k := by rw [List.getElem_map, cl_get]
    have e2 : (M.map Prod.snd)[k]'(by rw [hfb.out]; exact hkn) = (M[k]'(by rw [hn.out]; exact hkn)).2 := by rw [List.getElem_map]
    rw [e1] at h1
    rw [e2] at h2
    clear e1 e2 hc1 hc2
    generalize hbx : (M[k]'(by rw [hn.out]; exact hkn)).2 = bx at *
    generalize cl M k = cx at *
    replace hbx := Lib.hid hbx
    have BA : BW wr (wr.alloc (.cells #[.int .i64 cx] 2)) := (BW.refl _).alloc
    have L4 := Lib.hid (Sls.new1 (E := I1) wr 2 [.int .i64 cx] rfl)
    have Q4a := Lib.hid (Q4.out.bw BA)
    have Q5a := Lib.hid (Q5.out.bw BA)
    have Ba := Lib.hid (B.out.trans BA)
    have hza := Nat.le_trans hbase Ba.out.size
    replace h1 := Lib.hid h1
    replace h2 := Lib.hid h2
    replace hka := Lib.hid hka
    replace BA := Lib.hid BA
    clear z3 y2
    go_upto_region 7 with (at_builtin; go_must (refine wpList_apEQ slI64 rfl _ _ rfl base (.slice s4 m c4) m _ rfl Q4a.out _ rfl 1 [cx] [.int .i64 cx] L4.out (EL.single rfl) rfl (by omega) hza (fun _ _ => trivial) ?_; intro s6 c6 w6 hc6 hm6 O6 T6 hb6 G6; unfold maxLen at hm6; replace O6 := Lib.hid O6; replace T6 := Lib.hid T6; replace G6 := Lib.hid G6; clear hb6))
    have F6 : ∀ j, (Value.slice s6 (m + 1) c6).ownBlock = some j → w.heap.size ≤ j := fun j h1 => by
     rcases G6.out j h1 with h2 | h2
     ·exact F4.out j h2
     ·exact Nat.le_trans Ba.out.size h2
    have B6 := Lib.hid (BW.stP Ba.out T6.out (fun j hj => F4.out j (by simpa using hj)))
    have Q5b := Lib.hid (Q5a.out.still T6.out (fun _ _ => trivial) (Q5a.out.sep Q4a.out (by decide)))
    have hH6 := Lib.hid (hH.out.bw B6.out)
    have z3 : w6.cell? ⟨g, 3, none⟩ = some (.slice (some ⟨b2, o2, none⟩) n cb) := hp_cell hH6.out.cells 3
    obtain ⟨b3, o3, he3, hc2⟩ := hH6.out.b_form hn.out (by omega)
    simp only [Option.some.injEq, Addr.mk.injEq, and_true] at he3
    obtain ⟨rfl, rfl⟩ := he3
    have y2 := hc2 k (by rw [hn.out]; exact hkn)
    rw [hbx.out] at y2
    have BB : BW w6 (w6.alloc (.cells #[.string (bstr bx)] 9)) := (BW.refl _).alloc
    have L5 := Lib.hid (Sls.new1 (E := S1) w6 9 [.string (bstr bx)] rfl)
    have Q5c := Lib.hid (Q5b.out.bw BB)
    have O6c := Lib.hid (O6.out.bw BB)
    have Bc := Lib.hid (B6.out.trans BB)
    have hzc := Nat.le_trans hbase Bc.out.size
    clear hc2 Q5b O6 B6 T6 G6 Q4a Q5a L4 Ba hza y1 z2 hHr hH6
    replace F6 := Lib.hid F6
    replace BB := Lib.hid BB
    go_wp2_with (at_builtin; go_must (refine wpList_apEQ slStr rfl _ _ rfl base (.slice s5 m c5) m _ rfl Q5c.out _ rfl 1 [bx] [.string (bstr bx)] L5.out (EL.single rfl) rfl (by omega) hzc (fun _ _ => trivial) ?_; intro s7 c7 w7 hc7 hm7 O7 T7 hb7 G7; unfold maxLen at hm7; replace O7 := Lib.hid O7; replace T7 := Lib.hid T7; replace G7 := Lib.hid G7; clear hb7))
    have F7 : ∀ j, (Value.slice s7 (m + 1) c7).ownBlock = some j → w.heap.size ≤ j := fun j h1 => by
     rcases G7.out j h1 with h2 | h2
     ·exact F5.out j h2
     ·exact Nat.le_trans Bc.out.size h2
    have B7 := Lib.hid (BW.stP Bc.out T7.out (fun j hj => F5.out j (by simpa using hj)))
    have O6d := Lib.hid (O6c.out.still T7.out (fun _ _ => trivial) (O6c.out.sep Q5c.out (by decide)))
    have P6 : Hid (EQ I1 2 w7 base (.slice s6 (m + 1) c6) (m + 1) (((M.map Prod.fst).take (k + 1)).eraseIdx at_)) := Lib.hid (by rw [h1.out]; exact O6d.out)
    have P7 : Hid (EQ S1 9 w7 base (.slice s7 (m + 1) c7) (m + 1) (((M.map Prod.snd).take (k + 1)).eraseIdx at_)) := Lib.hid (by rw [h2.out]; exact O7.out)
    clear O6c O7 T7 G7 Q5c L5 Bc hzc y2 z3 O6d d d2
    replace F7 := Lib.hid F7
    go_wp2_with fail
    go_roundg (n - (k + 1))
    case measure => omega
    case rel => exact ⟨k + 1, m + 1, s6, c6, s7, c7, rfl, by omega, rfl, rfl, hm6, hm7, by omega, by push_cast; rfl, P6, P7, F6, F7, B7⟩
  ·obtain rfl : k = n := by omega
   have d : decide ((k : Int) < (k : Int)) = false := by simp
   rw [List.take_of_length_le (by rw [hfi.out]; exact Nat.le_refl _), ← map_eraseIdx'] at Q4
   rw [List.take_of_length_le (by rw [hfb.out]; exact Nat.le_refl _), ← map_eraseIdx'] at Q5
   have hle : (M.eraseIdx at_).length = m := by have := Q4.out.1; simpa using this
   have hi2 : EQ I1 2 wr base (.slice s4 m c4) (M.eraseIdx at_).length ((M.eraseIdx at_).map Prod.fst) := by rw [hle]; exact Q4.out
   have hb2 : EQ S1 9 wr base (.slice s5 m c5) (M.eraseIdx at_).length ((M.eraseIdx at_).map Prod.snd) := by rw [hle]; exact Q5.out
   have R2 := Lib.hid (hHr.out.set2 (.slice s4 m c4) (.slice s5 m c5) _ hi2 hb2)
   have y2 := hp_frz hHr.out.cells 2
   have y3 := hp_frz (hp_set hHr.out.cells 2 (.slice s4 m c4)) 3
   have T2 := Lib.hid (((B.out.still [g]).trans (still_setR wr g 2 (.slice s4 m c4))).trans (still_setR _ g 3 (.slice s5 m c5)))
   replace hle := Lib.hid hle
   replace hi2 := Lib.hid hi2
   replace hb2 := Lib.hid hb2
   go_wp2_with fail
   go_end0
   exact ⟨rfl, ⟨_, _, R2.out, F4.out, F5.out⟩, T2.out⟩
end Go.Proofs.Ytojedpahaifjgaa
