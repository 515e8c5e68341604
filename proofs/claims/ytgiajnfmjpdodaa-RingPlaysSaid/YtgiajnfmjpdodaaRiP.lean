/- A ring in order, and packets as they came: plain laws. No condition. -/
import Derived.Test.YtgiajnfmjpdodaaRiE
namespace Go.Proofs.Ytgiajnfmjpdodaa
open Go.RowKit

def atI : Option Nat → Int
  | none => -1
  | some a => (a : Nat)
def atR (M : PL) (x : Int) : Nat → Nat → Option Nat
  | _, 0 => none
  | k, f + 1 => if cl M k = x then some k else atR M x (k + 1) f
def atN (M : PL) (x : Int) : Option Nat := atR M x 0 M.length
theorem atR_spec (M : PL) (x : Int) : ∀ (f k : Nat), match atR M x k f with
    | none => ∀ j, k ≤ j → j < k + f → cl M j ≠ x
    | some a => k ≤ a ∧ a < k + f ∧ cl M a = x
  | 0, k => fun j h1 h2 => by omega
  | f + 1, k => by
    have ih := atR_spec M x f (k + 1)
    unfold atR
    by_cases h : cl M k = x
    · rw [if_pos h]; exact ⟨Nat.le_refl _, by omega, h⟩
    · rw [if_neg h]
      cases hr : atR M x (k + 1) f with
      | none =>
        rw [hr] at ih
        intro j h1 h2
        by_cases e : j = k
        · rw [e]; exact h
        · exact ih j (by omega) (by omega)
      | some a =>
        rw [hr] at ih
        exact ⟨by omega, by omega, ih.2.2⟩
def leastR (M : PL) : Nat → Option Nat
  | 0 => none
  | k + 1 => match leastR M k with
    | none => some k
    | some a => if cl M k < cl M a then some k else some a
theorem leastR_spec (M : PL) : ∀ k, match leastR M k with
    | none => k = 0
    | some a => a < k ∧ ∀ j, j < k → cl M a ≤ cl M j
  | 0 => rfl
  | k + 1 => by
    have ih := leastR_spec M k
    unfold leastR
    cases hr : leastR M k with
    | none =>
      rw [hr] at ih
      have ih' : k = 0 := ih
      subst ih'
      exact ⟨by omega, fun j hj => by obtain rfl : j = 0 := (by omega); exact Int.le_refl _⟩
    | some a =>
      rw [hr] at ih
      dsimp only
      by_cases h : cl M k < cl M a
      · rw [if_pos h]
        refine ⟨by omega, fun j hj => ?_⟩
        by_cases e : j = k
        · rw [e]; exact Int.le_refl _
        · have := ih.2 j (by omega); omega
      · rw [if_neg h]
        refine ⟨by have := ih.1; omega, fun j hj => ?_⟩
        by_cases e : j = k
        · rw [e]; omega
        · exact ih.2 j (by omega)
def trimR (pk by_ : Int) : Nat → PL → PL
  | 0, M => M
  | f + 1, M => if pk < (M.length : Nat) ∨ by_ < (lensL M : Nat) then match leastR M M.length with
      | none => M
      | some a => trimR pk by_ f (M.eraseIdx a)
    else M
def rputN (pk by_ : Int) (M : PL) (x : Int) (b : List Nat) : Nat × PL :=
  if x < 0 then (1, M) else if by_ < (b.length : Nat) then (8, M)
  else if (atN M x).isSome = true ∨ ((M.length : Int) = pk ∧ x < cl M ((leastR M M.length).getD 0)) then (5, M)
  else (0, trimR pk by_ (M.length + 1) (M ++ [(x, b)]))
def sortR : Nat → PL → List Int
  | 0, _ => []
  | f + 1, M => match leastR M M.length with
    | none => []
    | some a => cl M a :: sortR f (M.eraseIdx a)
def forgetR (x : Int) : Nat → PL → Nat → Nat × PL
  | 0, M, n => (n, M)
  | f + 1, M, n => match leastR M M.length with
    | none => (n, M)
    | some a => if cl M a < x then forgetR x f (M.eraseIdx a) (n + 1) else (n, M)

/-- The ring's list is the other's, in order. -/
structure SP (L M : PL) : Prop where
  srt : L.Pairwise fun a b => a.1 < b.1
  perm : L.Perm M
theorem SP.len {L M : PL} (h : SP L M) : L.length = M.length := h.perm.length_eq
theorem lensL_perm {L M : PL} (h : L.Perm M) : lensL L = lensL M := by
  induction h with
  | nil => rfl
  | cons p _ ih => show p.2.length + lensL _ = p.2.length + lensL _; rw [ih]
  | swap p q l => show q.2.length + (p.2.length + lensL l) = p.2.length + (q.2.length + lensL l); omega
  | trans _ _ h1 h2 => exact h1.trans h2
theorem split_atM (L : PL) (a : Nat) (h : a < L.length) : L = L.take a ++ L[a] :: L.drop (a + 1) := by
  rw [← List.drop_eq_getElem_cons h, List.take_append_drop]
theorem least_of {p : Int × List Nat} {L M : PL} (h : SP (p :: L) M) : ∃ a, leastR M M.length = some a ∧ ∃ ha : a < M.length, M[a] = p ∧ cl M a = p.1 ∧ SP L (M.eraseIdx a) ∧ (M.eraseIdx a).length = L.length := by
  have hs := leastR_spec M M.length
  have hl := h.len
  cases hr : leastR M M.length with
  | none => rw [hr] at hs; have hs' : M.length = 0 := hs; rw [hs'] at hl; simp at hl
  | some a =>
    rw [hr] at hs
    obtain ⟨ha, hmin⟩ := hs
    have hp : M[a] = p := by
      have h1 : M[a] ∈ p :: L := h.perm.mem_iff.2 (List.getElem_mem ha)
      rcases List.mem_cons.1 h1 with e | e
      · exact e
      · exfalso
        have h2 : p ∈ M := h.perm.mem_iff.1 List.mem_cons_self
        obtain ⟨j, hj, ej⟩ := List.mem_iff_getElem.1 h2
        have h3 := hmin j hj
        rw [cl_get ha, cl_get hj, ej] at h3
        have h4 := (List.pairwise_cons.1 h.srt).1 _ e
        omega
    refine ⟨a, rfl, ha, hp, by rw [cl_get ha, hp], ⟨(List.pairwise_cons.1 h.srt).2, ?_⟩, ?_⟩
    · have h1 : M.Perm (p :: M.eraseIdx a) := by
        conv => lhs; rw [split_atM M a ha]
        rw [hp, List.eraseIdx_eq_take_drop_succ]
        exact List.perm_middle
      exact (h.perm.trans h1).cons_inv
    · rw [List.length_eraseIdx, if_pos ha, ← hl]; rfl
theorem SP.nil_right {M : PL} (h : SP [] M) : M = [] := List.eq_nil_of_length_eq_zero h.len.symm
theorem trim_same (pk by_ : Int) : ∀ (L M : PL), SP L M → SP (trimN pk by_ L) (trimR pk by_ M.length M)
  | [], M, h => by
    obtain rfl := h.nil_right
    exact h
  | p :: L, M, h => by
    obtain ⟨a, h1, ha, hp, hc, h2, h3⟩ := least_of h
    have hl := h.len
    have hlen := lensL_perm h.perm
    rw [← hl, List.length_cons]
    unfold trimN trimR
    rw [← hlen, ← hl, List.length_cons]
    by_cases ht : pk < ((L.length + 1 : Nat) : Int) ∨ by_ < ((lensL (p :: L) : Nat) : Int)
    · rw [if_pos ht, if_pos ht]
      rw [← hl, List.length_cons] at h1
      rw [h1]
      have := trim_same pk by_ L (M.eraseIdx a) h2
      rw [h3] at this
      exact this
    · rw [if_neg ht, if_neg ht]; exact h
theorem sort_same : ∀ (L M : PL), SP L M → sortR M.length M = L.map Prod.fst
  | [], M, h => by
    obtain rfl := h.nil_right
    rfl
  | p :: L, M, h => by
    obtain ⟨a, h1, ha, hp, hc, h2, h3⟩ := least_of h
    have hl := h.len
    have e : M.length = L.length + 1 := by rw [← hl]; rfl
    rw [e]
    unfold sortR
    rw [h1]
    dsimp only
    have := sort_same L (M.eraseIdx a) h2
    rw [h3] at this
    rw [this, hc]; rfl
theorem lowN_cons (p : Int × List Nat) (L : PL) (x : Int) : lowN (p :: L) x = if p.1 < x then lowN L x + 1 else 0 := by
  unfold lowN
  by_cases h : p.1 < x
  · rw [if_pos h, List.takeWhile_cons, if_pos (by simpa using h)]; rfl
  · rw [if_neg h, List.takeWhile_cons, if_neg (by simpa using h)]; rfl
theorem forget_same (x : Int) : ∀ (L M : PL) (n : Nat), SP L M → (forgetR x M.length M n).1 = n + lowN L x ∧ SP (L.drop (lowN L x)) (forgetR x M.length M n).2
  | [], M, n, h => by
    obtain rfl := h.nil_right
    exact ⟨rfl, h⟩
  | p :: L, M, n, h => by
    obtain ⟨a, h1, ha, hp, hc, h2, h3⟩ := least_of h
    have hl := h.len
    have e : M.length = L.length + 1 := by rw [← hl]; rfl
    rw [e, lowN_cons]
    unfold forgetR
    rw [h1]
    dsimp only
    rw [hc]
    by_cases ht : p.1 < x
    · rw [if_pos ht, if_pos ht]
      have := forget_same x L (M.eraseIdx a) (n + 1) h2
      rw [h3] at this
      refine ⟨by rw [this.1]; omega, ?_⟩
      rw [List.drop_succ_cons]; exact this.2
    · rw [if_neg ht, if_neg ht]
      exact ⟨rfl, h⟩
theorem low_split {L : PL} {x : Int} (h : L.Pairwise fun a b => a.1 < b.1) : (∀ p ∈ L.take (lowN L x), p.1 < x) ∧ (∀ p ∈ L.drop (lowN L x), x ≤ p.1) := by
  induction L with
  | nil => exact ⟨fun p hp => by simp at hp, fun p hp => by simp at hp⟩
  | cons q L ih =>
    obtain ⟨h1, h2⟩ := List.pairwise_cons.1 h
    rw [lowN_cons]
    by_cases ht : q.1 < x
    · rw [if_pos ht, List.take_succ_cons, List.drop_succ_cons]
      obtain ⟨i1, i2⟩ := ih h2
      exact ⟨fun p hp => by rcases List.mem_cons.1 hp with rfl | hp; exact ht; exact i1 p hp, i2⟩
    · rw [if_neg ht]
      refine ⟨fun p hp => by simp at hp, fun p hp => ?_⟩
      rcases List.mem_cons.1 (by simpa using hp) with rfl | hp
      · omega
      · have := h1 p hp; omega
theorem isAt_iff {L : PL} {x : Int} (h : L.Pairwise fun a b => a.1 < b.1) : isAt L x = true ↔ ∃ p ∈ L, p.1 = x := by
  obtain ⟨s1, s2⟩ := low_split (x := x) h
  unfold isAt
  refine ⟨fun ht => ?_, fun ⟨p, hp, e⟩ => ?_⟩
  · obtain ⟨k1, k2⟩ := of_decide_eq_true ht
    exact ⟨L[lowN L x], List.getElem_mem k1, by rw [← cl_get k1]; exact k2⟩
  · rw [← List.take_append_drop (lowN L x) L] at hp
    rcases List.mem_append.1 hp with hp | hp
    · have := s1 p hp; omega
    · have hk : lowN L x < L.length := by
        have := List.length_pos_of_mem hp
        rw [List.length_drop] at this; omega
      refine decide_eq_true ⟨hk, ?_⟩
      rw [cl_get hk]
      have hd := List.drop_eq_getElem_cons hk
      rw [hd] at hp s2
      have h0 := s2 _ List.mem_cons_self
      rcases List.mem_cons.1 hp with rfl | hp
      · exact e
      · have hpw : (L.drop (lowN L x)).Pairwise fun a b => a.1 < b.1 := h.sublist (List.drop_sublist _ _)
        rw [hd] at hpw
        have := (List.pairwise_cons.1 hpw).1 p hp
        omega
theorem atN_some {M : PL} {x : Int} {a : Nat} (h : atN M x = some a) : a < M.length ∧ cl M a = x := by
  have := atR_spec M x M.length 0
  unfold atN at h
  rw [h] at this
  exact ⟨by omega, this.2.2⟩
theorem atN_iff {M : PL} {x : Int} : (atN M x).isSome = true ↔ ∃ p ∈ M, p.1 = x := by
  have hsp := atR_spec M x M.length 0
  cases h : atN M x with
  | none =>
    unfold atN at h
    rw [h] at hsp
    refine ⟨(fun h => by cases h), fun ⟨p, hp, e⟩ => ?_⟩
    obtain ⟨j, hj, ej⟩ := List.mem_iff_getElem.1 hp
    have := hsp j (by omega) (by omega)
    rw [cl_get hj, ej] at this
    exact absurd e this
  | some a =>
    obtain ⟨h1, h2⟩ := atN_some h
    exact ⟨fun _ => ⟨M[a], List.getElem_mem h1, by rw [← cl_get h1]; exact h2⟩, fun _ => rfl⟩
theorem at_same {L M : PL} (h : SP L M) (x : Int) : isAt L x = (atN M x).isSome := by
  have h1 := isAt_iff (x := x) h.srt
  have h2 := atN_iff (M := M) (x := x)
  have h3 : (∃ p ∈ L, p.1 = x) ↔ ∃ p ∈ M, p.1 = x := ⟨fun ⟨p, hp, e⟩ => ⟨p, h.perm.mem_iff.1 hp, e⟩, fun ⟨p, hp, e⟩ => ⟨p, h.perm.mem_iff.2 hp, e⟩⟩
  rw [Bool.eq_iff_iff, h1, h2, h3]
theorem key_one {L : PL} (h : L.Pairwise fun a b => a.1 < b.1) {p q : Int × List Nat} (hp : p ∈ L) (hq : q ∈ L) (e : p.1 = q.1) : p = q := by
  induction L with
  | nil => cases hp
  | cons r L ih =>
    obtain ⟨h1, h2⟩ := List.pairwise_cons.1 h
    rcases List.mem_cons.1 hp with e1 | hp'
    · rcases List.mem_cons.1 hq with e2 | hq'
      · rw [e1, e2]
      · have := h1 q hq'; rw [e1] at e; omega
    · rcases List.mem_cons.1 hq with e2 | hq'
      · have := h1 p hp'; rw [e2] at e; omega
      · exact ih h2 hp' hq' 
theorem get_same {L M : PL} (h : SP L M) {x : Int} {a : Nat} (ha : atN M x = some a) : ∃ hl : a < M.length, getN L x = (M[a]).2 := by
  obtain ⟨h1, h2⟩ := atN_some ha
  refine ⟨h1, ?_⟩
  have hi : isAt L x = true := by rw [at_same h, ha]; rfl
  have hk := of_decide_eq_true hi
  unfold getN
  rw [hi, if_pos rfl, List.getD_eq_getElem?_getD, List.getElem?_eq_getElem hk.1]
  show (L[lowN L x]).2 = _
  rw [key_one h.srt (List.getElem_mem hk.1) (h.perm.mem_iff.2 (List.getElem_mem h1)) (by rw [← cl_get hk.1, ← cl_get h1, hk.2, h2])]
theorem ins_same {L M : PL} (h : SP L M) {x : Int} (b : List Nat) (hn : isAt L x = false) : SP (insN L x b) (M ++ [(x, b)]) := by
  obtain ⟨s1, s2⟩ := low_split (x := x) h.srt
  have hno : ∀ p ∈ L, p.1 ≠ x := fun p hp e => by
    have := (isAt_iff (x := x) h.srt).2 ⟨p, hp, e⟩
    rw [hn] at this; cases this
  have hpw : (L.take (lowN L x) ++ L.drop (lowN L x)).Pairwise fun a b => a.1 < b.1 := by rw [List.take_append_drop]; exact h.srt
  obtain ⟨q1, q2, q3⟩ := List.pairwise_append.1 hpw
  refine ⟨?_, ?_⟩
  · unfold insN
    rw [List.append_assoc]
    refine List.pairwise_append.2 ⟨q1, List.pairwise_append.2 ⟨List.pairwise_singleton _ _, q2, fun p hp q hq => ?_⟩, fun p hp q hq => ?_⟩
    · obtain rfl : p = (x, b) := by simpa using hp
      have h1 := s2 q hq
      have h2 := hno q (List.mem_of_mem_drop hq)
      show x < q.1
      omega
    · rcases List.mem_append.1 hq with hq | hq
      · obtain rfl : q = (x, b) := by simpa using hq
        exact s1 p hp
      · exact q3 p hp q hq
  · unfold insN
    rw [List.append_assoc]
    have h1 : (L.take (lowN L x) ++ ([(x, b)] ++ L.drop (lowN L x))).Perm ((x, b) :: (L.take (lowN L x) ++ L.drop (lowN L x))) := List.perm_middle
    rw [List.take_append_drop] at h1
    exact h1.trans ((h.perm.cons (x, b)).trans (List.perm_append_comm (l₁ := [(x, b)]) (l₂ := M)))
theorem put_same {L M : PL} (h : SP L M) (pk by_ x : Int) (b : List Nat) (hp : 1 ≤ pk) : (putN pk by_ L x b).1 = (rputN pk by_ M x b).1 ∧ SP (putN pk by_ L x b).2 (rputN pk by_ M x b).2 := by
  unfold putN rputN
  by_cases h1 : x < 0
  · rw [if_pos h1, if_pos h1]; exact ⟨rfl, h⟩
  rw [if_neg h1, if_neg h1]
  by_cases h2 : by_ < (b.length : Nat)
  · rw [if_pos h2, if_pos h2]; exact ⟨rfl, h⟩
  rw [if_neg h2, if_neg h2, at_same h]
  have hiff : ((atN M x).isSome = true ∨ (lowN L x = 0 ∧ (L.length : Int) = pk)) ↔ ((atN M x).isSome = true ∨ ((M.length : Int) = pk ∧ x < cl M ((leastR M M.length).getD 0))) := by
    rw [h.len]
    cases hs : (atN M x).isSome with
    | true => simp
    | false =>
      have hno : ∀ p ∈ L, p.1 ≠ x := fun p hp e => by
        have := (isAt_iff (x := x) h.srt).2 ⟨p, hp, e⟩
        rw [at_same h, hs] at this; cases this
      refine ⟨fun hh => ?_, fun hh => ?_⟩
      · rcases hh with hh | ⟨e1, e2⟩
        · cases hh
        · right
          cases L with
          | nil => have := h.len; simp at this; omega
          | cons p L =>
            obtain ⟨a, k1, ka, kp, kc, _, _⟩ := least_of h
            rw [lowN_cons] at e1
            have hpx : ¬ p.1 < x := fun hl => by rw [if_pos hl] at e1; omega
            have := hno p List.mem_cons_self
            refine ⟨e2, ?_⟩
            rw [k1]
            show x < cl M a
            rw [kc]; omega
      · rcases hh with hh | ⟨e2, e1⟩
        · cases hh
        · right
          cases L with
          | nil => exact ⟨rfl, e2⟩
          | cons p L =>
            obtain ⟨a, k1, ka, kp, kc, _, _⟩ := least_of h
            rw [k1] at e1
            have e3 : x < cl M a := e1
            rw [kc] at e3
            refine ⟨?_, e2⟩
            rw [lowN_cons, if_neg (by omega)]
  by_cases h3 : (atN M x).isSome = true ∨ (lowN L x = 0 ∧ (L.length : Int) = pk)
  · rw [if_pos h3, if_pos (hiff.1 h3)]; exact ⟨rfl, h⟩
  · rw [if_neg h3, if_neg (fun hh => h3 (hiff.2 hh))]
    refine ⟨rfl, ?_⟩
    have hn : isAt L x = false := by
      rw [at_same h]
      cases hs : (atN M x).isSome with
      | true => exact absurd (.inl hs) h3
      | false => rfl
    have := trim_same pk by_ _ _ (ins_same h b hn)
    rw [List.length_append, List.length_singleton] at this
    exact this
end Go.Proofs.Ytgiajnfmjpdodaa
