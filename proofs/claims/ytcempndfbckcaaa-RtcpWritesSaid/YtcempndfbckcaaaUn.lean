/- A region in any order: operations that may come in whatever order, each keeps an invariant. -/
import Derived.Test.YtcempndfbckcaaaRg
namespace Go.Proofs.Ytcempndfbckcaaa
section
variable {P : Program} {Q : Exit → Act → World → Prop}
def lst (base : List Bool) : List Nat → List Bool → List Bool
 | [], _ => base
 | t :: T, b => (lst base T (b.drop 1)).set t (b.headD false)
def flagLists : Nat → List (List Bool)
 | 0 => [[]]
 | n + 1 => (flagLists n).flatMap fun l => [false :: l, true :: l]
theorem mem_flagLists : ∀ (b : List Bool), b ∈ flagLists b.length
 | [] => by simp [flagLists]
 | x :: b => by
  simp only [List.length_cons, flagLists, List.mem_flatMap]
  exact ⟨b, mem_flagLists b, by cases x <;> simp⟩
def okUn (l : List Oper) (wild loose : List Nat) (base : List Bool) (T : List Nat) : Bool :=
 T.all (fun t => loose.contains t && !wild.contains t) &&
 (flagLists T.length).all fun b => b.all (· == true) || ((Region.ready .any l.toArray (lst base T b).toArray).all fun j =>
  (List.range T.length).any fun i => T.getD i 0 == j && b.getD i true == false && (lst base T b).set j true == lst base T (b.set i true)) && !(Region.ready .any l.toArray (lst base T b).toArray).isEmpty
theorem unordered {fl : List Flt} {l : List Oper} {S : List Nat} {row wild loose : List Nat} {base : List Bool} (T : List Nat) (hok : okUn l wild loose base T = true) {n : Nat} (hn : T.length = n) {a : Act} {f : Nat}
  (hd : ∀ t ∈ T, ∃ o, l[t]? = some o ∧ o.dst = none ∧ Region.wanted o (yielded l.toArray a.tmps) = true)
  (Inv : List Bool → World → Prop) (hst : ∀ b w w', Inv b w → Still [] w w' → Inv b w')
  (hstep : ∀ b i, i < n → b.getD i true = false → ∀ w, Inv b w → ∀ o, l[T.getD i 0]? = some o → ∀ K : Act → World → Prop, (∀ w', Inv (b.set i true) w' → K a w') → o.wp P a w K NoQ)
  (next : ∀ w, Inv (List.replicate n true) w → GG P l S row wild loose fl Q f (lst base T (List.replicate n true)) a w) :
  ∀ (m : Nat) (b : List Bool), b.length = n → (b.filter (· == false)).length = m → ∀ w, Inv b w → GG P l S row wild loose fl Q (f + m) (lst base T b) a w := by
 subst hn
 have hall := hok
 simp only [okUn, Bool.and_eq_true] at hall
 intro m
 induction m with
 | zero =>
  intro b hb hm w hi
  have : b = List.replicate T.length true := by
   refine List.eq_replicate_iff.2 ⟨hb, fun x hx => ?_⟩
   cases x with
   | true => rfl
   | false =>
    have : false ∈ b.filter (· == false) := List.mem_filter.2 ⟨hx, rfl⟩
    rw [List.length_eq_zero_iff.1 hm] at this
    cases this
  subst this
  exact next w hi
 | succ m ih =>
  intro b hb hm w hi x
  have hbm : b ∈ flagLists T.length := by rw [← hb]; exact mem_flagLists b
  have h1 := List.all_eq_true.1 hall.2 b hbm
  have hnf : b.all (· == true) = false := by
   cases hc : b.all (· == true) with
   | false => rfl
   | true =>
    have : b.filter (· == false) = [] := List.filter_eq_nil_iff.2 fun y hy => by
     have := List.all_eq_true.1 hc y hy
     simp at this
     simp [this]
    rw [this] at hm
    cases hm
  rw [hnf] at h1
  simp only [Bool.false_or, Bool.and_eq_true, Bool.not_eq_true'] at h1
  refine ⟨fun h0 => ?_, fun j hj => ?_⟩
  ·have := h1.2
   rw [show Region.ready .any l.toArray (lst base T b).toArray = [] from h0] at this
   cases this
  ·have h2 := List.all_eq_true.1 h1.1 j hj
   obtain ⟨i, hi1, h3⟩ := List.any_eq_true.1 h2
   simp only [Bool.and_eq_true, beq_iff_eq] at h3
   obtain ⟨⟨h4, h5⟩, h6⟩ := h3
   have hil : i < T.length := List.mem_range.1 hi1
   have hjT : j ∈ T := by
    rw [← h4, List.getD_eq_getElem?_getD, List.getElem?_eq_getElem hil]
    exact List.getElem_mem hil
   obtain ⟨o, ho, hod, how⟩ := hd j hjT
   have hww := List.all_eq_true.1 hall.1 j hjT
   simp only [Bool.and_eq_true, Bool.not_eq_true'] at hww
   rw [if_neg (by show ¬ wild.contains j = true; rw [hww.2]; exact Bool.false_ne_true)]
   unfold wpOp
   have ho' : l.toArray[j]? = some o := by simpa using ho
   simp only [ho', how, if_true]
   refine .inl (hstep b i hil h5 x.now (hst b w x.now hi x.ok) o (by rw [h4]; exact ho) _ fun w' hw' => ⟨?_, fun y => ?_⟩)
   ·show StO (if loose.contains j then none else _) _ _
    rw [hww.1]; trivial
   ·have hlen : (b.set i true).length = T.length := by rw [List.length_set]; exact hb
    have hcount : ((b.set i true).filter (· == false)).length = m := by
     have hib : i < b.length := by omega
     have hbi : b[i] = false := by
      rw [List.getD_eq_getElem?_getD, List.getElem?_eq_getElem hib] at h5
      simpa using h5
     have e1 : b.countP (· == false) = m + 1 := by rw [List.countP_eq_length_filter]; exact hm
     rw [← List.countP_eq_length_filter, List.countP_set hib, e1, hbi]
     simp
    have h7 := ih (b.set i true) hlen hcount y.now (hst _ _ _ hw' y.ok)
    rw [← h6] at h7
    have h8 := h7 (LaterS.first [] y.now)
    rw [List.setIfInBounds_toArray]
    exact h8
end
end Go.Proofs.Ytcempndfbckcaaa
