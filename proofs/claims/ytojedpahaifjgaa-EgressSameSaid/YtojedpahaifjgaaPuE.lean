/- Kinds of elements that are plain cells; slices of any kind that are only read. Nothing of the program; no condition. -/
import Derived.Test.YtojedpahaifjgaaGEl
import Derived.Test.YtojedpahaifjgaaGBa
namespace Go.Proofs.Ytojedpahaifjgaa
open Go.RowKit
variable {α : Type}
def SQ (E : Elt α) (w : World) (base : Nat) (v : Value) (n : Nat) (l : List α) : Prop := l.length = n ∧ ∃ xs, Sls w E.size v n xs ∧ EL E w base l xs
theorem EQ.sq {E : Elt α} {T : TypeId} {w : World} {base : Nat} {v : Value} {n : Nat} {l : List α} (h : EQ E T w base v n l) : SQ E w base v n l := by
 obtain ⟨h1, xs, h2, h3⟩ := h
 exact ⟨h1, xs, h2.sls, h3⟩
theorem SQ.bw {E : Elt α} {a b : World} {base : Nat} {v : Value} {n : Nat} {l : List α} (h : SQ E a base v n l) (hb : BW a b) : SQ E b base v n l := by
 obtain ⟨h1, xs, h2, h3⟩ := h
 exact ⟨h1, xs, h2.bw hb, h3.mono fun _ _ h => E.bw h hb⟩
theorem SQ.len {E : Elt α} {w : World} {base : Nat} {v : Value} {n : Nat} {l : List α} (h : SQ E w base v n l) : ∃ sa cap, v = .slice sa n cap ∧ n ≤ cap ∧ cap ≤ maxLen := h.2.choose_spec.1.len
theorem SQ.still {E : Elt α} {w w' : World} {base : Nat} {v : Value} {n : Nat} {l : List α} (h : SQ E w base v n l) {S : List Nat} (hs : Still S w w') (hS : ∀ k ∈ S, E.Ok w k) (hv : ∀ g, v.ownBlock = some g → g ∉ S) : SQ E w' base v n l := by
 obtain ⟨h1, xs, h2, h3⟩ := h
 exact ⟨h1, xs, h2.still hs hv, h3.mono fun _ _ h => E.still h hs hS⟩
theorem SQ.form {E : Elt α} {w : World} {base : Nat} {v : Value} {n : Nat} {l : List α} (h : SQ E w base v n l) (h0 : 0 < n) :
  ∃ g o cap, v = .slice (some ⟨g, o, Option.none⟩) n cap ∧ g < w.heap.size ∧ n ≤ cap ∧ cap ≤ maxLen ∧ ∀ i (_ : i < l.length), ∃ c, E.R w base l[i] c ∧ ∀ j, j < E.size → w.cell? ⟨g, o + (i * E.size + j), Option.none⟩ = c[j]? := by
 obtain ⟨h1, xs, h2, h3⟩ := h
 obtain ⟨b, o, cap, rfl, hc, hm, hlt, hx⟩ := h2.form h0
 refine ⟨b, o, cap, rfl, hlt, hc, hm, fun i hi => ?_⟩
 obtain ⟨c, hR, hce⟩ := h3.get i hi
 refine ⟨c, hR, fun j hj => ?_⟩
 rw [hx _ (by rw [h1] at hi; have := Nat.mul_le_mul_right E.size (show i + 1 ≤ n by omega); rw [Nat.succ_mul] at this; omega), hce j hj]
theorem SQ.own {E : Elt α} {w : World} {base : Nat} {v : Value} {n : Nat} {l : List α} (h : SQ E w base v n l) (h0 : 0 < n) : ∀ k, v.ownBlock = some k → k < w.heap.size := by
 obtain ⟨g, o, cap, rfl, hlt, _⟩ := h.form h0
 intro k hk
 cases hk
 exact hlt
theorem EL.of {E : Elt α} {w : World} {base : Nat} : ∀ (l : List (List Value × α)), (∀ p ∈ l, E.R w base p.2 p.1) → EL E w base (l.map Prod.snd) (l.map Prod.fst).flatten
 | [], _ => rfl
 | p :: l, h => ⟨p.1, (l.map Prod.fst).flatten, rfl, h p (List.mem_cons_self), EL.of l fun q hq => h q (List.mem_cons_of_mem _ hq)⟩
end Go.Proofs.Ytojedpahaifjgaa
