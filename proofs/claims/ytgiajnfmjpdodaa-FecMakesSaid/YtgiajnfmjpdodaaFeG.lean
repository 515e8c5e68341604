/- Covers of packets: rows of bytes that grow. No condition but the sizes'. -/
import Derived.Test.YtgiajnfmjpdodaaFeF
import Derived.Test.YtgiajnfmjpdodaaIB
namespace Go.Proofs.Ytgiajnfmjpdodaa
open Go.RowKit

/-- Bytes of the call's own. -/
def BR : Elt (List Nat) where
  size := 1
  R := fun w base a c => ∃ v, c = [v] ∧ OB w base 5 v a.length a
  Ok := NoB
  pos := by decide
  len := fun ⟨v, e, _⟩ => by rw [e]; rfl
  one := fun ⟨v, e, hv⟩ u hu => by
    rw [e] at hu
    obtain ⟨s, c, rfl, _, _⟩ := hv.len
    simp at hu
    rcases hu with rfl
    rfl
  bw := fun ⟨v, e, hv⟩ hb => ⟨v, e, hv.bw hb⟩
  up := fun ⟨v, e, hv⟩ hb => ⟨v, e, hv.up hb⟩
  still := fun ⟨v, e, hv⟩ hs hS => ⟨v, e, hv.still hs (NoB.ob hv hS)⟩
  old := fun ⟨v, e, hv⟩ hs hS => ⟨v, e, hv.still hs (fun k hk hm => by have := hv.ge' k hk; have := hS k hm; omega)⟩
theorem EL_rows {w : World} {base : Nat} : ∀ {l : List (List Nat)} {xs : List Value}, EL BR w base l xs → ∀ i x, xs[i]? = some x → ∃ ln, SB w x ln (l.getD i [])
  | [], _, h, i, x, hx => by rw [show _ = [] from h] at hx; simp at hx
  | a :: l, _, ⟨c, xs', e, ⟨v, hc, hv⟩, h2⟩, i, x, hx => by
    rw [e, hc] at hx
    cases i with
    | zero =>
      simp at hx
      subst hx
      exact ⟨_, hv.sb⟩
    | succ i =>
      simp at hx
      have := EL_rows h2 i x hx
      simpa using this
theorem EQ.sm {w : World} {base : Nat} {v : Value} {n : Nat} {l : List (List Nat)} (h : EQ BR 22 w base v n l) : SM w v n l := by
  obtain ⟨h0, xs, h1, h2⟩ := h
  exact ⟨h0, xs, h1.sls, EL_rows h2⟩
end Go.Proofs.Ytgiajnfmjpdodaa
