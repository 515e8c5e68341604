/- Arrays of bytes that come in. No condition. -/
import Derived.Test.YtikmhlbpefednaaGreatGBa
namespace Go.Proofs.YtikmhlbpefednaaGreat
open Go.RowKit
theorem bytes_of_cells (w : World) : ∀ (n : Nat) (l : List Value), l.length = n * 1 → (∀ i, i < n → Rd w (.label 4) ((l.drop (i * 1)).take 1)) → ∃ k : List Nat, l = k.map (fun x => Value.int .u8 (x : Nat)) ∧ k.length = n ∧ Byt k
 | 0, l, h, _ => by
  have : l = [] := List.eq_nil_of_length_eq_zero (by omega)
  exact ⟨[], by simp [this], rfl, fun i => by simp⟩
 | n + 1, [], h, _ => by simp at h
 | n + 1, v :: l, h, hr => by
  obtain ⟨m, hm, hw⟩ := hr 0 (by omega)
  simp at hm
  subst hm
  have hb := bounds_u8 hw
  obtain ⟨k, hk1, hk2, hk3⟩ := bytes_of_cells w n l (by simp at h ⊢; omega) (fun i hi => by
   have := hr (i + 1) (by omega)
   simpa using this)
  obtain ⟨m', rfl⟩ := Int.eq_ofNat_of_zero_le hb.1
  refine ⟨m' :: k, by simp [hk1, kd], by simp [hk2], fun i => ?_⟩
  cases i with
  | zero => simp; omega
  | succ i => simpa using hk3 i
end Go.Proofs.YtikmhlbpefednaaGreat
