/- The box by definition: the inverse sought among all, and the affine map. A closed check over all bytes (long). -/
import Derived.Test.YtikmhlbpefednaaAesK
namespace Go.Proofs.Ytikmhlbpefednaa
def invT (c : Nat) : Nat → Nat
  | 0 => 0
  | i + 1 => if timesP c (i + 1) = 1 then i + 1 else invT c i
theorem invT_le (c : Nat) : ∀ i, invT c i ≤ i
  | 0 => Nat.le_refl _
  | i + 1 => by
    have := invT_le c i
    rw [invT]; split <;> omega
theorem sbox_aff_all : (List.range 256).all (fun c => Nat.beq (sbox.getD c 0) (mo (invT c 255) 8)) = true := by decide +kernel
theorem sbox_aff (c : Nat) (hc : c < 256) : sbox.getD c 0 = mo (invT c 255) 8 :=
  Nat.eq_of_beq_eq_true (List.all_eq_true.1 sbox_aff_all c (List.mem_range.2 hc))
end Go.Proofs.Ytikmhlbpefednaa
