/- Losses, in plain words: what losses tell, the losses of numbers; of rising numbers they tell just these. -/
import Derived.Below
namespace Go.Proofs.Ytcempndfbckcaaa
def nack1 (s b : Nat) : List Nat := s :: ((List.range 16).filter b.testBit).map fun q => (s + 1 + q) % 65536
def nackN (L : List (Nat × Nat)) : List Nat := L.flatMap fun p => nack1 p.1 p.2
def gapN (x s : Nat) : Nat := (x + (65536 - s)) % 65536
def lossStep (out : List (Nat × Nat)) (x : Nat) : List (Nat × Nat) :=
 match out.getLast? with
 | none => out ++ [(x, 0)]
 | some (s, b) => if 1 ≤ gapN x s ∧ gapN x s ≤ 16 then out.dropLast ++ [(s, b ||| 2 ^ (gapN x s - 1))] else out ++ [(x, 0)]
def lossN (l : List Nat) : List (Nat × Nat) := l.foldl lossStep []
theorem nackN_append (a b : List (Nat × Nat)) : nackN (a ++ b) = nackN a ++ nackN b := by simp [nackN]
theorem lossN_lt (l : List Nat) (hb : ∀ x ∈ l, x < 65536) : ∀ p ∈ lossN l, p.1 < 65536 ∧ p.2 < 65536 := by
 have key : ∀ (l : List Nat) (out : List (Nat × Nat)), (∀ x ∈ l, x < 65536) → (∀ p ∈ out, p.1 < 65536 ∧ p.2 < 65536) → ∀ p ∈ l.foldl lossStep out, p.1 < 65536 ∧ p.2 < 65536 := by
  intro l
  induction l with
  | nil => exact fun out _ h => h
  | cons x l ih =>
   intro out hx ho
   refine ih _ (fun y hy => hx y (List.mem_cons_of_mem _ hy)) fun p hp => ?_
   have hx0 := hx x (List.mem_cons_self)
   unfold lossStep at hp
   have fresh : p ∈ out ++ [(x, 0)] → p.1 < 65536 ∧ p.2 < 65536 := fun hp => by
    rcases List.mem_append.1 hp with h | h
    ·exact ho p h
    ·simp only [List.mem_singleton] at h
     subst h
     exact ⟨hx0, (by decide : (0 : Nat) < 65536)⟩
   split at hp
   ·exact fresh hp
   rename_i s b hl
   split at hp
   case isFalse => exact fresh hp
   rename_i hk
   rcases List.mem_append.1 hp with h | h
   ·exact ho p (List.dropLast_subset _ h)
   ·simp only [List.mem_singleton] at h
    subst h
    obtain ⟨h1, h2⟩ := ho _ (List.mem_of_getLast? hl)
    exact ⟨h1, Nat.or_lt_two_pow (n := 16) h2 (Nat.pow_lt_pow_right (by decide) (by omega))⟩
 exact key l [] hb (fun p hp => by cases hp)
end Go.Proofs.Ytcempndfbckcaaa
