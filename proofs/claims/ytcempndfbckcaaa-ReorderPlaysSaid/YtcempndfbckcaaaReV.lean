/- Packets put into order: what a put leaves, by the plain state. Plain law. -/
import Derived.Test.YtcempndfbckcaaaReO
namespace Go.Proofs.Ytcempndfbckcaaa

def risesFrom : Int → List (Int × List Nat) → Prop
  | _, [] => True
  | lo, p :: t => lo ≤ p.1 ∧ risesFrom (p.1 + 1) t
def endHi : Int → List (Int × List Nat) → Int
  | hi, [] => hi
  | _, p :: t => endHi p.1 t
theorem may_pos {S : BS} {tick : Int} (h : mayS S tick = true) : 0 < S.L.length := by
  unfold mayS at h
  rw [Bool.and_eq_true] at h
  exact of_decide_eq_true h.1
theorem tick_hi (tick : Int) : ∀ (k : Nat) (S : BS) (hi : Int), BOk S → 0 ≤ S.next → hi + 1 ≤ S.next → risesFrom (hi + 1) (tickS tick k S).2 ∧ endHi hi (tickS tick k S).2 + 1 ≤ (tickS tick k S).1.next ∧ 0 ≤ (tickS tick k S).1.next
  | 0, S, hi, _, h0, h1 => ⟨trivial, h1, h0⟩
  | k + 1, S, hi, hb, h0, h1 => by
    unfold tickS
    cases hm : mayS S tick with
    | false => exact ⟨trivial, h1, h0⟩
    | true =>
      have hp := may_pos hm
      have ht := hb.ix _ (top_mem hp)
      obtain ⟨a, b, c⟩ := tick_hi tick k (takeS S) S.top.i (take_ok hp hb) (by show 0 ≤ S.top.i + 1; omega) (Int.le_refl _)
      exact ⟨⟨by show hi + 1 ≤ S.top.i; omega, a⟩, b, c⟩
theorem tick_ok (tick : Int) : ∀ (k : Nat) (S : BS), BOk S → BOk (tickS tick k S).1 ∧ (tickS tick k S).1.many = S.many ∧ (tickS tick k S).1.wait = S.wait ∧ (tickS tick k S).1.dropped = S.dropped ∧ (tickS tick k S).1.L.length ≤ S.L.length ∧ (tickS tick k S).2.length ≤ S.L.length
  | 0, S, h => ⟨h, rfl, rfl, rfl, Nat.le_refl _, Nat.zero_le _⟩
  | k + 1, S, h => by
    unfold tickS
    cases hm : mayS S tick with
    | false => exact ⟨h, rfl, rfl, rfl, Nat.le_refl _, Nat.zero_le _⟩
    | true =>
      have hp := may_pos hm
      have hl := take_len hp
      obtain ⟨a, b, c, d, e, f⟩ := tick_ok tick k (takeS S) (take_ok hp h)
      refine ⟨a, b, c, d, ?_, ?_⟩
      · show (tickS tick k (takeS S)).1.L.length ≤ _
        omega
      · show ((S.top.i, S.top.b) :: (tickS tick k (takeS S)).2).length ≤ _
        rw [List.length_cons]; omega
theorem tick_room (tick : Int) : ∀ (k : Nat) (S : BS), S.L.length ≤ k → 0 ≤ S.many → ((tickS tick k S).1.L.length : Int) ≤ S.many
  | 0, S, h, h0 => by
    show (S.L.length : Int) ≤ _
    omega
  | k + 1, S, h, h0 => by
    unfold tickS
    cases hm : mayS S tick with
    | false =>
      show (S.L.length : Int) ≤ _
      by_cases hp : 0 < S.L.length
      · unfold mayS lateS at hm
        rw [decide_eq_true hp, Bool.true_and, Bool.or_eq_false_iff, Bool.or_eq_false_iff] at hm
        have := of_decide_eq_false hm.2.1
        omega
      · omega
    | true =>
      have hp := may_pos hm
      have hl := take_len hp
      exact tick_room tick k (takeS S) (by omega) h0
theorem flush_ok : ∀ (k : Nat) (S : BS), BOk S → BOk (flushS k S).1 ∧ (flushS k S).1.many = S.many ∧ (flushS k S).1.wait = S.wait ∧ (flushS k S).1.dropped = S.dropped ∧ (flushS k S).1.L.length ≤ S.L.length
  | 0, S, h => ⟨h, rfl, rfl, rfl, Nat.le_refl _⟩
  | k + 1, S, h => by
    unfold flushS
    by_cases hp : 0 < S.L.length
    · rw [if_pos hp]
      have hl := take_len hp
      obtain ⟨a, b, c, d, e⟩ := flush_ok k (takeS S) (take_ok hp h)
      refine ⟨a, b, c, d, ?_⟩
      show (flushS k (takeS S)).1.L.length ≤ _
      omega
    · rw [if_neg hp]
      exact ⟨h, rfl, rfl, rfl, Nat.le_refl _⟩
/-- What stays behind each call. -/
structure BK (S : BS) (many : Int) (d : Int) : Prop where
  ok : BOk S
  mn : S.many = many
  rm : (S.L.length : Int) ≤ many
  dr : 0 ≤ S.dropped ∧ S.dropped ≤ d
theorem any_nil {S : BS} (k : BOk S) (h : S.next < 0) : S.L = [] := by
  have h0 : ¬ 0 < S.L.length := fun h2 => by have := k.st h2; omega
  exact List.eq_nil_of_length_eq_zero (by omega)
theorem put_ok (i tick : Int) (b : List Nat) (S : BS) (many d : Int) (h : BK S many d) (h0 : 0 ≤ many) (hi : i ≤ 1152921504606846976) (ht : -1152921504606846976 ≤ tick ∧ tick ≤ 1152921504606846976) : BK (putS i tick b S).1 many (d + 1) ∧ (putS i tick b S).1.wait = S.wait ∧ ∀ hi, hi + 1 ≤ max S.next 0 → risesFrom (hi + 1) (putS i tick b S).2.1 ∧ endHi hi (putS i tick b S).2.1 + 1 ≤ max (putS i tick b S).1.next 0 := by
  obtain ⟨hk, hm, hr, hd⟩ := h
  unfold putS
  by_cases h1 : i < 0
  · rw [if_pos h1]
    exact ⟨⟨hk, hm, hr, hd.1, by show S.dropped ≤ d + 1; omega⟩, rfl, fun hi h => ⟨trivial, h⟩⟩
  rw [if_neg h1]
  by_cases h2 : 0 ≤ S.next ∧ (i < S.next ∨ S.L.any (isE i) = true)
  · rw [if_pos h2]
    exact ⟨⟨⟨hk.ix, hk.ca, hk.nd, hk.nx, hk.st, hk.pa⟩, hm, hr, by show 0 ≤ S.dropped + 1 ∧ S.dropped + 1 ≤ d + 1; omega⟩, rfl, fun hi h => ⟨trivial, h⟩⟩
  rw [if_neg h2]
  dsimp only
  obtain ⟨S1, hS1⟩ : ∃ S1, (if S.next < 0 then { S with next := i } else S : BS) = S1 := ⟨_, rfl⟩
  rw [hS1]
  have hA : BOk S1 ∧ 0 ≤ S1.next ∧ S1.next ≤ i ∧ S1.L.any (isE i) = false ∧ S1.many = many ∧ S1.wait = S.wait ∧ S1.dropped = S.dropped ∧ ∀ hi, hi + 1 ≤ max S.next 0 → hi + 1 ≤ S1.next := by
    by_cases h3 : S.next < 0
    · rw [if_pos h3] at hS1
      subst hS1
      refine ⟨first_ok hk h3 ⟨by omega, hi⟩, by show 0 ≤ i; omega, Int.le_refl _, ?_, hm, rfl, rfl, fun hi h => ?_⟩
      · rw [show ({ S with next := i } : BS).L = S.L from rfl, any_nil hk h3]; rfl
      · show hi + 1 ≤ i
        omega
    · rw [if_neg h3] at hS1
      subst hS1
      have h4 : ¬ (i < S.next ∨ S.L.any (isE i) = true) := fun h => h2 ⟨by omega, h⟩
      refine ⟨hk, by omega, ?_, ?_, hm, rfl, rfl, fun hi h => by omega⟩
      · have : ¬ i < S.next := fun h => h4 (.inl h)
        omega
      · cases h5 : S.L.any (isE i) with
        | false => rfl
        | true => exact absurd (.inr h5) h4
  obtain ⟨a1, a2, a3, a4, a5, a6, a7, a8⟩ := hA
  have hB : BOk (addS S1 ⟨i, b, tick⟩) := add_ok a1 ⟨by show 0 ≤ i; omega, hi⟩ a3 a2 ht a4
  obtain ⟨t1, t2, t3, t4, t5, t6⟩ := tick_ok tick (addS S1 ⟨i, b, tick⟩).L.length _ hB
  have t7 := tick_room tick (addS S1 ⟨i, b, tick⟩).L.length (addS S1 ⟨i, b, tick⟩) (Nat.le_refl _) (by show 0 ≤ S1.many; omega)
  refine ⟨⟨t1, t2.trans a5, ?_, ?_⟩, t3.trans a6, fun hi h => ?_⟩
  · rw [← a5]; exact t7
  · rw [t4]
    show 0 ≤ S1.dropped ∧ S1.dropped ≤ d + 1
    omega
  · obtain ⟨u1, u2, u3⟩ := tick_hi tick (addS S1 ⟨i, b, tick⟩).L.length (addS S1 ⟨i, b, tick⟩) hi hB a2 (a8 hi h)
    refine ⟨u1, ?_⟩
    have := Int.le_max_left (tickS tick (addS S1 ⟨i, b, tick⟩).L.length (addS S1 ⟨i, b, tick⟩)).1.next 0
    omega
theorem tick_bk (tick : Int) (S : BS) (many d : Int) (h : BK S many d) : BK (tickS tick S.L.length S).1 many d ∧ (tickS tick S.L.length S).1.wait = S.wait := by
  obtain ⟨t1, t2, t3, t4, t5, t6⟩ := tick_ok tick S.L.length S h.ok
  have h1 := h.rm
  exact ⟨⟨t1, t2.trans h.mn, by omega, by rw [t4]; exact h.dr⟩, t3⟩
theorem flush_bk (S : BS) (many d : Int) (h : BK S many d) : BK (flushS S.L.length S).1 many d ∧ (flushS S.L.length S).1.wait = S.wait := by
  obtain ⟨t1, t2, t3, t4, t5⟩ := flush_ok S.L.length S h.ok
  have h1 := h.rm
  exact ⟨⟨t1, t2.trans h.mn, by omega, by rw [t4]; exact h.dr⟩, t3⟩
end Go.Proofs.Ytcempndfbckcaaa
