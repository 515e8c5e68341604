/- Packets put into order: one put, by the plain state. No condition but the sizes'. -/
import Derived.Test.YtcempndfbckcaaaReN
namespace Go.Proofs.Ytcempndfbckcaaa
open Go.RowKit

def addS (S : BS) (E : Ent) : BS := { S with L := S.L ++ [E] }
/-- What a put tells: the state, what is told, an error's number. -/
def putS (i tick : Int) (b : List Nat) (S : BS) : BS × List (Int × List Nat) × Nat :=
  if i < 0 then (S, [], 1)
  else if 0 ≤ S.next ∧ (i < S.next ∨ S.L.any (isE i) = true) then ({ S with dropped := S.dropped + 1 }, [], 5)
  else
    let S2 := addS (if S.next < 0 then { S with next := i } else S) ⟨i, b, tick⟩
    ((tickS tick S2.L.length S2).1, (tickS tick S2.L.length S2).2, 0)
theorem add_ok {S : BS} {E : Ent} (k : BOk S) (h1 : 0 ≤ E.i ∧ E.i ≤ 1152921504606846976) (h2 : S.next ≤ E.i) (h3 : 0 ≤ S.next) (h4 : -1152921504606846976 ≤ E.c ∧ E.c ≤ 1152921504606846976) (h5 : S.L.any (isE E.i) = false) : BOk (addS S E) := by
  have h6 : ∀ x ∈ S.L, x.i ≠ E.i := fun x hx e => by
    have := List.any_eq_false.1 h5 x hx
    simp [isE, e] at this
  refine ⟨fun x hx => ?_, fun x hx => ?_, ?_, k.nx, fun _ => h3, k.pa⟩
  · rcases List.mem_append.1 hx with h | h
    · exact k.ix x h
    · obtain rfl : x = E := by simpa using h
      exact ⟨h1.1, h1.2, h2⟩
  · rcases List.mem_append.1 hx with h | h
    · exact k.ca x h
    · obtain rfl : x = E := by simpa using h
      exact h4
  · show ((S.L ++ [E]).map Ent.i).Nodup
    rw [List.map_append, List.nodup_append]
    refine ⟨k.nd, by simp, fun a ha b hb => ?_⟩
    obtain ⟨x, hx, rfl⟩ := List.mem_map.1 ha
    obtain rfl : b = E.i := by simpa using hb
    exact h6 x hx
theorem first_ok {S : BS} {i : Int} (k : BOk S) (h : S.next < 0) (h1 : 0 ≤ i ∧ i ≤ 1152921504606846976) : BOk { S with next := i } := by
  have h0 : ¬ 0 < S.L.length := fun h2 => by have := k.st h2; omega
  have hn : S.L = [] := List.eq_nil_of_length_eq_zero (by omega)
  have hp := k.pa
  refine ⟨fun x hx => ?_, k.ca, k.nd, ?_, fun _ => h1.1, ?_⟩
  · exact absurd hx (by rw [show ({ S with next := i } : BS).L = S.L from rfl, hn]; simp)
  · show -1 ≤ i ∧ i ≤ _
    omega
  · show 0 ≤ S.passed ∧ S.passed ≤ max i 0
    omega
theorem hpush_st (base g0 cv : Nat) (sa : Option Addr) (S : BS) (H : List Ent) (E : Ent) (s : Option Addr) (cb : Nat) (hn : S.L.length < 1000) (w : World) (hb0 : base ≤ w.heap.size) (h : BufI w base g0 sa cv S H) (hk : BOk (addS S E)) (ho : OB w base 5 (.slice s E.b.length cb) E.b.length E.b) :
    Calls Try.prog 75 #[.iface 134 (.pointer (some ⟨g0, 3, none⟩)), .iface 131 (.agg #[.int .i64 E.i, .slice s E.b.length cb, .int .i64 E.c])] w fun e w' => e = .returned (.tuple #[]) ∧ ∃ sb cc H', cc ≤ maxLen ∧ BufI w' base g0 sb cc (addS S E) H' ∧ Still (g0 :: (Value.slice sa S.L.length cv).ownBlock.toList) w w' ∧ (∀ j, (Value.slice sb (S.L.length + 1) cc).ownBlock = some j → (Value.slice sa S.L.length cv).ownBlock = some j ∨ w.heap.size ≤ j) := by
  obtain ⟨hp, heq, hh, hpm, hok, how⟩ := h
  have hlt := hp.lt
  refine (hpush_any base g0 3 cv S.L.length sa _ H E s cb (by omega) w hb0 how hp rfl heq ho hh).mono ?_
  rintro e w' ⟨rfl, sb, cc, L', hm, p1, h3, P3, Q3, T3, G3⟩
  have hl : (addS S E).L.length = S.L.length + 1 := by simp [addS]
  refine ⟨rfl, sb, cc, L', hm, ⟨?_, ?_, ?_, ?_, hk, ?_⟩, T3, G3⟩
  · rw [hl]; exact P3
  · rw [hl]; exact Q3
  · rw [hl]; exact h3
  · exact (hpm.append_right [E]).trans p1
  · rw [hl]
    intro e
    rcases G3 g0 e with h1 | h1
    · exact how h1
    · omega
end Go.Proofs.Ytcempndfbckcaaa
