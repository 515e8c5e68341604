/- A ring that keeps packets of one size by rising indices from 0 on, as many as there is room for. Plain law. -/
import Derived.Test.YtojedpahaifjgaaRiL
import Derived.Test.YtojedpahaifjgaaArB
namespace Go.Proofs.Ytojedpahaifjgaa
open Go.RowKit

/-- Put, for a law: all of the ring's is new since w0. -/
theorem put_law (w0 : World) (g : Nat) (pk by_ : Int) (v : Value) (L : PL) (x : Int) (bv : Value) (b : List Nat) (w : World) (h : RingV w w0.heap.size g pk by_ v L) (hg : w0.heap.size ≤ g) (hB : BW w0 w) (hs : Srt L) (hn : L.length ≤ 100000) (hl : lensL L ≤ 100000000)
    (hv : SB w bv b.length b) (hbn : b.length ≤ 100000) (p0 : 1 ≤ pk) (p1 : pk ≤ 9223372036854775807) (y0 : 0 ≤ by_) (y1 : by_ ≤ 9223372036854775807) :
    Calls Try.prog 44 #[.pointer (some ⟨g, 0, none⟩), .int .i64 x, bv] w fun e w' => e = .returned (.int .i64 ((putN pk by_ L x b).1 : Nat)) ∧ (∃ v', RingV w' w0.heap.size g pk by_ v' (putN pk by_ L x b).2 ∧ ∀ k, v'.ownBlock = some k → v.ownBlock = some k ∨ w.heap.size ≤ k) ∧ BW w0 w' ∧ Still (g :: v.ownBlock.toList) w w' := by
  refine (put_any w0.heap.size g pk by_ v L x bv b w h hs hn hl hB.size hv hbn p0 p1 y0 y1).mono ?_
  rintro e w' ⟨rfl, ⟨v', H, hG⟩, TS⟩
  exact ⟨rfl, ⟨v', H, hG⟩, BW.stP hB TS (fun k hk => by
    rcases List.mem_cons.1 hk with rfl | hk
    · exact hg
    · exact h.q.ge' k (by simpa using hk)), TS⟩
def keepL (z i : Nat) : PL := (List.range i).map fun j => (((j : Nat) : Int), zeros z)
theorem keep_len (z i : Nat) : (keepL z i).length = i := by simp [keepL]
theorem keep_cl {z i j : Nat} (h : j < i) : cl (keepL z i) j = (j : Nat) := by
  rw [cl_get (by rw [keep_len]; exact h)]
  simp [keepL]
theorem keep_srt (z i : Nat) : Srt (keepL z i) := fun a b h1 h2 => by
  rw [keep_len] at h2
  rw [keep_cl (by omega), keep_cl h2]; omega
theorem lensL_all (z : Nat) : ∀ (L : PL), (∀ p ∈ L, p.2.length = z) → lensL L = L.length * z
  | [], _ => by simp [lensL]
  | p :: L, h => by
    show p.2.length + lensL L = _
    rw [lensL_all z L (fun q hq => h q (List.mem_cons_of_mem _ hq)), h p List.mem_cons_self, List.length_cons, Nat.succ_mul]; omega
theorem keep_z (z i : Nat) : ∀ p ∈ keepL z i, p.2.length = z := fun p hp => by
  obtain ⟨j, _, rfl⟩ := List.mem_map.1 hp
  exact zeros_len z
theorem keep_lens (z i : Nat) : lensL (keepL z i) = i * z := by rw [lensL_all z _ (keep_z z i), keep_len]
theorem keep_low (z i : Nat) : lowN (keepL z i) (i : Int) = i := by
  refine lowN_eq (by rw [keep_len]; exact Nat.le_refl _) (fun j hj => ?_) (fun j h1 h2 => ?_)
  · rw [keep_cl hj]; omega
  · rw [keep_len] at h2; omega
theorem keep_put (z i : Nat) (hi : i < 8) (hz : z ≤ 255) : putN 10 10000 (keepL z i) (i : Int) (zeros z) = (0, keepL z (i + 1)) := by
  have hl := keep_len z i
  have hlow := keep_low z i
  have hnot : isAt (keepL z i) (i : Int) = false := by
    unfold isAt
    rw [hlow, hl, decide_eq_false (fun h => by omega)]
  have hmul : i * z ≤ 8 * 255 := Nat.mul_le_mul (by omega) hz
  unfold putN
  rw [if_neg (by omega), zeros_len, if_neg (by omega), hnot, hlow, hl, if_neg (by rintro (h | h); cases h; omega)]
  have hins : insN (keepL z i) (i : Int) (zeros z) = keepL z (i + 1) := by
    unfold insN
    rw [hlow, List.take_of_length_le (by omega), List.drop_of_length_le (by omega), List.append_nil]
    unfold keepL
    rw [List.range_succ, List.map_append, List.map_singleton]
  rw [hins]
  congr 1
  have h1 := keep_len z (i + 1)
  have h2 := keep_lens z (i + 1)
  have hmul2 : (i + 1) * z ≤ 8 * 255 := Nat.mul_le_mul (by omega) hz
  obtain ⟨a, t, hat⟩ : ∃ a t, keepL z (i + 1) = a :: t := by
    cases h : keepL z (i + 1) with
    | nil => rw [h] at h1; simp at h1
    | cons a t => exact ⟨a, t, rfl⟩
  rw [hat] at h1 h2 ⊢
  rw [List.length_cons] at h1
  unfold trimN
  rw [if_neg (by omega)]
end Go.Proofs.Ytojedpahaifjgaa
