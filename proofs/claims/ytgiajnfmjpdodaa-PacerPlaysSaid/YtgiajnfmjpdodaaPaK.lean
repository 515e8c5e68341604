/- The ops of a play on a pacer, read from the arguments. No condition. -/
import Derived.Test.YtgiajnfmjpdodaaPaJ
import Derived.Test.YtgiajnfmjpdodaaRd
namespace Go.Proofs.Ytgiajnfmjpdodaa
open Go.RowKit

theorem give_bound (u h r : Int) (hh : 0 ≤ h) (hr : 0 ≤ r) : giveN u h r ≤ h + r ∧ giveN u h r ≤ u ∧ (0 ≤ u → 0 ≤ giveN u h r) := by
  unfold giveN satN
  split <;> omega
theorem sb_lt {w : World} {v : Value} {n : Nat} {l : List Nat} (h : SB w v n l) (h0 : 0 < n) (k : Nat) (hk : v.ownBlock = some k) : k < w.heap.size := by
  obtain ⟨g, o, cap, rfl, h1, _⟩ := h.form h0
  simp only [Value.ownBlock, Option.some.injEq] at hk
  omega
def srt (L : List (Int × List Nat)) : Prop := ∀ (k : Nat) (h : k + 1 < L.length), (L[k]).1 ≤ (L[k + 1]).1
theorem lensL_take (o : List (Int × List Nat)) (j : Nat) (h : j < o.length) : lensL (o.take (j + 1)) = lensL (o.take j) + (o[j]).2.length := by
  rw [List.take_succ_eq_append_getElem h, ← lensL_snoc _ (o[j]).1]
theorem lensL_le (o : List (Int × List Nat)) (j : Nat) : lensL (o.take j) ≤ lensL o := by
  unfold lensL; rw [List.map_take]; exact sum_take_le _ _
theorem PacV.ge {w : World} {base g gb : Nat} {vs : List Value} {S : PcS} (h : PacV w base g gb vs S) : ∀ k ∈ blks vs, base ≤ k := fun k hk => by
  obtain ⟨u, hu, hk⟩ := List.mem_flatMap.1 hk
  obtain ⟨i, hi, e⟩ := List.mem_iff_getElem.1 hu
  have h1 := h.pq i (by rw [← h.vl]; exact hi)
  rw [List.getD_eq_getElem?_getD, List.getElem?_eq_getElem hi] at h1
  refine h1.ge' k ?_
  show vs[i].ownBlock = some k
  rw [e]
  simpa using hk

abbrev popTy : Ty := .scope (.seq (.label 4) (.seq (.scope (.seq (.label 3) (.seq (.loop (.label 4)) .skip))) .skip))
theorem pop_at {w : World} {a : Option Addr} {len cap : Nat} (h : Rd w (.loop popTy) [.slice a len cap]) :
    len ≤ cap ∧ cap ≤ maxLen ∧ (len = 0 ∨ ∃ b o, a = some ⟨b, o, none⟩ ∧ b < w.heap.size ∧ ∀ i, i < len → ∃ (k c : Int) (sa : Option Addr) (n cp : Nat) (l : List Nat), w.cell? ⟨b, o + i * 3, none⟩ = some (.int .u8 k) ∧ w.cell? ⟨b, o + i * 3 + 1, none⟩ = some (.int .i64 c) ∧ w.cell? ⟨b, o + i * 3 + 2, none⟩ = some (.slice sa n cp) ∧ SB w (.slice sa n cp) n l ∧ 0 ≤ k ∧ k ≤ 255 ∧ -9223372036854775808 ≤ c ∧ c ≤ 9223372036854775807) := by
  obtain ⟨h1, h2, h3⟩ := Rd.slice_at h (by decide)
  refine ⟨h1, h2, ?_⟩
  rcases h3 with ⟨_, h, _⟩ | ⟨_, h, _⟩ | ⟨b, o, rfl, hb, hc, hi⟩
  · exact .inl h
  · exact .inl h
  · right
    refine ⟨b, o, rfl, hb, fun i hil => ?_⟩
    obtain ⟨cs, hl, hr, hx⟩ := hi i (by omega)
    obtain ⟨c1, r1, rfl, ⟨n1, rfl, hw1⟩, c2, r2, rfl, ⟨c3, r3, rfl, ⟨n2, rfl, hw2⟩, c4, r4, rfl, hs, h4⟩, h5⟩ := hr
    have h4' : r4 = [] := h4
    have h5' : r2 = [] := h5
    subst h4' h5'
    rcases hs with rfl | ⟨x, ln, cp, rfl, q1, q2, q3⟩
    · have e0 := hx 0 (by decide)
      have e1 := hx 1 (by decide)
      have e2 := hx 2 (by decide)
      have hR : Rd w (.loop (.label 4)) [.slice none 0 0] := .inl rfl
      obtain ⟨l, hv⟩ := SB_of_Rd hR
      have b1 := bounds_u8 hw1
      have b2 := bounds_i64 hw2
      exact ⟨n1, n2, none, 0, 0, l, e0, e1, e2, hv, b1.1, b1.2, b2.1, b2.2⟩
    · have e0 := hx 0 (by decide)
      have e1 := hx 1 (by decide)
      have e2 := hx 2 (by decide)
      have hR : Rd w (.loop (.label 4)) [.slice (some x) ln cp] := .inr ⟨x, ln, cp, rfl, q1, q2, q3⟩
      obtain ⟨l, hv⟩ := SB_of_Rd hR
      have b1 := bounds_u8 hw1
      have b2 := bounds_i64 hw2
      exact ⟨n1, n2, some x, ln, cp, l, e0, e1, e2, hv, b1.1, b1.2, b2.1, b2.2⟩
end Go.Proofs.Ytgiajnfmjpdodaa
