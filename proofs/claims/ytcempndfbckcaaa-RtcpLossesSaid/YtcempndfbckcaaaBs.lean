/- Slices of bytes that are read: 'SlB w sa ln cp l': the slice's elements are the numbers l, each from 0 to 255. Small laws on worlds. No condition. -/
import Derived.Test.YtcempndfbckcaaaRd
import Derived.WalkSpells
import Derived.WalkLawsBesides
import Derived.Lib.Hide
import Derived.IntWalk
namespace Go.Proofs.Ytcempndfbckcaaa
open Go.RowKit

def SlB (w : World) (sa : Option Addr) (ln cp : Nat) (l : List Int) : Prop :=
  ln = l.length ∧ ln ≤ cp ∧ cp ≤ maxLen ∧ (∀ x ∈ l, 0 ≤ x ∧ x ≤ 255) ∧
  ((ln = 0 ∧ (sa = none → cp = 0)) ∨ ∃ b o, sa = some ⟨b, o, none⟩ ∧ b < w.heap.size ∧ ∀ i, i < ln → w.cell? ⟨b, o + i, none⟩ = some (.int .u8 (l.getD i 0)))

theorem SlB.below {w w' : World} {sa : Option Addr} {ln cp : Nat} {l : List Int} (h : SlB w sa ln cp l) (hb : Below w.heap.size w w') : SlB w' sa ln cp l := by
  obtain ⟨h1, h2, h3, h4, h5⟩ := h
  refine ⟨h1, h2, h3, h4, ?_⟩
  rcases h5 with h5 | ⟨b, o, hs, hlt, hc⟩
  · exact .inl h5
  · exact .inr ⟨b, o, hs, Nat.lt_of_lt_of_le hlt hb.size, fun i hi => (hb.cell (p := ⟨b, o + i, none⟩) hlt).trans (hc i hi)⟩

theorem SlB.len {w : World} {sa : Option Addr} {ln cp : Nat} {l : List Int} (h : SlB w sa ln cp l) : ln ≤ 9223372036854775807 := by
  obtain ⟨h1, h2, h3, _⟩ := h
  unfold maxLen at h3; omega

theorem getD_range {l : List Int} (h : ∀ x ∈ l, 0 ≤ x ∧ x ≤ 255) (i : Nat) : 0 ≤ l.getD i 0 ∧ l.getD i 0 ≤ 255 := by
  rw [List.getD_eq_getElem?_getD]
  rcases Nat.lt_or_ge i l.length with hi | hi
  · rw [List.getElem?_eq_getElem hi]; exact h _ (List.getElem_mem hi)
  · rw [List.getElem?_eq_none hi]; simp

/-- What came in as a slice of bytes. -/
theorem SlB_of_Rd {w : World} {sa : Option Addr} {ln cp : Nat} (h : Rd w (.loop (.label 4)) [.slice sa ln cp]) : ∃ l, SlB w sa ln cp l := by
  obtain ⟨h1, h2, h3⟩ := Rd.slice_at h (by decide)
  refine ⟨(List.range ln).map fun i => match sa with | some x => intOf ((w.cell? ⟨x.block, x.off + i, none⟩).getD undef) | none => 0, by simp, h1, h2, ?_, ?_⟩
  · intro x hx
    obtain ⟨i, hi, rfl⟩ := List.mem_map.1 hx
    have hi := List.mem_range.1 hi
    rcases h3 with ⟨_, h, _⟩ | ⟨_, h, _⟩ | ⟨b, o, rfl, hb, hc, hcell⟩
    · omega
    · omega
    · obtain ⟨cs, hl, ⟨n, rfl, hw⟩, hx⟩ := hcell i (by omega)
      have e0 := hx 0 (by decide)
      have e0' : w.cell? ⟨b, o + i, none⟩ = some (.int .u8 n) := by simpa [tsize, kd] using e0
      dsimp only
      rw [e0']
      exact bounds_u8 hw
  · rcases h3 with ⟨_, h, h'⟩ | ⟨h', h, _⟩ | ⟨b, o, rfl, hb, hc, hcell⟩
    · exact .inl ⟨h, fun _ => h'⟩
    · exact .inl ⟨h, fun _ => h'⟩
    · refine .inr ⟨b, o, rfl, hb, fun i hi => ?_⟩
      obtain ⟨cs, hl, ⟨n, rfl, hw⟩, hx⟩ := hcell i (by omega)
      have e0 := hx 0 (by decide)
      have e0' : w.cell? ⟨b, o + i, none⟩ = some (.int .u8 n) := by simpa [tsize, kd] using e0
      rw [e0']
      simp [List.getD_eq_getElem?_getD, hi, e0', intOf, kd]

theorem Below.set3 {B : Nat} {a w : World} (h : Below B a w) {b o : Nat} (hB : B ≤ b) (u : Value) : Below B a (w.setCell ⟨b, o, none⟩ u) := h.setCell (p := ⟨b, o, none⟩) hB u
theorem Below.drewN {B : Nat} {a w : World} (h : Below B a w) (k : Nat) : Below B a (w.drewN k) := ⟨h.os, h.tape, h.output, h.size, h.block⟩

/-- A slice of bytes that lies in a new block. -/
theorem SlB_new (w : World) (c : Array Value) (t : TypeId) (l : List Int) (n : Nat) (h1 : n = l.length) (h2 : n ≤ maxLen) (h3 : ∀ x ∈ l, 0 ≤ x ∧ x ≤ 255) (h4 : c.toList = l.map fun x => Value.int .u8 x) : SlB (w.alloc (.cells c t)) (some ⟨w.heap.size, 0, none⟩) n n l :=
  ⟨h1, Nat.le_refl _, h2, h3, .inr ⟨_, _, rfl, by simp, fun i hi => by
    simp [go_sem]
    have : c[i]? = c.toList[i]? := by simp
    rw [this, h4, List.getElem?_map, List.getElem?_eq_getElem (by omega)]
    simp [List.getD_eq_getElem?_getD, List.getElem?_eq_getElem (show i < l.length by omega)]⟩⟩

theorem setCell_self {w : World} {a : Addr} {v : Value} (h : w.cell? a = some v) : w.setCell a v = w := by
  have hlt := World.block_lt_of_cell? _ _ h
  unfold World.cell? at h
  unfold World.setCell
  rw [Array.getElem?_eq_getElem hlt] at h
  have key : ∀ h', h' = w.heap → ({ w with heap := h' } : World) = w := by rintro _ rfl; rfl
  refine key _ (Array.ext (by simp) fun i h1 h2 => ?_)
  rw [Array.getElem_modify]
  split
  · rename_i hi
    subst hi
    split at h
    · rename_i c t f hc
      simp only [Option.some.injEq] at hc
      rw [hc]
      split at h
      · simp at h
      · rename_i hs
        simp only [hs]
        congr 1
        obtain ⟨ho, hv⟩ := Array.getElem?_eq_some_iff.1 h
        subst hv
        refine Array.ext (by simp) fun j hj1 hj2 => ?_
        have e : ∀ (hq : j < (c.setIfInBounds a.off c[a.off]).size), (c.setIfInBounds a.off c[a.off])[j]'hq = c[j] := by
          intro hq
          rw [Array.getElem_setIfInBounds]
          split
          · rename_i hj; subst hj; rfl
          · rfl
        exact e (by simpa using hj2)
    · simp at h
  · rfl
end Go.Proofs.Ytcempndfbckcaaa
