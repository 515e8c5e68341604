/- Rings: New, find, Get, Len, Size, Indices; copies of packets. No condition but the sizes'. -/
import Derived.Test.YtojedpahaifjgaaRiB
import Derived.Test.YtojedpahaifjgaaCln
namespace Go.Proofs.Ytojedpahaifjgaa
open Go.RowKit
structure RingV (w : World) (base g : Nat) (pk by_ : Int) (v : Value) (L : PL) : Prop where
 cells : HpB w g (.cells #[.int .i64 pk, .int .i64 by_, v, .int .i64 (lensL L : Nat)] 140)
 q : EQ IB 158 w base v L.length L
theorem RingV.bw {w w' : World} {base g : Nat} {pk by_ : Int} {v : Value} {L : PL} (h : RingV w base g pk by_ v L) (hb : BW w w') : RingV w' base g pk by_ v L := ⟨h.cells.bw hb, h.q.bw hb⟩
theorem RingV.still {w w' : World} {base g : Nat} {pk by_ : Int} {v : Value} {L : PL} (h : RingV w base g pk by_ v L) {S : List Nat} (hs : Still S w w') (hS : ∀ k ∈ S, NoB w k) (hg : g ∉ S) (hv : ∀ k, v.ownBlock = some k → k ∉ S) : RingV w' base g pk by_ v L := ⟨h.cells.st hs hg, h.q.still hs hS hv⟩
theorem RingV.old {w w' : World} {base g : Nat} {pk by_ : Int} {v : Value} {L : PL} (h : RingV w base g pk by_ v L) {S : List Nat} (hs : Still S w w') (hS : ∀ k ∈ S, k < base) (hg : g ∉ S) : RingV w' base g pk by_ v L := ⟨h.cells.st hs hg, h.q.old hs hS⟩
theorem ring_new (pk by_ : Int) (w : World) (h1 : 1 ≤ pk) (h2 : 0 ≤ by_) :
  Calls Try.prog 33 #[.int .i64 pk, .int .i64 by_] w fun e w' => e = .returned (.pointer (some ⟨w.heap.size, 0, none⟩)) ∧ (∀ base, RingV w' base w.heap.size pk by_ (.slice none 0 0) []) ∧ BW w w' := by
 have d1 : decide (pk < 1) = false := by simp; omega
 have d2 : decide (by_ < 0) = false := by simp; omega
 go_enter Try.func33, Try.ntmps33
 go_wp2_with fail
 go_ret
 exact ⟨rfl, fun base => ⟨hp_new _ _ _ rfl, EQ.nil _ _ _ _⟩, (by repeat (first | exact BW.refl _ | apply BW.alloc | apply BW.drewN | apply BW.drew))⟩
end Go.Proofs.Ytojedpahaifjgaa
