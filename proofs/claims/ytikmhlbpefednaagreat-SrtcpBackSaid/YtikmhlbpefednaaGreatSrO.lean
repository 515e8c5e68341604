/- The reference's tags of packets, and its way. No condition but the sizes'. -/
import Derived.Test.YtikmhlbpefednaaGreatGS2
import Derived.Test.YtikmhlbpefednaaGreatKyE
import Derived.Test.YtikmhlbpefednaaGreatMcE
namespace Go.Proofs.YtikmhlbpefednaaGreat
open Go.RowKit
theorem AvB.mid {w : World} {g : Nat} {T : TypeId} {l : List Nat} (h : AvB w g T l) (hb : ByL l) (o n : Nat) (hn : o + n ≤ l.length) (hm : n ≤ maxLen) : SB w (.slice (some ⟨g, o, none⟩) n n) n (mid l o n) := by
 have hl := mid_len l o n (by omega)
 refine SB.mk' hl ((hb.drop _).take _) (Nat.le_refl _) hm h.lt fun j hj => ?_
 have e : (Go.Proofs.YtikmhlbpefednaaGreat.mid l o n).getD j 0 = l.getD (o + j) 0 := by
  unfold Go.Proofs.YtikmhlbpefednaaGreat.mid
  rw [List.getD_eq_getElem?_getD, List.getD_eq_getElem?_getD, List.getElem?_take_of_lt (by omega), List.getElem?_drop]
 rw [h.cell (o + j) (by omega), e]
theorem bvs_iv (K : List Nat) (j : Nat) (v : Value) (h : (bvs K)[j]? = some v) : j < K.length ∧ (ivA .u8 K)[j]? = some v := by
 have e : (ivA .u8 K).toList = bvs K := rfl
 rw [← e, Array.getElem?_toList] at h
 refine ⟨?_, h⟩
 have := (Array.getElem?_eq_some_iff.1 h).1
 rw [ivA_size] at this
 exact this
end Go.Proofs.YtikmhlbpefednaaGreat
