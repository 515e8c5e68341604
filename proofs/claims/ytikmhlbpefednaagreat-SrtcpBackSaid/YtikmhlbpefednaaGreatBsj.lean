/- Strings of bytes are alike just if the bytes are. No condition. -/
import Derived.Test.YtikmhlbpefednaaGreatGW6
import Derived.Lib.Bytes
namespace Go.Proofs.YtikmhlbpefednaaGreat
open Go.RowKit
theorem byt_inj {a b : List Nat} (ha : ByL a) (hb : ByL b) (h1 : (a.map fun (n : Nat) => (n : Int)).map (fun n => UInt8.ofNat n.toNat) = (b.map fun (n : Nat) => (n : Int)).map (fun n => UInt8.ofNat n.toNat)) : a = b := by
 have h2 := congrArg (fun l => l.map UInt8.toNat) h1
 simp only [List.map_map] at h2
 have key : ∀ l : List Nat, ByL l → l.map (UInt8.toNat ∘ (fun n : Int => UInt8.ofNat n.toNat) ∘ fun (n : Nat) => (n : Int)) = l := fun l hl => by
  conv => rhs; rw [← List.map_id l]
  refine List.map_congr_left fun x hx => ?_
  have := hl x hx
  simp [Function.comp, Nat.mod_eq_of_lt this]
 rw [key a ha, key b hb] at h2
 exact h2
theorem bstr_eqb {a b : List Nat} (ha : ByL a) (hb : ByL b) : ((bstr a).toList == (bstr b).toList) = decide (a = b) := by
 rw [Bool.eq_iff_iff]
 simp only [beq_iff_eq, decide_eq_true_eq]
 constructor
 ·intro h
  unfold bstr at h
  rw [Lib.strOfNums_toList, Lib.strOfNums_toList] at h
  exact byt_inj ha hb h
 ·rintro rfl; rfl
end Go.Proofs.YtikmhlbpefednaaGreat
