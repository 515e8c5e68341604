/- The bits of rtp's first two bytes. No condition. -/
import Derived.Test.YtgiajnfmjpdodaaRtA
import Derived.Test.YtgiajnfmjpdodaaPre
namespace Go.Proofs.Ytgiajnfmjpdodaa
open Go.RowKit

theorem rbits_all : (List.range 256).all (fun x => ((bits .and .u8 (x : Int) 128 != 0) == (x / 128 == 1)) && (bits .andNot .u8 (x : Int) 128 == ((x % 128 : Nat) : Int)) && (bits .and .u8 (x : Int) 15 == ((x % 16 : Nat) : Int)) && ((bits .and .u8 (x : Int) 16 != 0) == (x / 16 % 2 == 1)) && ((bits .and .u8 (x : Int) 32 != 0) == (x / 32 % 2 == 1))) = true := by kernel_rfl
theorem rbits (x : Nat) (h : x < 256) : (bits .and .u8 (x : Int) 128 != 0) = (x / 128 == 1) ∧ bits .andNot .u8 (x : Int) 128 = ((x % 128 : Nat) : Int) ∧ bits .and .u8 (x : Int) 15 = ((x % 16 : Nat) : Int) ∧ (bits .and .u8 (x : Int) 16 != 0) = (x / 16 % 2 == 1) ∧ (bits .and .u8 (x : Int) 32 != 0) = (x / 32 % 2 == 1) := by
  have a := List.all_eq_true.1 rbits_all x (List.mem_range.2 h)
  rw [Bool.and_eq_true, Bool.and_eq_true, Bool.and_eq_true, Bool.and_eq_true] at a
  obtain ⟨⟨⟨⟨a1, a2⟩, a3⟩, a4⟩, a5⟩ := a
  exact ⟨eq_of_beq a1, eq_of_beq a2, eq_of_beq a3, eq_of_beq a4, eq_of_beq a5⟩
end Go.Proofs.Ytgiajnfmjpdodaa
