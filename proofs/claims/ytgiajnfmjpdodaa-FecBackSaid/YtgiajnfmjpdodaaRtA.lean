/- Packets of media as plain data; what bytes are which packet. Nothing of the program; no condition. -/
import Derived.Test.YtgiajnfmjpdodaaGKi
namespace Go.Proofs.Ytgiajnfmjpdodaa
open Go.RowKit

structure RtpD where
  marker : Bool
  typ : Nat
  seq : Nat
  stamp : Nat
  source : Nat
  others : List Nat
  ext : Bool
  profile : Nat
  extra : List Nat
  payload : List Nat
  pad : Nat
def rZero : RtpD := ⟨false, 0, 0, 0, 0, [], false, 0, [], [], 0⟩
/-- The number of n bytes from a place on. -/
def nm (l : List Nat) (a n : Nat) : Nat := numB ((l.drop a).take n)
theorem nm_lt (l : List Nat) (h : ByL l) (a n : Nat) : nm l a n < 256 ^ n := by
  have h1 := numB_lt ((l.drop a).take n) (fun x hx => ((h.drop a).take n) x hx)
  have h2 : ((l.drop a).take n).length ≤ n := List.length_take_le _ _
  exact Nat.lt_of_lt_of_le h1 (Nat.pow_le_pow_right (by decide) h2)
def rOthers (l : List Nat) (k : Nat) : List Nat := (List.range k).map fun i => nm l (12 + 4 * i) 4
theorem rOthers_len (l : List Nat) (k : Nat) : (rOthers l k).length = k := by simp [rOthers]
theorem rOthers_snoc (l : List Nat) (k : Nat) : rOthers l k ++ [nm l (12 + 4 * k) 4] = rOthers l (k + 1) := by simp [rOthers, List.range_succ]
/-- The extension from a place on: an error's number, or where it ends, its profile, its bytes. -/
def rExt (l : List Nat) (is : Bool) (a : Nat) : Nat × Nat × Nat × List Nat :=
  if is then
    if l.length < a + 4 then (2, 0, 0, [])
    else if l.length < a + 4 + 4 * nm l (a + 2) 2 then (2, 0, 0, [])
    else if 255 < nm l (a + 2) 2 then (3, 0, 0, [])
    else (0, a + 4 + 4 * nm l (a + 2) 2, nm l a 2, (l.drop (a + 4)).take (4 * nm l (a + 2) 2))
  else (0, a, 0, [])
/-- The padding of a payload: none: it may not be. -/
def rPad (is : Bool) (p : List Nat) : Option Nat :=
  if is then (if p.length = 0 ∨ p.getD (p.length - 1) 0 = 0 ∨ p.length < p.getD (p.length - 1) 0 then none else some (p.getD (p.length - 1) 0)) else some 0
/-- What bytes are: an error's number, how many are ahead of the payload, the packet. -/
def readN (l : List Nat) : Nat × Nat × RtpD :=
  if 1200 < l.length then (3, 0, rZero)
  else if l.length < 12 then (2, 0, rZero)
  else if l.getD 0 0 / 64 ≠ 2 then (3, 0, rZero)
  else if l.length < 12 + 4 * (l.getD 0 0 % 16) then (2, 0, rZero)
  else
    let x := rExt l (l.getD 0 0 / 16 % 2 == 1) (12 + 4 * (l.getD 0 0 % 16))
    if x.1 ≠ 0 then (x.1, 0, rZero)
    else match rPad (l.getD 0 0 / 32 % 2 == 1) (l.drop x.2.1) with
      | none => (3, 0, rZero)
      | some p => (0, x.2.1, ⟨l.getD 1 0 / 128 == 1, l.getD 1 0 % 128, nm l 2 2, nm l 4 4, nm l 8 4, rOthers l (l.getD 0 0 % 16), l.getD 0 0 / 16 % 2 == 1, x.2.2.1, x.2.2.2, (l.drop x.2.1).take (l.length - x.2.1 - p), p⟩)
end Go.Proofs.Ytgiajnfmjpdodaa
