/- H.264: the units of a payload, and whether a whole picture begins; said plainly. Nothing of the program; no condition. -/
import Derived.Test.YtojedpahaifjgaaGKi
namespace Go.Proofs.Ytojedpahaifjgaa
def unitsW (l : List Nat) : Option (List Int) :=
 if h : l.length < 2 ∨ 256 * l.getD 0 0 + l.getD 1 0 = 0 ∨ l.length < 2 + (256 * l.getD 0 0 + l.getD 1 0) ∨ l.getD 2 0 % 32 = 0 then none
 else if l.length = 2 + (256 * l.getD 0 0 + l.getD 1 0) then some [((l.getD 2 0 % 32 : Nat) : Int)]
 else (unitsW (l.drop (2 + (256 * l.getD 0 0 + l.getD 1 0)))).map fun r => ((l.getD 2 0 % 32 : Nat) : Int) :: r
termination_by l.length
decreasing_by rw [List.length_drop]; omega
theorem unitsW_none {l : List Nat} (h : l.length < 2 ∨ 256 * l.getD 0 0 + l.getD 1 0 = 0 ∨ l.length < 2 + (256 * l.getD 0 0 + l.getD 1 0) ∨ l.getD 2 0 % 32 = 0) : unitsW l = none := by
 rw [unitsW, dif_pos h]
theorem unitsW_last {l : List Nat} (h : ¬ (l.length < 2 ∨ 256 * l.getD 0 0 + l.getD 1 0 = 0 ∨ l.length < 2 + (256 * l.getD 0 0 + l.getD 1 0) ∨ l.getD 2 0 % 32 = 0)) (h2 : l.length = 2 + (256 * l.getD 0 0 + l.getD 1 0)) : unitsW l = some [((l.getD 2 0 % 32 : Nat) : Int)] := by
 rw [unitsW, dif_neg h, if_pos h2]
theorem unitsW_more {l : List Nat} (h : ¬ (l.length < 2 ∨ 256 * l.getD 0 0 + l.getD 1 0 = 0 ∨ l.length < 2 + (256 * l.getD 0 0 + l.getD 1 0) ∨ l.getD 2 0 % 32 = 0)) (h2 : l.length ≠ 2 + (256 * l.getD 0 0 + l.getD 1 0)) : unitsW l = (unitsW (l.drop (2 + (256 * l.getD 0 0 + l.getD 1 0)))).map fun r => ((l.getD 2 0 % 32 : Nat) : Int) :: r := by
 rw [unitsW, dif_neg h, if_neg h2]
theorem map_app (o : Option (List Int)) (a : List Int) (t : Int) : (o.map fun r => t :: r).map (a ++ ·) = o.map ((a ++ [t]) ++ ·) := by
 cases o <;> simp
def partN (l : List Nat) : Option (List Int) :=
 if l.length < 2 ∨ l.getD 0 0 / 32 % 2 = 1 ∨ 192 ≤ l.getD 0 0 ∨ l.getD 0 0 % 32 < 1 ∨ 23 < l.getD 0 0 % 32 then none else some [((l.getD 0 0 % 32 : Nat) : Int)]
def unitsN (l : List Nat) : Option (List Int) :=
 if l.length = 0 then none
 else if l.getD 0 0 % 32 = 24 then unitsW (l.drop 1)
 else if l.getD 0 0 % 32 = 28 then partN (l.drop 1)
 else if 1 ≤ l.getD 0 0 % 32 ∧ l.getD 0 0 % 32 ≤ 23 then some [((l.getD 0 0 % 32 : Nat) : Int)] else none
def isK (t : Int) : Bool := t == 5 || t == 7 || t == 8
def keyA (l : List Nat) : Bool :=
 match unitsN l with
 | none => false
 | some ts => if l.getD 0 0 % 32 = 28 ∧ l.getD 1 0 < 128 then false else ts.any isK
theorem keyA_none {l : List Nat} (h : unitsN l = none) : keyA l = false := by unfold keyA; rw [h]
theorem keyA_no {l : List Nat} (h : l.getD 0 0 % 32 = 28 ∧ l.getD 1 0 < 128) : keyA l = false := by
 unfold keyA
 split
 ·rfl
 ·rw [if_pos h]
theorem keyA_some {l : List Nat} {ts : List Int} (h : unitsN l = some ts) (h2 : ¬ (l.getD 0 0 % 32 = 28 ∧ l.getD 1 0 < 128)) : keyA l = ts.any isK := by
 unfold keyA
 rw [h]
 exact if_neg h2
theorem unitsN_pos {l : List Nat} {ts : List Int} (h : unitsN l = some ts) : 0 < l.length := by
 unfold unitsN at h
 split at h
 ·cases h
 ·omega
theorem unitsN_two {l : List Nat} {ts : List Int} (h : unitsN l = some ts) (h2 : l.getD 0 0 % 32 = 28) : 2 < l.length := by
 unfold unitsN partN at h
 rw [if_neg (fun h0 => by simp [h0] at h), if_neg (by omega), if_pos h2] at h
 split at h
 ·cases h
 ·rename_i h3
  rw [List.length_drop] at h3
  omega
end Go.Proofs.Ytojedpahaifjgaa
