/-
  No cell of these rows narrows 'for every input' (looked for: loops, veiled, ifaces, maps, wideKeys, modest, calm, conditions, laid).
  DERIVED. THE GIVEN ROWS OF THIS SEAT. 3 by the template 'for every input the law returns true; each argument reads behind the call as it read before'; 0 by the template 'total and deterministic' (their statements: YtojedpahaifjgaaTotals.lean).
  GIVEN WITH THE SEED: the statements are not yours to turn. If you find one false, say at which input.
  Laid BY PROGRAM, IN A SANDBOX (cutbox-rows.mjs): the forced cells as the released guide's own fill.sh prints them over the translation 5e63daf33d518589… (all of the seat's roots in one cut). By AI agents, Wed Nov 11 2026. No macro, syntax, notation, axiom, sorry.
-/
import Derived.Test.YtojedpahaifjgaaChecked
import GoSem.Claim
import GoSem.ClaimJoined
import GoSem.ClaimMapViews
import Derived.JoinedTies
import Derived.KernelRfl
namespace Go.Proofs.Ytojedpahaifjgaa
/- THE CELL 'sum', in the pinned program and in every row, IS THE sha256 OF THE DUMP (.gsa) THAT YtojedpahaifjgaaProg.lean LOADS. Nothing in Lean hashes anything: it is a label: what it is worth is what the hold of that sum in a sandbox is worth. -/
noncomputable def Try.pinned : Pinned := { name := "ytojedpahaifjgaa", sum := "5e63daf33d51858914f0cd4ae9dd451f5e48327a2fe6c3e1b2564a1c9567789a", checked := Try.checked }
namespace Rows
def none {H : Type} : Left H := { results := [], args := [] }

/-- 'tenaillelaw28.EgressSame': WHATEVER THE INPUT: true; the input reads as it did. -/
def egressSameSpec : ChangeSpec := { name := "egressSame", fn := fun _ => fun
  | [d1, d2] => { results := [.lit (.bool true)], args := [d1, d2] }
  | _ => none }
def egressSameRow : OpenClaim := { program := "ytojedpahaifjgaa", sum := "5e63daf33d51858914f0cd4ae9dd451f5e48327a2fe6c3e1b2564a1c9567789a", func := "tenaille/tenaillelaw28.EgressSame", spec := "egressSame", unfollowed := true, recurses := true, apart := false }
def EgressSameSaid : Prop := egressSameRow.holds Try.pinned (OpenSpec.ofChange egressSameSpec)

/-- ITS FALSE NEIGHBOUR: 'it returns false'. Refute it at one input. -/
def egressSameWrong : ChangeSpec := { name := "egressSame", fn := fun _ => fun
  | [d1, d2] => { results := [.lit (.bool false)], args := [d1, d2] }
  | _ => none }
def EgressSameWrongFalsely : Prop := egressSameRow.holds Try.pinned (OpenSpec.ofChange egressSameWrong)

/-- 'tenaillelaw28.EgressAgain': WHATEVER THE INPUT: true; the input reads as it did. -/
def egressAgainSpec : ChangeSpec := { name := "egressAgain", fn := fun _ => fun
  | [d1, d2, d3] => { results := [.lit (.bool true)], args := [d1, d2, d3] }
  | _ => none }
def egressAgainRow : OpenClaim := { program := "ytojedpahaifjgaa", sum := "5e63daf33d51858914f0cd4ae9dd451f5e48327a2fe6c3e1b2564a1c9567789a", func := "tenaille/tenaillelaw28.EgressAgain", spec := "egressAgain", inPlace := ["slices.overlaps[tenaille/ring.packet]"], unfollowed := true, recurses := true, apart := false }
def EgressAgainSaid : Prop := egressAgainRow.holds Try.pinned (OpenSpec.ofChange egressAgainSpec)

/-- ITS FALSE NEIGHBOUR: 'it returns false'. Refute it at one input. -/
def egressAgainWrong : ChangeSpec := { name := "egressAgain", fn := fun _ => fun
  | [d1, d2, d3] => { results := [.lit (.bool false)], args := [d1, d2, d3] }
  | _ => none }
def EgressAgainWrongFalsely : Prop := egressAgainRow.holds Try.pinned (OpenSpec.ofChange egressAgainWrong)

/-- 'tenaillelaw28.EgressPlays': WHATEVER THE INPUT: true; the input reads as it did. -/
def egressPlaysSpec : ChangeSpec := { name := "egressPlays", fn := fun _ => fun
  | [d1, d2, d3, d4, d5, d6] => { results := [.lit (.bool true)], args := [d1, d2, d3, d4, d5, d6] }
  | _ => none }
def egressPlaysRow : OpenClaim := { program := "ytojedpahaifjgaa", sum := "5e63daf33d51858914f0cd4ae9dd451f5e48327a2fe6c3e1b2564a1c9567789a", func := "tenaille/tenaillelaw28.EgressPlays", spec := "egressPlays", inPlace := ["slices.overlaps[tenaille/ring.packet]"], unfollowed := true, recurses := true, apart := false }
def EgressPlaysSaid : Prop := egressPlaysRow.holds Try.pinned (OpenSpec.ofChange egressPlaysSpec)

/-- ITS FALSE NEIGHBOUR: 'it returns false'. Refute it at one input. -/
def egressPlaysWrong : ChangeSpec := { name := "egressPlays", fn := fun _ => fun
  | [d1, d2, d3, d4, d5, d6] => { results := [.lit (.bool false)], args := [d1, d2, d3, d4, d5, d6] }
  | _ => none }
def EgressPlaysWrongFalsely : Prop := egressPlaysRow.holds Try.pinned (OpenSpec.ofChange egressPlaysWrong)

/- THE SECOND FORM. 'bulk': how many values and letters a reading holds, each counted each time it is reached (what is shared counts as often as it is met; a slice's spare places count too). A statement '..UptoSaid' is the law's where the arguments, and the package variables that the reading takes, are together of bulk at most 1048576: NARROWER than '..Said'. Prove '..Said' where nothing that the law and all that it calls make is longer than what came in: it says more and counts as full. Else prove '..UptoSaid'. A law counts once. -/
mutual
def uptoBulk {H : Type} : DataW H → Nat
  | .lit (.string bytes) => bytes.length + 1
  | .lit _ => 1
  | .nil => 1
  | .ptr d => uptoBulk d + 1
  | .slice elems spare => uptoBulkAll elems + uptoBulkAll spare + 1
  | .agg parts => uptoBulkAll parts + 1
  | .iface _ d => uptoBulk d + 1
  | .map entries => uptoBulkEntries entries + 1
  | .held _ => 1
def uptoBulkAll {H : Type} : List (DataW H) → Nat
  | [] => 0
  | d :: r => uptoBulk d + uptoBulkAll r
def uptoBulkEntries {H : Type} : List (Lit × DataW H) → Nat
  | [] => 0
  | x :: r => uptoBulkEntry x + uptoBulkEntries r
def uptoBulkEntry {H : Type} : Lit × DataW H → Nat
  | (.string bytes, d) => bytes.length + uptoBulk d + 1
  | (_, d) => uptoBulk d + 1
 end
def uptoSmall : (H : Type) → List (DataW H) → Bool := fun _ ds => decide (uptoBulkAll ds ≤ 1048576)
def OpenSpec.upto (s : _root_.Go.ChangeSpec) : _root_.Go.OpenSpec := { _root_.Go.OpenSpec.ofChange s with cond := some uptoSmall }

/-- 'tenaillelaw28.EgressSame', WHERE WHAT IT READS IS OF BULK AT MOST 1048576: true; the input reads as it did. -/
def egressSameUptoRow : OpenClaim := { program := "ytojedpahaifjgaa", sum := "5e63daf33d51858914f0cd4ae9dd451f5e48327a2fe6c3e1b2564a1c9567789a", func := "tenaille/tenaillelaw28.EgressSame", spec := "egressSame", unfollowed := true, recurses := true, apart := false, narrowed := true }
def EgressSameUptoSaid : Prop := egressSameUptoRow.holds Try.pinned (OpenSpec.upto egressSameSpec)

/-- 'tenaillelaw28.EgressAgain', WHERE WHAT IT READS IS OF BULK AT MOST 1048576: true; the input reads as it did. -/
def egressAgainUptoRow : OpenClaim := { program := "ytojedpahaifjgaa", sum := "5e63daf33d51858914f0cd4ae9dd451f5e48327a2fe6c3e1b2564a1c9567789a", func := "tenaille/tenaillelaw28.EgressAgain", spec := "egressAgain", inPlace := ["slices.overlaps[tenaille/ring.packet]"], unfollowed := true, recurses := true, apart := false, narrowed := true }
def EgressAgainUptoSaid : Prop := egressAgainUptoRow.holds Try.pinned (OpenSpec.upto egressAgainSpec)

/-- 'tenaillelaw28.EgressPlays', WHERE WHAT IT READS IS OF BULK AT MOST 1048576: true; the input reads as it did. -/
def egressPlaysUptoRow : OpenClaim := { program := "ytojedpahaifjgaa", sum := "5e63daf33d51858914f0cd4ae9dd451f5e48327a2fe6c3e1b2564a1c9567789a", func := "tenaille/tenaillelaw28.EgressPlays", spec := "egressPlays", inPlace := ["slices.overlaps[tenaille/ring.packet]"], unfollowed := true, recurses := true, apart := false, narrowed := true }
def EgressPlaysUptoSaid : Prop := egressPlaysUptoRow.holds Try.pinned (OpenSpec.upto egressPlaysSpec)

end Rows
end Go.Proofs.Ytojedpahaifjgaa
