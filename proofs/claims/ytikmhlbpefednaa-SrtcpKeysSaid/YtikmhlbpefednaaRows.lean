/-
  No cell of these rows narrows 'for every input' (looked for: loops, veiled, ifaces, maps, wideKeys, modest, calm, conditions, laid).
  DERIVED. THE GIVEN ROWS OF THIS SEAT. 3 by the template 'for every input the law returns true; each argument reads behind the call as it read before'; 0 by the template 'total and deterministic' (their statements: YtikmhlbpefednaaTotals.lean).
  GIVEN WITH THE SEED: the statements are not yours to turn. If you find one false, say at which input.
  Laid BY PROGRAM, IN A SANDBOX (cutbox-rows.mjs): the forced cells as the released guide's own fill.sh prints them over the translation e08453743426d422… (all of the seat's roots in one cut). By AI agents, Wed Nov 11 2026. No macro, syntax, notation, axiom, sorry.
-/
import Derived.Test.YtikmhlbpefednaaChecked
import GoSem.Claim
import GoSem.ClaimJoined
import GoSem.ClaimMapViews
import Derived.JoinedTies
import Derived.KernelRfl
namespace Go.Proofs.Ytikmhlbpefednaa
/- THE CELL 'sum', in the pinned program and in every row, IS THE sha256 OF THE DUMP (.gsa) THAT YtikmhlbpefednaaProg.lean LOADS. Nothing in Lean hashes anything: it is a label: what it is worth is what the hold of that sum in a sandbox is worth. -/
noncomputable def Try.pinned : Pinned := { name := "ytikmhlbpefednaa", sum := "e08453743426d42224db4ab1d71f49406bbad5e7bcbdcf341183945a1af1bae3", checked := Try.checked }
namespace Rows
def none {H : Type} : Left H := { results := [], args := [] }

/-- 'tenaillelaw15.SrtpPeeks': WHATEVER THE INPUT: true; the input reads as it did. -/
def srtpPeeksSpec : ChangeSpec := { name := "srtpPeeks", fn := fun _ => fun
  | [d] => { results := [.lit (.bool true)], args := [d] }
  | _ => none }
def srtpPeeksRow : OpenClaim := { program := "ytikmhlbpefednaa", sum := "e08453743426d42224db4ab1d71f49406bbad5e7bcbdcf341183945a1af1bae3", func := "tenaille/tenaillelaw15.SrtpPeeks", spec := "srtpPeeks", unfollowed := true, recurses := true, plainKeys := false, apart := false }
def SrtpPeeksSaid : Prop := srtpPeeksRow.holds Try.pinned (OpenSpec.ofChange srtpPeeksSpec)

/-- ITS FALSE NEIGHBOUR: 'it returns false'. Refute it at one input. -/
def srtpPeeksWrong : ChangeSpec := { name := "srtpPeeks", fn := fun _ => fun
  | [d] => { results := [.lit (.bool false)], args := [d] }
  | _ => none }
def SrtpPeeksWrongFalsely : Prop := srtpPeeksRow.holds Try.pinned (OpenSpec.ofChange srtpPeeksWrong)

/-- 'tenaillelaw15.SrtpBack': WHATEVER THE INPUT: true; the input reads as it did. -/
def srtpBackSpec : ChangeSpec := { name := "srtpBack", fn := fun _ => fun
  | [d1, d2, d3, d4] => { results := [.lit (.bool true)], args := [d1, d2, d3, d4] }
  | _ => none }
def srtpBackRow : OpenClaim := { program := "ytikmhlbpefednaa", sum := "e08453743426d42224db4ab1d71f49406bbad5e7bcbdcf341183945a1af1bae3", func := "tenaille/tenaillelaw15.SrtpBack", spec := "srtpBack", unfollowed := true, recurses := true, plainKeys := false, apart := false }
def SrtpBackSaid : Prop := srtpBackRow.holds Try.pinned (OpenSpec.ofChange srtpBackSpec)

/-- ITS FALSE NEIGHBOUR: 'it returns false'. Refute it at one input. -/
def srtpBackWrong : ChangeSpec := { name := "srtpBack", fn := fun _ => fun
  | [d1, d2, d3, d4] => { results := [.lit (.bool false)], args := [d1, d2, d3, d4] }
  | _ => none }
def SrtpBackWrongFalsely : Prop := srtpBackRow.holds Try.pinned (OpenSpec.ofChange srtpBackWrong)

/-- 'tenaillelaw16.SrtcpKeys': WHATEVER THE INPUT: true; the input reads as it did. -/
def srtcpKeysSpec : ChangeSpec := { name := "srtcpKeys", fn := fun _ => fun
  | [d1, d2] => { results := [.lit (.bool true)], args := [d1, d2] }
  | _ => none }
def srtcpKeysRow : OpenClaim := { program := "ytikmhlbpefednaa", sum := "e08453743426d42224db4ab1d71f49406bbad5e7bcbdcf341183945a1af1bae3", func := "tenaille/tenaillelaw16.SrtcpKeys", spec := "srtcpKeys", unfollowed := true, recurses := true, plainKeys := false, apart := false }
def SrtcpKeysSaid : Prop := srtcpKeysRow.holds Try.pinned (OpenSpec.ofChange srtcpKeysSpec)

/-- ITS FALSE NEIGHBOUR: 'it returns false'. Refute it at one input. -/
def srtcpKeysWrong : ChangeSpec := { name := "srtcpKeys", fn := fun _ => fun
  | [d1, d2] => { results := [.lit (.bool false)], args := [d1, d2] }
  | _ => none }
def SrtcpKeysWrongFalsely : Prop := srtcpKeysRow.holds Try.pinned (OpenSpec.ofChange srtcpKeysWrong)

/- THE SECOND FORM. 'bulk': how many values and letters a reading holds, each counted each time it is reached (what is shared counts as often as it is met; a slice's spare places count too). A statement '..UptoSaid' is the law's where the arguments, and the package variables that the reading takes, are together of bulk at most 1048576: NARROWER than '..Said'. Prove '..Said' where nothing that the law and all that it calls make is longer than what came in: it says more and counts as full. Else prove '..UptoSaid'. A law counts once. -/
mutual
def uptoBulk {H : Type} : DataW H → Nat
  | .lit (.string bytes) => bytes.length + 1
  | .lit _ => 1
  | .nil => 1
  | .ptr d => uptoBulk d + 1
  | .slice elems spare => uptoBulkAll elems + uptoBulkAll spare + 1
  | .agg parts => uptoBulkAll parts + 1
  | .iface _ d => uptoBulk d + 1
  | .map entries => uptoBulkEntries entries + 1
  | .held _ => 1
def uptoBulkAll {H : Type} : List (DataW H) → Nat
  | [] => 0
  | d :: r => uptoBulk d + uptoBulkAll r
def uptoBulkEntries {H : Type} : List (Lit × DataW H) → Nat
  | [] => 0
  | x :: r => uptoBulkEntry x + uptoBulkEntries r
def uptoBulkEntry {H : Type} : Lit × DataW H → Nat
  | (.string bytes, d) => bytes.length + uptoBulk d + 1
  | (_, d) => uptoBulk d + 1
 end
def uptoSmall : (H : Type) → List (DataW H) → Bool := fun _ ds => decide (uptoBulkAll ds ≤ 1048576)
def OpenSpec.upto (s : _root_.Go.ChangeSpec) : _root_.Go.OpenSpec := { _root_.Go.OpenSpec.ofChange s with cond := some uptoSmall }

/-- 'tenaillelaw15.SrtpPeeks', WHERE WHAT IT READS IS OF BULK AT MOST 1048576: true; the input reads as it did. -/
def srtpPeeksUptoRow : OpenClaim := { program := "ytikmhlbpefednaa", sum := "e08453743426d42224db4ab1d71f49406bbad5e7bcbdcf341183945a1af1bae3", func := "tenaille/tenaillelaw15.SrtpPeeks", spec := "srtpPeeks", unfollowed := true, recurses := true, plainKeys := false, apart := false, narrowed := true }
def SrtpPeeksUptoSaid : Prop := srtpPeeksUptoRow.holds Try.pinned (OpenSpec.upto srtpPeeksSpec)

/-- 'tenaillelaw15.SrtpBack', WHERE WHAT IT READS IS OF BULK AT MOST 1048576: true; the input reads as it did. -/
def srtpBackUptoRow : OpenClaim := { program := "ytikmhlbpefednaa", sum := "e08453743426d42224db4ab1d71f49406bbad5e7bcbdcf341183945a1af1bae3", func := "tenaille/tenaillelaw15.SrtpBack", spec := "srtpBack", unfollowed := true, recurses := true, plainKeys := false, apart := false, narrowed := true }
def SrtpBackUptoSaid : Prop := srtpBackUptoRow.holds Try.pinned (OpenSpec.upto srtpBackSpec)

/-- 'tenaillelaw16.SrtcpKeys', WHERE WHAT IT READS IS OF BULK AT MOST 1048576: true; the input reads as it did. -/
def srtcpKeysUptoRow : OpenClaim := { program := "ytikmhlbpefednaa", sum := "e08453743426d42224db4ab1d71f49406bbad5e7bcbdcf341183945a1af1bae3", func := "tenaille/tenaillelaw16.SrtcpKeys", spec := "srtcpKeys", unfollowed := true, recurses := true, plainKeys := false, apart := false, narrowed := true }
def SrtcpKeysUptoSaid : Prop := srtcpKeysUptoRow.holds Try.pinned (OpenSpec.upto srtcpKeysSpec)

end Rows
end Go.Proofs.Ytikmhlbpefednaa
