/-
  No cell of these rows narrows 'for every input' (looked for: loops, veiled, ifaces, maps, wideKeys, modest, calm, conditions, laid).
  DERIVED. THE GIVEN ROWS OF THIS SEAT. 12 by the template 'for every input the law returns true; each argument reads behind the call as it read before'; 0 by the template 'total and deterministic' (their statements: YtcempndfbckcaaaTotals.lean).
  GIVEN WITH THE SEED: the statements are not yours to turn. If you find one false, say at which input.
  Laid BY PROGRAM, IN A SANDBOX (cutbox-rows.mjs): the forced cells as the released guide's own fill.sh prints them over the translation ffa1224520cbce31… (all of the seat's roots in one cut). By AI agents, Wed Nov 11 2026. No macro, syntax, notation, axiom, sorry.
-/
import Derived.Test.YtcempndfbckcaaaChecked
import GoSem.Claim
import GoSem.ClaimJoined
import GoSem.ClaimMapViews
import Derived.JoinedTies
import Derived.KernelRfl
namespace Go.Proofs.Ytcempndfbckcaaa
/- THE CELL 'sum', in the pinned program and in every row, IS THE sha256 OF THE DUMP (.gsa) THAT YtcempndfbckcaaaProg.lean LOADS. Nothing in Lean hashes anything: it is a label: what it is worth is what the hold of that sum in a sandbox is worth. -/
noncomputable def Try.pinned : Pinned := { name := "ytcempndfbckcaaa", sum := "ffa1224520cbce3131630fadf769087dd64227bcb0fc4b3eea2628554e6bfab8", checked := Try.checked }
namespace Rows
def none {H : Type} : Left H := { results := [], args := [] }

/-- 'tenaillelaw11.RtcpNames': WHATEVER THE INPUT: true; the input reads as it did. -/
def rtcpNamesSpec : ChangeSpec := { name := "rtcpNames", fn := fun _ => fun
  | [d] => { results := [.lit (.bool true)], args := [d] }
  | _ => none }
def rtcpNamesRow : OpenClaim := { program := "ytcempndfbckcaaa", sum := "ffa1224520cbce3131630fadf769087dd64227bcb0fc4b3eea2628554e6bfab8", func := "tenaille/tenaillelaw11.RtcpNames", spec := "rtcpNames", unfollowed := true, recurses := true, plainKeys := false, apart := false }
def RtcpNamesSaid : Prop := rtcpNamesRow.holds Try.pinned (OpenSpec.ofChange rtcpNamesSpec)

/-- ITS FALSE NEIGHBOUR: 'it returns false'. Refute it at one input. -/
def rtcpNamesWrong : ChangeSpec := { name := "rtcpNames", fn := fun _ => fun
  | [d] => { results := [.lit (.bool false)], args := [d] }
  | _ => none }
def RtcpNamesWrongFalsely : Prop := rtcpNamesRow.holds Try.pinned (OpenSpec.ofChange rtcpNamesWrong)

/-- 'tenaillelaw11.RtcpLosses': WHATEVER THE INPUT: true; the input reads as it did. -/
def rtcpLossesSpec : ChangeSpec := { name := "rtcpLosses", fn := fun _ => fun
  | [d1, d2] => { results := [.lit (.bool true)], args := [d1, d2] }
  | _ => none }
def rtcpLossesRow : OpenClaim := { program := "ytcempndfbckcaaa", sum := "ffa1224520cbce3131630fadf769087dd64227bcb0fc4b3eea2628554e6bfab8", func := "tenaille/tenaillelaw11.RtcpLosses", spec := "rtcpLosses", unfollowed := true, recurses := true, plainKeys := false, apart := false }
def RtcpLossesSaid : Prop := rtcpLossesRow.holds Try.pinned (OpenSpec.ofChange rtcpLossesSpec)

/-- ITS FALSE NEIGHBOUR: 'it returns false'. Refute it at one input. -/
def rtcpLossesWrong : ChangeSpec := { name := "rtcpLosses", fn := fun _ => fun
  | [d1, d2] => { results := [.lit (.bool false)], args := [d1, d2] }
  | _ => none }
def RtcpLossesWrongFalsely : Prop := rtcpLossesRow.holds Try.pinned (OpenSpec.ofChange rtcpLossesWrong)

/-- 'tenaillelaw26.FramesWrite': WHATEVER THE INPUT: true; the input reads as it did. -/
def framesWriteSpec : ChangeSpec := { name := "framesWrite", fn := fun _ => fun
  | [d1, d2] => { results := [.lit (.bool true)], args := [d1, d2] }
  | _ => none }
def framesWriteRow : OpenClaim := { program := "ytcempndfbckcaaa", sum := "ffa1224520cbce3131630fadf769087dd64227bcb0fc4b3eea2628554e6bfab8", func := "tenaille/tenaillelaw26.FramesWrite", spec := "framesWrite", unfollowed := true, recurses := true, plainKeys := false, apart := false }
def FramesWriteSaid : Prop := framesWriteRow.holds Try.pinned (OpenSpec.ofChange framesWriteSpec)

/-- ITS FALSE NEIGHBOUR: 'it returns false'. Refute it at one input. -/
def framesWriteWrong : ChangeSpec := { name := "framesWrite", fn := fun _ => fun
  | [d1, d2] => { results := [.lit (.bool false)], args := [d1, d2] }
  | _ => none }
def FramesWriteWrongFalsely : Prop := framesWriteRow.holds Try.pinned (OpenSpec.ofChange framesWriteWrong)

/-- 'tenaillelaw26.FramesRead': WHATEVER THE INPUT: true; the input reads as it did. -/
def framesReadSpec : ChangeSpec := { name := "framesRead", fn := fun _ => fun
  | [d1, d2] => { results := [.lit (.bool true)], args := [d1, d2] }
  | _ => none }
def framesReadRow : OpenClaim := { program := "ytcempndfbckcaaa", sum := "ffa1224520cbce3131630fadf769087dd64227bcb0fc4b3eea2628554e6bfab8", func := "tenaille/tenaillelaw26.FramesRead", spec := "framesRead", unfollowed := true, recurses := true, plainKeys := false, apart := false }
def FramesReadSaid : Prop := framesReadRow.holds Try.pinned (OpenSpec.ofChange framesReadSpec)

/-- ITS FALSE NEIGHBOUR: 'it returns false'. Refute it at one input. -/
def framesReadWrong : ChangeSpec := { name := "framesRead", fn := fun _ => fun
  | [d1, d2] => { results := [.lit (.bool false)], args := [d1, d2] }
  | _ => none }
def FramesReadWrongFalsely : Prop := framesReadRow.holds Try.pinned (OpenSpec.ofChange framesReadWrong)

/-- 'tenaillelaw26.FramesReplies': WHATEVER THE INPUT: true; the input reads as it did. -/
def framesRepliesSpec : ChangeSpec := { name := "framesReplies", fn := fun _ => fun
  | [d1, d2, d3] => { results := [.lit (.bool true)], args := [d1, d2, d3] }
  | _ => none }
def framesRepliesRow : OpenClaim := { program := "ytcempndfbckcaaa", sum := "ffa1224520cbce3131630fadf769087dd64227bcb0fc4b3eea2628554e6bfab8", func := "tenaille/tenaillelaw26.FramesReplies", spec := "framesReplies", unfollowed := true, recurses := true, plainKeys := false, apart := false }
def FramesRepliesSaid : Prop := framesRepliesRow.holds Try.pinned (OpenSpec.ofChange framesRepliesSpec)

/-- ITS FALSE NEIGHBOUR: 'it returns false'. Refute it at one input. -/
def framesRepliesWrong : ChangeSpec := { name := "framesReplies", fn := fun _ => fun
  | [d1, d2, d3] => { results := [.lit (.bool false)], args := [d1, d2, d3] }
  | _ => none }
def FramesRepliesWrongFalsely : Prop := framesRepliesRow.holds Try.pinned (OpenSpec.ofChange framesRepliesWrong)

/-- 'tenaillelaw26.FramesTurned': WHATEVER THE INPUT: true; the input reads as it did. -/
def framesTurnedSpec : ChangeSpec := { name := "framesTurned", fn := fun _ => fun
  | [d1, d2, d3, d4, d5] => { results := [.lit (.bool true)], args := [d1, d2, d3, d4, d5] }
  | _ => none }
def framesTurnedRow : OpenClaim := { program := "ytcempndfbckcaaa", sum := "ffa1224520cbce3131630fadf769087dd64227bcb0fc4b3eea2628554e6bfab8", func := "tenaille/tenaillelaw26.FramesTurned", spec := "framesTurned", unfollowed := true, recurses := true, plainKeys := false, apart := false }
def FramesTurnedSaid : Prop := framesTurnedRow.holds Try.pinned (OpenSpec.ofChange framesTurnedSpec)

/-- ITS FALSE NEIGHBOUR: 'it returns false'. Refute it at one input. -/
def framesTurnedWrong : ChangeSpec := { name := "framesTurned", fn := fun _ => fun
  | [d1, d2, d3, d4, d5] => { results := [.lit (.bool false)], args := [d1, d2, d3, d4, d5] }
  | _ => none }
def FramesTurnedWrongFalsely : Prop := framesTurnedRow.holds Try.pinned (OpenSpec.ofChange framesTurnedWrong)

/-- 'tenaillelaw42.ReorderRises': WHATEVER THE INPUT: true; the input reads as it did. -/
def reorderRisesSpec : ChangeSpec := { name := "reorderRises", fn := fun _ => fun
  | [d1, d2, d3] => { results := [.lit (.bool true)], args := [d1, d2, d3] }
  | _ => none }
def reorderRisesRow : OpenClaim := { program := "ytcempndfbckcaaa", sum := "ffa1224520cbce3131630fadf769087dd64227bcb0fc4b3eea2628554e6bfab8", func := "tenaille/tenaillelaw42.ReorderRises", spec := "reorderRises", unfollowed := true, recurses := true, plainKeys := false, apart := false }
def ReorderRisesSaid : Prop := reorderRisesRow.holds Try.pinned (OpenSpec.ofChange reorderRisesSpec)

/-- ITS FALSE NEIGHBOUR: 'it returns false'. Refute it at one input. -/
def reorderRisesWrong : ChangeSpec := { name := "reorderRises", fn := fun _ => fun
  | [d1, d2, d3] => { results := [.lit (.bool false)], args := [d1, d2, d3] }
  | _ => none }
def ReorderRisesWrongFalsely : Prop := reorderRisesRow.holds Try.pinned (OpenSpec.ofChange reorderRisesWrong)

/-- 'tenaillelaw42.ReorderStraight': WHATEVER THE INPUT: true; the input reads as it did. -/
def reorderStraightSpec : ChangeSpec := { name := "reorderStraight", fn := fun _ => fun
  | [d1, d2] => { results := [.lit (.bool true)], args := [d1, d2] }
  | _ => none }
def reorderStraightRow : OpenClaim := { program := "ytcempndfbckcaaa", sum := "ffa1224520cbce3131630fadf769087dd64227bcb0fc4b3eea2628554e6bfab8", func := "tenaille/tenaillelaw42.ReorderStraight", spec := "reorderStraight", unfollowed := true, recurses := true, plainKeys := false, apart := false }
def ReorderStraightSaid : Prop := reorderStraightRow.holds Try.pinned (OpenSpec.ofChange reorderStraightSpec)

/-- ITS FALSE NEIGHBOUR: 'it returns false'. Refute it at one input. -/
def reorderStraightWrong : ChangeSpec := { name := "reorderStraight", fn := fun _ => fun
  | [d1, d2] => { results := [.lit (.bool false)], args := [d1, d2] }
  | _ => none }
def ReorderStraightWrongFalsely : Prop := reorderStraightRow.holds Try.pinned (OpenSpec.ofChange reorderStraightWrong)

/-- 'tenaillelaw42.ReorderPlays': WHATEVER THE INPUT: true; the input reads as it did. -/
def reorderPlaysSpec : ChangeSpec := { name := "reorderPlays", fn := fun _ => fun
  | [d1, d2, d3] => { results := [.lit (.bool true)], args := [d1, d2, d3] }
  | _ => none }
def reorderPlaysRow : OpenClaim := { program := "ytcempndfbckcaaa", sum := "ffa1224520cbce3131630fadf769087dd64227bcb0fc4b3eea2628554e6bfab8", func := "tenaille/tenaillelaw42.ReorderPlays", spec := "reorderPlays", unfollowed := true, recurses := true, plainKeys := false, apart := false }
def ReorderPlaysSaid : Prop := reorderPlaysRow.holds Try.pinned (OpenSpec.ofChange reorderPlaysSpec)

/-- ITS FALSE NEIGHBOUR: 'it returns false'. Refute it at one input. -/
def reorderPlaysWrong : ChangeSpec := { name := "reorderPlays", fn := fun _ => fun
  | [d1, d2, d3] => { results := [.lit (.bool false)], args := [d1, d2, d3] }
  | _ => none }
def ReorderPlaysWrongFalsely : Prop := reorderPlaysRow.holds Try.pinned (OpenSpec.ofChange reorderPlaysWrong)

/-- 'tenaillelaw46.SchedOnce': WHATEVER THE INPUT: true; the input reads as it did. -/
def schedOnceSpec : ChangeSpec := { name := "schedOnce", fn := fun _ => fun
  | [d1, d2, d3] => { results := [.lit (.bool true)], args := [d1, d2, d3] }
  | _ => none }
def schedOnceRow : OpenClaim := { program := "ytcempndfbckcaaa", sum := "ffa1224520cbce3131630fadf769087dd64227bcb0fc4b3eea2628554e6bfab8", func := "tenaille/tenaillelaw46.SchedOnce", spec := "schedOnce", unfollowed := true, recurses := true, plainKeys := false, apart := false }
def SchedOnceSaid : Prop := schedOnceRow.holds Try.pinned (OpenSpec.ofChange schedOnceSpec)

/-- ITS FALSE NEIGHBOUR: 'it returns false'. Refute it at one input. -/
def schedOnceWrong : ChangeSpec := { name := "schedOnce", fn := fun _ => fun
  | [d1, d2, d3] => { results := [.lit (.bool false)], args := [d1, d2, d3] }
  | _ => none }
def SchedOnceWrongFalsely : Prop := schedOnceRow.holds Try.pinned (OpenSpec.ofChange schedOnceWrong)

/-- 'tenaillelaw11.RtcpWrites': WHATEVER THE INPUT: true; the input reads as it did. -/
def rtcpWritesSpec : ChangeSpec := { name := "rtcpWrites", fn := fun _ => fun
  | [d] => { results := [.lit (.bool true)], args := [d] }
  | _ => none }
def rtcpWritesRow : OpenClaim := { program := "ytcempndfbckcaaa", sum := "ffa1224520cbce3131630fadf769087dd64227bcb0fc4b3eea2628554e6bfab8", func := "tenaille/tenaillelaw11.RtcpWrites", spec := "rtcpWrites", unfollowed := true, recurses := true, plainKeys := false, apart := false }
def RtcpWritesSaid : Prop := rtcpWritesRow.holds Try.pinned (OpenSpec.ofChange rtcpWritesSpec)

/-- ITS FALSE NEIGHBOUR: 'it returns false'. Refute it at one input. -/
def rtcpWritesWrong : ChangeSpec := { name := "rtcpWrites", fn := fun _ => fun
  | [d] => { results := [.lit (.bool false)], args := [d] }
  | _ => none }
def RtcpWritesWrongFalsely : Prop := rtcpWritesRow.holds Try.pinned (OpenSpec.ofChange rtcpWritesWrong)

/-- 'tenaillelaw46.SchedNone': WHATEVER THE INPUT: true; the input reads as it did. -/
def schedNoneSpec : ChangeSpec := { name := "schedNone", fn := fun _ => fun
  | [d1, d2] => { results := [.lit (.bool true)], args := [d1, d2] }
  | _ => none }
def schedNoneRow : OpenClaim := { program := "ytcempndfbckcaaa", sum := "ffa1224520cbce3131630fadf769087dd64227bcb0fc4b3eea2628554e6bfab8", func := "tenaille/tenaillelaw46.SchedNone", spec := "schedNone", unfollowed := true, recurses := true, plainKeys := false, apart := false }
def SchedNoneSaid : Prop := schedNoneRow.holds Try.pinned (OpenSpec.ofChange schedNoneSpec)

/-- ITS FALSE NEIGHBOUR: 'it returns false'. Refute it at one input. -/
def schedNoneWrong : ChangeSpec := { name := "schedNone", fn := fun _ => fun
  | [d1, d2] => { results := [.lit (.bool false)], args := [d1, d2] }
  | _ => none }
def SchedNoneWrongFalsely : Prop := schedNoneRow.holds Try.pinned (OpenSpec.ofChange schedNoneWrong)

/- THE SECOND FORM. 'bulk': how many values and letters a reading holds, each counted each time it is reached (what is shared counts as often as it is met; a slice's spare places count too). A statement '..UptoSaid' is the law's where the arguments, and the package variables that the reading takes, are together of bulk at most 1048576: NARROWER than '..Said'. Prove '..Said' where nothing that the law and all that it calls make is longer than what came in: it says more and counts as full. Else prove '..UptoSaid'. A law counts once. -/
mutual
def uptoBulk {H : Type} : DataW H → Nat
  | .lit (.string bytes) => bytes.length + 1
  | .lit _ => 1
  | .nil => 1
  | .ptr d => uptoBulk d + 1
  | .slice elems spare => uptoBulkAll elems + uptoBulkAll spare + 1
  | .agg parts => uptoBulkAll parts + 1
  | .iface _ d => uptoBulk d + 1
  | .map entries => uptoBulkEntries entries + 1
  | .held _ => 1
def uptoBulkAll {H : Type} : List (DataW H) → Nat
  | [] => 0
  | d :: r => uptoBulk d + uptoBulkAll r
def uptoBulkEntries {H : Type} : List (Lit × DataW H) → Nat
  | [] => 0
  | x :: r => uptoBulkEntry x + uptoBulkEntries r
def uptoBulkEntry {H : Type} : Lit × DataW H → Nat
  | (.string bytes, d) => bytes.length + uptoBulk d + 1
  | (_, d) => uptoBulk d + 1
 end
def uptoSmall : (H : Type) → List (DataW H) → Bool := fun _ ds => decide (uptoBulkAll ds ≤ 1048576)
def OpenSpec.upto (s : _root_.Go.ChangeSpec) : _root_.Go.OpenSpec := { _root_.Go.OpenSpec.ofChange s with cond := some uptoSmall }

/-- 'tenaillelaw11.RtcpNames', WHERE WHAT IT READS IS OF BULK AT MOST 1048576: true; the input reads as it did. -/
def rtcpNamesUptoRow : OpenClaim := { program := "ytcempndfbckcaaa", sum := "ffa1224520cbce3131630fadf769087dd64227bcb0fc4b3eea2628554e6bfab8", func := "tenaille/tenaillelaw11.RtcpNames", spec := "rtcpNames", unfollowed := true, recurses := true, plainKeys := false, apart := false, narrowed := true }
def RtcpNamesUptoSaid : Prop := rtcpNamesUptoRow.holds Try.pinned (OpenSpec.upto rtcpNamesSpec)

/-- 'tenaillelaw11.RtcpLosses', WHERE WHAT IT READS IS OF BULK AT MOST 1048576: true; the input reads as it did. -/
def rtcpLossesUptoRow : OpenClaim := { program := "ytcempndfbckcaaa", sum := "ffa1224520cbce3131630fadf769087dd64227bcb0fc4b3eea2628554e6bfab8", func := "tenaille/tenaillelaw11.RtcpLosses", spec := "rtcpLosses", unfollowed := true, recurses := true, plainKeys := false, apart := false, narrowed := true }
def RtcpLossesUptoSaid : Prop := rtcpLossesUptoRow.holds Try.pinned (OpenSpec.upto rtcpLossesSpec)

/-- 'tenaillelaw26.FramesWrite', WHERE WHAT IT READS IS OF BULK AT MOST 1048576: true; the input reads as it did. -/
def framesWriteUptoRow : OpenClaim := { program := "ytcempndfbckcaaa", sum := "ffa1224520cbce3131630fadf769087dd64227bcb0fc4b3eea2628554e6bfab8", func := "tenaille/tenaillelaw26.FramesWrite", spec := "framesWrite", unfollowed := true, recurses := true, plainKeys := false, apart := false, narrowed := true }
def FramesWriteUptoSaid : Prop := framesWriteUptoRow.holds Try.pinned (OpenSpec.upto framesWriteSpec)

/-- 'tenaillelaw26.FramesRead', WHERE WHAT IT READS IS OF BULK AT MOST 1048576: true; the input reads as it did. -/
def framesReadUptoRow : OpenClaim := { program := "ytcempndfbckcaaa", sum := "ffa1224520cbce3131630fadf769087dd64227bcb0fc4b3eea2628554e6bfab8", func := "tenaille/tenaillelaw26.FramesRead", spec := "framesRead", unfollowed := true, recurses := true, plainKeys := false, apart := false, narrowed := true }
def FramesReadUptoSaid : Prop := framesReadUptoRow.holds Try.pinned (OpenSpec.upto framesReadSpec)

/-- 'tenaillelaw26.FramesReplies', WHERE WHAT IT READS IS OF BULK AT MOST 1048576: true; the input reads as it did. -/
def framesRepliesUptoRow : OpenClaim := { program := "ytcempndfbckcaaa", sum := "ffa1224520cbce3131630fadf769087dd64227bcb0fc4b3eea2628554e6bfab8", func := "tenaille/tenaillelaw26.FramesReplies", spec := "framesReplies", unfollowed := true, recurses := true, plainKeys := false, apart := false, narrowed := true }
def FramesRepliesUptoSaid : Prop := framesRepliesUptoRow.holds Try.pinned (OpenSpec.upto framesRepliesSpec)

/-- 'tenaillelaw26.FramesTurned', WHERE WHAT IT READS IS OF BULK AT MOST 1048576: true; the input reads as it did. -/
def framesTurnedUptoRow : OpenClaim := { program := "ytcempndfbckcaaa", sum := "ffa1224520cbce3131630fadf769087dd64227bcb0fc4b3eea2628554e6bfab8", func := "tenaille/tenaillelaw26.FramesTurned", spec := "framesTurned", unfollowed := true, recurses := true, plainKeys := false, apart := false, narrowed := true }
def FramesTurnedUptoSaid : Prop := framesTurnedUptoRow.holds Try.pinned (OpenSpec.upto framesTurnedSpec)

/-- 'tenaillelaw42.ReorderRises', WHERE WHAT IT READS IS OF BULK AT MOST 1048576: true; the input reads as it did. -/
def reorderRisesUptoRow : OpenClaim := { program := "ytcempndfbckcaaa", sum := "ffa1224520cbce3131630fadf769087dd64227bcb0fc4b3eea2628554e6bfab8", func := "tenaille/tenaillelaw42.ReorderRises", spec := "reorderRises", unfollowed := true, recurses := true, plainKeys := false, apart := false, narrowed := true }
def ReorderRisesUptoSaid : Prop := reorderRisesUptoRow.holds Try.pinned (OpenSpec.upto reorderRisesSpec)

/-- 'tenaillelaw42.ReorderStraight', WHERE WHAT IT READS IS OF BULK AT MOST 1048576: true; the input reads as it did. -/
def reorderStraightUptoRow : OpenClaim := { program := "ytcempndfbckcaaa", sum := "ffa1224520cbce3131630fadf769087dd64227bcb0fc4b3eea2628554e6bfab8", func := "tenaille/tenaillelaw42.ReorderStraight", spec := "reorderStraight", unfollowed := true, recurses := true, plainKeys := false, apart := false, narrowed := true }
def ReorderStraightUptoSaid : Prop := reorderStraightUptoRow.holds Try.pinned (OpenSpec.upto reorderStraightSpec)

/-- 'tenaillelaw42.ReorderPlays', WHERE WHAT IT READS IS OF BULK AT MOST 1048576: true; the input reads as it did. -/
def reorderPlaysUptoRow : OpenClaim := { program := "ytcempndfbckcaaa", sum := "ffa1224520cbce3131630fadf769087dd64227bcb0fc4b3eea2628554e6bfab8", func := "tenaille/tenaillelaw42.ReorderPlays", spec := "reorderPlays", unfollowed := true, recurses := true, plainKeys := false, apart := false, narrowed := true }
def ReorderPlaysUptoSaid : Prop := reorderPlaysUptoRow.holds Try.pinned (OpenSpec.upto reorderPlaysSpec)

/-- 'tenaillelaw46.SchedOnce', WHERE WHAT IT READS IS OF BULK AT MOST 1048576: true; the input reads as it did. -/
def schedOnceUptoRow : OpenClaim := { program := "ytcempndfbckcaaa", sum := "ffa1224520cbce3131630fadf769087dd64227bcb0fc4b3eea2628554e6bfab8", func := "tenaille/tenaillelaw46.SchedOnce", spec := "schedOnce", unfollowed := true, recurses := true, plainKeys := false, apart := false, narrowed := true }
def SchedOnceUptoSaid : Prop := schedOnceUptoRow.holds Try.pinned (OpenSpec.upto schedOnceSpec)

/-- 'tenaillelaw11.RtcpWrites', WHERE WHAT IT READS IS OF BULK AT MOST 1048576: true; the input reads as it did. -/
def rtcpWritesUptoRow : OpenClaim := { program := "ytcempndfbckcaaa", sum := "ffa1224520cbce3131630fadf769087dd64227bcb0fc4b3eea2628554e6bfab8", func := "tenaille/tenaillelaw11.RtcpWrites", spec := "rtcpWrites", unfollowed := true, recurses := true, plainKeys := false, apart := false, narrowed := true }
def RtcpWritesUptoSaid : Prop := rtcpWritesUptoRow.holds Try.pinned (OpenSpec.upto rtcpWritesSpec)

/-- 'tenaillelaw46.SchedNone', WHERE WHAT IT READS IS OF BULK AT MOST 1048576: true; the input reads as it did. -/
def schedNoneUptoRow : OpenClaim := { program := "ytcempndfbckcaaa", sum := "ffa1224520cbce3131630fadf769087dd64227bcb0fc4b3eea2628554e6bfab8", func := "tenaille/tenaillelaw46.SchedNone", spec := "schedNone", unfollowed := true, recurses := true, plainKeys := false, apart := false, narrowed := true }
def SchedNoneUptoSaid : Prop := schedNoneUptoRow.holds Try.pinned (OpenSpec.upto schedNoneSpec)

end Rows
end Go.Proofs.Ytcempndfbckcaaa
