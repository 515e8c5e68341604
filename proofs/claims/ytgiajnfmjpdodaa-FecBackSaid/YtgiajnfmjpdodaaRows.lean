/-
  No cell of these rows narrows 'for every input' (looked for: loops, veiled, ifaces, maps, wideKeys, modest, calm, conditions, laid).
  DERIVED. THE GIVEN ROWS OF THIS SEAT. 13 by the template 'for every input the law returns true; each argument reads behind the call as it read before'; 0 by the template 'total and deterministic' (their statements: YtgiajnfmjpdodaaTotals.lean).
  GIVEN WITH THE SEED: the statements are not yours to turn. If you find one false, say at which input.
  Laid BY PROGRAM, IN A SANDBOX (cutbox-rows.mjs): the forced cells as the released guide's own fill.sh prints them over the translation 132713c51883c145… (all of the seat's roots in one cut). By AI agents, Wed Nov 11 2026. No macro, syntax, notation, axiom, sorry.
-/
import Derived.Test.YtgiajnfmjpdodaaChecked
import GoSem.Claim
import GoSem.ClaimJoined
import GoSem.ClaimMapViews
import Derived.JoinedTies
import Derived.KernelRfl
namespace Go.Proofs.Ytgiajnfmjpdodaa
/- THE CELL 'sum', in the pinned program and in every row, IS THE sha256 OF THE DUMP (.gsa) THAT YtgiajnfmjpdodaaProg.lean LOADS. Nothing in Lean hashes anything: it is a label: what it is worth is what the hold of that sum in a sandbox is worth. -/
noncomputable def Try.pinned : Pinned := { name := "ytgiajnfmjpdodaa", sum := "132713c51883c145d3451e0034a0363f3de09243016033769c0b8589cb0702f8", checked := Try.checked }
namespace Rows
def none {H : Type} : Left H := { results := [], args := [] }

/-- 'tenaillelaw10.RtpOwn': WHATEVER THE INPUT: true; the input reads as it did. -/
def rtpOwnSpec : ChangeSpec := { name := "rtpOwn", fn := fun _ => fun
  | [d] => { results := [.lit (.bool true)], args := [d] }
  | _ => none }
def rtpOwnRow : OpenClaim := { program := "ytgiajnfmjpdodaa", sum := "132713c51883c145d3451e0034a0363f3de09243016033769c0b8589cb0702f8", func := "tenaille/tenaillelaw10.RtpOwn", spec := "rtpOwn", unfollowed := true, recurses := true, apart := false }
def RtpOwnSaid : Prop := rtpOwnRow.holds Try.pinned (OpenSpec.ofChange rtpOwnSpec)

/-- ITS FALSE NEIGHBOUR: 'it returns false'. Refute it at one input. -/
def rtpOwnWrong : ChangeSpec := { name := "rtpOwn", fn := fun _ => fun
  | [d] => { results := [.lit (.bool false)], args := [d] }
  | _ => none }
def RtpOwnWrongFalsely : Prop := rtpOwnRow.holds Try.pinned (OpenSpec.ofChange rtpOwnWrong)

/-- 'tenaillelaw10.RtpReads': WHATEVER THE INPUT: true; the input reads as it did. -/
def rtpReadsSpec : ChangeSpec := { name := "rtpReads", fn := fun _ => fun
  | [d] => { results := [.lit (.bool true)], args := [d] }
  | _ => none }
def rtpReadsRow : OpenClaim := { program := "ytgiajnfmjpdodaa", sum := "132713c51883c145d3451e0034a0363f3de09243016033769c0b8589cb0702f8", func := "tenaille/tenaillelaw10.RtpReads", spec := "rtpReads", unfollowed := true, recurses := true, apart := false }
def RtpReadsSaid : Prop := rtpReadsRow.holds Try.pinned (OpenSpec.ofChange rtpReadsSpec)

/-- ITS FALSE NEIGHBOUR: 'it returns false'. Refute it at one input. -/
def rtpReadsWrong : ChangeSpec := { name := "rtpReads", fn := fun _ => fun
  | [d] => { results := [.lit (.bool false)], args := [d] }
  | _ => none }
def RtpReadsWrongFalsely : Prop := rtpReadsRow.holds Try.pinned (OpenSpec.ofChange rtpReadsWrong)

/-- 'tenaillelaw39.PacerOwn': WHATEVER THE INPUT: true; the input reads as it did. -/
def pacerOwnSpec : ChangeSpec := { name := "pacerOwn", fn := fun _ => fun
  | [d1, d2] => { results := [.lit (.bool true)], args := [d1, d2] }
  | _ => none }
def pacerOwnRow : OpenClaim := { program := "ytgiajnfmjpdodaa", sum := "132713c51883c145d3451e0034a0363f3de09243016033769c0b8589cb0702f8", func := "tenaille/tenaillelaw39.PacerOwn", spec := "pacerOwn", unfollowed := true, recurses := true, apart := false }
def PacerOwnSaid : Prop := pacerOwnRow.holds Try.pinned (OpenSpec.ofChange pacerOwnSpec)

/-- ITS FALSE NEIGHBOUR: 'it returns false'. Refute it at one input. -/
def pacerOwnWrong : ChangeSpec := { name := "pacerOwn", fn := fun _ => fun
  | [d1, d2] => { results := [.lit (.bool false)], args := [d1, d2] }
  | _ => none }
def PacerOwnWrongFalsely : Prop := pacerOwnRow.holds Try.pinned (OpenSpec.ofChange pacerOwnWrong)

/-- 'tenaillelaw10.RtpWrites': WHATEVER THE INPUT: true; the input reads as it did. -/
def rtpWritesSpec : ChangeSpec := { name := "rtpWrites", fn := fun _ => fun
  | [d] => { results := [.lit (.bool true)], args := [d] }
  | _ => none }
def rtpWritesRow : OpenClaim := { program := "ytgiajnfmjpdodaa", sum := "132713c51883c145d3451e0034a0363f3de09243016033769c0b8589cb0702f8", func := "tenaille/tenaillelaw10.RtpWrites", spec := "rtpWrites", unfollowed := true, recurses := true, apart := false }
def RtpWritesSaid : Prop := rtpWritesRow.holds Try.pinned (OpenSpec.ofChange rtpWritesSpec)

/-- ITS FALSE NEIGHBOUR: 'it returns false'. Refute it at one input. -/
def rtpWritesWrong : ChangeSpec := { name := "rtpWrites", fn := fun _ => fun
  | [d] => { results := [.lit (.bool false)], args := [d] }
  | _ => none }
def RtpWritesWrongFalsely : Prop := rtpWritesRow.holds Try.pinned (OpenSpec.ofChange rtpWritesWrong)

/-- 'tenaillelaw10.RtpBack': WHATEVER THE INPUT: true; the input reads as it did. -/
def rtpBackSpec : ChangeSpec := { name := "rtpBack", fn := fun _ => fun
  | [d] => { results := [.lit (.bool true)], args := [d] }
  | _ => none }
def rtpBackRow : OpenClaim := { program := "ytgiajnfmjpdodaa", sum := "132713c51883c145d3451e0034a0363f3de09243016033769c0b8589cb0702f8", func := "tenaille/tenaillelaw10.RtpBack", spec := "rtpBack", unfollowed := true, recurses := true, apart := false }
def RtpBackSaid : Prop := rtpBackRow.holds Try.pinned (OpenSpec.ofChange rtpBackSpec)

/-- ITS FALSE NEIGHBOUR: 'it returns false'. Refute it at one input. -/
def rtpBackWrong : ChangeSpec := { name := "rtpBack", fn := fun _ => fun
  | [d] => { results := [.lit (.bool false)], args := [d] }
  | _ => none }
def RtpBackWrongFalsely : Prop := rtpBackRow.holds Try.pinned (OpenSpec.ofChange rtpBackWrong)

/-- 'tenaillelaw39.PacerBounds': WHATEVER THE INPUT: true; the input reads as it did. -/
def pacerBoundsSpec : ChangeSpec := { name := "pacerBounds", fn := fun _ => fun
  | [d1, d2, d3, d4, d5] => { results := [.lit (.bool true)], args := [d1, d2, d3, d4, d5] }
  | _ => none }
def pacerBoundsRow : OpenClaim := { program := "ytgiajnfmjpdodaa", sum := "132713c51883c145d3451e0034a0363f3de09243016033769c0b8589cb0702f8", func := "tenaille/tenaillelaw39.PacerBounds", spec := "pacerBounds", unfollowed := true, recurses := true, apart := false }
def PacerBoundsSaid : Prop := pacerBoundsRow.holds Try.pinned (OpenSpec.ofChange pacerBoundsSpec)

/-- ITS FALSE NEIGHBOUR: 'it returns false'. Refute it at one input. -/
def pacerBoundsWrong : ChangeSpec := { name := "pacerBounds", fn := fun _ => fun
  | [d1, d2, d3, d4, d5] => { results := [.lit (.bool false)], args := [d1, d2, d3, d4, d5] }
  | _ => none }
def PacerBoundsWrongFalsely : Prop := pacerBoundsRow.holds Try.pinned (OpenSpec.ofChange pacerBoundsWrong)

/-- 'tenaillelaw39.PacerPlays': WHATEVER THE INPUT: true; the input reads as it did. -/
def pacerPlaysSpec : ChangeSpec := { name := "pacerPlays", fn := fun _ => fun
  | [d1, d2, d3, d4, d5] => { results := [.lit (.bool true)], args := [d1, d2, d3, d4, d5] }
  | _ => none }
def pacerPlaysRow : OpenClaim := { program := "ytgiajnfmjpdodaa", sum := "132713c51883c145d3451e0034a0363f3de09243016033769c0b8589cb0702f8", func := "tenaille/tenaillelaw39.PacerPlays", spec := "pacerPlays", unfollowed := true, recurses := true, apart := false }
def PacerPlaysSaid : Prop := pacerPlaysRow.holds Try.pinned (OpenSpec.ofChange pacerPlaysSpec)

/-- ITS FALSE NEIGHBOUR: 'it returns false'. Refute it at one input. -/
def pacerPlaysWrong : ChangeSpec := { name := "pacerPlays", fn := fun _ => fun
  | [d1, d2, d3, d4, d5] => { results := [.lit (.bool false)], args := [d1, d2, d3, d4, d5] }
  | _ => none }
def PacerPlaysWrongFalsely : Prop := pacerPlaysRow.holds Try.pinned (OpenSpec.ofChange pacerPlaysWrong)

/-- 'tenaillelaw35.FecMakes': WHATEVER THE INPUT: true; the input reads as it did. -/
def fecMakesSpec : ChangeSpec := { name := "fecMakes", fn := fun _ => fun
  | [d] => { results := [.lit (.bool true)], args := [d] }
  | _ => none }
def fecMakesRow : OpenClaim := { program := "ytgiajnfmjpdodaa", sum := "132713c51883c145d3451e0034a0363f3de09243016033769c0b8589cb0702f8", func := "tenaille/tenaillelaw35.FecMakes", spec := "fecMakes", unfollowed := true, recurses := true, apart := false }
def FecMakesSaid : Prop := fecMakesRow.holds Try.pinned (OpenSpec.ofChange fecMakesSpec)

/-- ITS FALSE NEIGHBOUR: 'it returns false'. Refute it at one input. -/
def fecMakesWrong : ChangeSpec := { name := "fecMakes", fn := fun _ => fun
  | [d] => { results := [.lit (.bool false)], args := [d] }
  | _ => none }
def FecMakesWrongFalsely : Prop := fecMakesRow.holds Try.pinned (OpenSpec.ofChange fecMakesWrong)

/-- 'tenaillelaw19.RingOwn': WHATEVER THE INPUT: true; the input reads as it did. -/
def ringOwnSpec : ChangeSpec := { name := "ringOwn", fn := fun _ => fun
  | [d1, d2, d3] => { results := [.lit (.bool true)], args := [d1, d2, d3] }
  | _ => none }
def ringOwnRow : OpenClaim := { program := "ytgiajnfmjpdodaa", sum := "132713c51883c145d3451e0034a0363f3de09243016033769c0b8589cb0702f8", func := "tenaille/tenaillelaw19.RingOwn", spec := "ringOwn", inPlace := ["slices.overlaps[tenaille/ring.packet]"], unfollowed := true, recurses := true, apart := false }
def RingOwnSaid : Prop := ringOwnRow.holds Try.pinned (OpenSpec.ofChange ringOwnSpec)

/-- ITS FALSE NEIGHBOUR: 'it returns false'. Refute it at one input. -/
def ringOwnWrong : ChangeSpec := { name := "ringOwn", fn := fun _ => fun
  | [d1, d2, d3] => { results := [.lit (.bool false)], args := [d1, d2, d3] }
  | _ => none }
def RingOwnWrongFalsely : Prop := ringOwnRow.holds Try.pinned (OpenSpec.ofChange ringOwnWrong)

/-- 'tenaillelaw19.RingLast': WHATEVER THE INPUT: true; the input reads as it did. -/
def ringLastSpec : ChangeSpec := { name := "ringLast", fn := fun _ => fun
  | [d1, d2, d3] => { results := [.lit (.bool true)], args := [d1, d2, d3] }
  | _ => none }
def ringLastRow : OpenClaim := { program := "ytgiajnfmjpdodaa", sum := "132713c51883c145d3451e0034a0363f3de09243016033769c0b8589cb0702f8", func := "tenaille/tenaillelaw19.RingLast", spec := "ringLast", inPlace := ["slices.overlaps[tenaille/ring.packet]"], unfollowed := true, recurses := true, apart := false }
def RingLastSaid : Prop := ringLastRow.holds Try.pinned (OpenSpec.ofChange ringLastSpec)

/-- ITS FALSE NEIGHBOUR: 'it returns false'. Refute it at one input. -/
def ringLastWrong : ChangeSpec := { name := "ringLast", fn := fun _ => fun
  | [d1, d2, d3] => { results := [.lit (.bool false)], args := [d1, d2, d3] }
  | _ => none }
def RingLastWrongFalsely : Prop := ringLastRow.holds Try.pinned (OpenSpec.ofChange ringLastWrong)

/-- 'tenaillelaw19.RingPlays': WHATEVER THE INPUT: true; the input reads as it did. -/
def ringPlaysSpec : ChangeSpec := { name := "ringPlays", fn := fun _ => fun
  | [d1, d2, d3] => { results := [.lit (.bool true)], args := [d1, d2, d3] }
  | _ => none }
def ringPlaysRow : OpenClaim := { program := "ytgiajnfmjpdodaa", sum := "132713c51883c145d3451e0034a0363f3de09243016033769c0b8589cb0702f8", func := "tenaille/tenaillelaw19.RingPlays", spec := "ringPlays", inPlace := ["slices.overlaps[tenaille/ring.packet]"], unfollowed := true, recurses := true, apart := false }
def RingPlaysSaid : Prop := ringPlaysRow.holds Try.pinned (OpenSpec.ofChange ringPlaysSpec)

/-- ITS FALSE NEIGHBOUR: 'it returns false'. Refute it at one input. -/
def ringPlaysWrong : ChangeSpec := { name := "ringPlays", fn := fun _ => fun
  | [d1, d2, d3] => { results := [.lit (.bool false)], args := [d1, d2, d3] }
  | _ => none }
def RingPlaysWrongFalsely : Prop := ringPlaysRow.holds Try.pinned (OpenSpec.ofChange ringPlaysWrong)

/-- 'tenaillelaw19.RingNone': WHATEVER THE INPUT: true; the input reads as it did. -/
def ringNoneSpec : ChangeSpec := { name := "ringNone", fn := fun _ => fun
  | [d1, d2] => { results := [.lit (.bool true)], args := [d1, d2] }
  | _ => none }
def ringNoneRow : OpenClaim := { program := "ytgiajnfmjpdodaa", sum := "132713c51883c145d3451e0034a0363f3de09243016033769c0b8589cb0702f8", func := "tenaille/tenaillelaw19.RingNone", spec := "ringNone", inPlace := ["slices.overlaps[tenaille/ring.packet]"], unfollowed := true, recurses := true, apart := false }
def RingNoneSaid : Prop := ringNoneRow.holds Try.pinned (OpenSpec.ofChange ringNoneSpec)

/-- ITS FALSE NEIGHBOUR: 'it returns false'. Refute it at one input. -/
def ringNoneWrong : ChangeSpec := { name := "ringNone", fn := fun _ => fun
  | [d1, d2] => { results := [.lit (.bool false)], args := [d1, d2] }
  | _ => none }
def RingNoneWrongFalsely : Prop := ringNoneRow.holds Try.pinned (OpenSpec.ofChange ringNoneWrong)

/-- 'tenaillelaw35.FecBack': WHATEVER THE INPUT: true; the input reads as it did. -/
def fecBackSpec : ChangeSpec := { name := "fecBack", fn := fun _ => fun
  | [d1, d2] => { results := [.lit (.bool true)], args := [d1, d2] }
  | _ => none }
def fecBackRow : OpenClaim := { program := "ytgiajnfmjpdodaa", sum := "132713c51883c145d3451e0034a0363f3de09243016033769c0b8589cb0702f8", func := "tenaille/tenaillelaw35.FecBack", spec := "fecBack", unfollowed := true, recurses := true, apart := false }
def FecBackSaid : Prop := fecBackRow.holds Try.pinned (OpenSpec.ofChange fecBackSpec)

/-- ITS FALSE NEIGHBOUR: 'it returns false'. Refute it at one input. -/
def fecBackWrong : ChangeSpec := { name := "fecBack", fn := fun _ => fun
  | [d1, d2] => { results := [.lit (.bool false)], args := [d1, d2] }
  | _ => none }
def FecBackWrongFalsely : Prop := fecBackRow.holds Try.pinned (OpenSpec.ofChange fecBackWrong)

/- THE SECOND FORM. 'bulk': how many values and letters a reading holds, each counted each time it is reached (what is shared counts as often as it is met; a slice's spare places count too). A statement '..UptoSaid' is the law's where the arguments, and the package variables that the reading takes, are together of bulk at most 1048576: NARROWER than '..Said'. Prove '..Said' where nothing that the law and all that it calls make is longer than what came in: it says more and counts as full. Else prove '..UptoSaid'. A law counts once. -/
mutual
def uptoBulk {H : Type} : DataW H → Nat
  | .lit (.string bytes) => bytes.length + 1
  | .lit _ => 1
  | .nil => 1
  | .ptr d => uptoBulk d + 1
  | .slice elems spare => uptoBulkAll elems + uptoBulkAll spare + 1
  | .agg parts => uptoBulkAll parts + 1
  | .iface _ d => uptoBulk d + 1
  | .map entries => uptoBulkEntries entries + 1
  | .held _ => 1
def uptoBulkAll {H : Type} : List (DataW H) → Nat
  | [] => 0
  | d :: r => uptoBulk d + uptoBulkAll r
def uptoBulkEntries {H : Type} : List (Lit × DataW H) → Nat
  | [] => 0
  | x :: r => uptoBulkEntry x + uptoBulkEntries r
def uptoBulkEntry {H : Type} : Lit × DataW H → Nat
  | (.string bytes, d) => bytes.length + uptoBulk d + 1
  | (_, d) => uptoBulk d + 1
 end
def uptoSmall : (H : Type) → List (DataW H) → Bool := fun _ ds => decide (uptoBulkAll ds ≤ 1048576)
def OpenSpec.upto (s : _root_.Go.ChangeSpec) : _root_.Go.OpenSpec := { _root_.Go.OpenSpec.ofChange s with cond := some uptoSmall }

/-- 'tenaillelaw10.RtpOwn', WHERE WHAT IT READS IS OF BULK AT MOST 1048576: true; the input reads as it did. -/
def rtpOwnUptoRow : OpenClaim := { program := "ytgiajnfmjpdodaa", sum := "132713c51883c145d3451e0034a0363f3de09243016033769c0b8589cb0702f8", func := "tenaille/tenaillelaw10.RtpOwn", spec := "rtpOwn", unfollowed := true, recurses := true, apart := false, narrowed := true }
def RtpOwnUptoSaid : Prop := rtpOwnUptoRow.holds Try.pinned (OpenSpec.upto rtpOwnSpec)

/-- 'tenaillelaw10.RtpReads', WHERE WHAT IT READS IS OF BULK AT MOST 1048576: true; the input reads as it did. -/
def rtpReadsUptoRow : OpenClaim := { program := "ytgiajnfmjpdodaa", sum := "132713c51883c145d3451e0034a0363f3de09243016033769c0b8589cb0702f8", func := "tenaille/tenaillelaw10.RtpReads", spec := "rtpReads", unfollowed := true, recurses := true, apart := false, narrowed := true }
def RtpReadsUptoSaid : Prop := rtpReadsUptoRow.holds Try.pinned (OpenSpec.upto rtpReadsSpec)

/-- 'tenaillelaw39.PacerOwn', WHERE WHAT IT READS IS OF BULK AT MOST 1048576: true; the input reads as it did. -/
def pacerOwnUptoRow : OpenClaim := { program := "ytgiajnfmjpdodaa", sum := "132713c51883c145d3451e0034a0363f3de09243016033769c0b8589cb0702f8", func := "tenaille/tenaillelaw39.PacerOwn", spec := "pacerOwn", unfollowed := true, recurses := true, apart := false, narrowed := true }
def PacerOwnUptoSaid : Prop := pacerOwnUptoRow.holds Try.pinned (OpenSpec.upto pacerOwnSpec)

/-- 'tenaillelaw10.RtpWrites', WHERE WHAT IT READS IS OF BULK AT MOST 1048576: true; the input reads as it did. -/
def rtpWritesUptoRow : OpenClaim := { program := "ytgiajnfmjpdodaa", sum := "132713c51883c145d3451e0034a0363f3de09243016033769c0b8589cb0702f8", func := "tenaille/tenaillelaw10.RtpWrites", spec := "rtpWrites", unfollowed := true, recurses := true, apart := false, narrowed := true }
def RtpWritesUptoSaid : Prop := rtpWritesUptoRow.holds Try.pinned (OpenSpec.upto rtpWritesSpec)

/-- 'tenaillelaw10.RtpBack', WHERE WHAT IT READS IS OF BULK AT MOST 1048576: true; the input reads as it did. -/
def rtpBackUptoRow : OpenClaim := { program := "ytgiajnfmjpdodaa", sum := "132713c51883c145d3451e0034a0363f3de09243016033769c0b8589cb0702f8", func := "tenaille/tenaillelaw10.RtpBack", spec := "rtpBack", unfollowed := true, recurses := true, apart := false, narrowed := true }
def RtpBackUptoSaid : Prop := rtpBackUptoRow.holds Try.pinned (OpenSpec.upto rtpBackSpec)

/-- 'tenaillelaw39.PacerBounds', WHERE WHAT IT READS IS OF BULK AT MOST 1048576: true; the input reads as it did. -/
def pacerBoundsUptoRow : OpenClaim := { program := "ytgiajnfmjpdodaa", sum := "132713c51883c145d3451e0034a0363f3de09243016033769c0b8589cb0702f8", func := "tenaille/tenaillelaw39.PacerBounds", spec := "pacerBounds", unfollowed := true, recurses := true, apart := false, narrowed := true }
def PacerBoundsUptoSaid : Prop := pacerBoundsUptoRow.holds Try.pinned (OpenSpec.upto pacerBoundsSpec)

/-- 'tenaillelaw39.PacerPlays', WHERE WHAT IT READS IS OF BULK AT MOST 1048576: true; the input reads as it did. -/
def pacerPlaysUptoRow : OpenClaim := { program := "ytgiajnfmjpdodaa", sum := "132713c51883c145d3451e0034a0363f3de09243016033769c0b8589cb0702f8", func := "tenaille/tenaillelaw39.PacerPlays", spec := "pacerPlays", unfollowed := true, recurses := true, apart := false, narrowed := true }
def PacerPlaysUptoSaid : Prop := pacerPlaysUptoRow.holds Try.pinned (OpenSpec.upto pacerPlaysSpec)

/-- 'tenaillelaw35.FecMakes', WHERE WHAT IT READS IS OF BULK AT MOST 1048576: true; the input reads as it did. -/
def fecMakesUptoRow : OpenClaim := { program := "ytgiajnfmjpdodaa", sum := "132713c51883c145d3451e0034a0363f3de09243016033769c0b8589cb0702f8", func := "tenaille/tenaillelaw35.FecMakes", spec := "fecMakes", unfollowed := true, recurses := true, apart := false, narrowed := true }
def FecMakesUptoSaid : Prop := fecMakesUptoRow.holds Try.pinned (OpenSpec.upto fecMakesSpec)

/-- 'tenaillelaw19.RingOwn', WHERE WHAT IT READS IS OF BULK AT MOST 1048576: true; the input reads as it did. -/
def ringOwnUptoRow : OpenClaim := { program := "ytgiajnfmjpdodaa", sum := "132713c51883c145d3451e0034a0363f3de09243016033769c0b8589cb0702f8", func := "tenaille/tenaillelaw19.RingOwn", spec := "ringOwn", inPlace := ["slices.overlaps[tenaille/ring.packet]"], unfollowed := true, recurses := true, apart := false, narrowed := true }
def RingOwnUptoSaid : Prop := ringOwnUptoRow.holds Try.pinned (OpenSpec.upto ringOwnSpec)

/-- 'tenaillelaw19.RingLast', WHERE WHAT IT READS IS OF BULK AT MOST 1048576: true; the input reads as it did. -/
def ringLastUptoRow : OpenClaim := { program := "ytgiajnfmjpdodaa", sum := "132713c51883c145d3451e0034a0363f3de09243016033769c0b8589cb0702f8", func := "tenaille/tenaillelaw19.RingLast", spec := "ringLast", inPlace := ["slices.overlaps[tenaille/ring.packet]"], unfollowed := true, recurses := true, apart := false, narrowed := true }
def RingLastUptoSaid : Prop := ringLastUptoRow.holds Try.pinned (OpenSpec.upto ringLastSpec)

/-- 'tenaillelaw19.RingPlays', WHERE WHAT IT READS IS OF BULK AT MOST 1048576: true; the input reads as it did. -/
def ringPlaysUptoRow : OpenClaim := { program := "ytgiajnfmjpdodaa", sum := "132713c51883c145d3451e0034a0363f3de09243016033769c0b8589cb0702f8", func := "tenaille/tenaillelaw19.RingPlays", spec := "ringPlays", inPlace := ["slices.overlaps[tenaille/ring.packet]"], unfollowed := true, recurses := true, apart := false, narrowed := true }
def RingPlaysUptoSaid : Prop := ringPlaysUptoRow.holds Try.pinned (OpenSpec.upto ringPlaysSpec)

/-- 'tenaillelaw19.RingNone', WHERE WHAT IT READS IS OF BULK AT MOST 1048576: true; the input reads as it did. -/
def ringNoneUptoRow : OpenClaim := { program := "ytgiajnfmjpdodaa", sum := "132713c51883c145d3451e0034a0363f3de09243016033769c0b8589cb0702f8", func := "tenaille/tenaillelaw19.RingNone", spec := "ringNone", inPlace := ["slices.overlaps[tenaille/ring.packet]"], unfollowed := true, recurses := true, apart := false, narrowed := true }
def RingNoneUptoSaid : Prop := ringNoneUptoRow.holds Try.pinned (OpenSpec.upto ringNoneSpec)

/-- 'tenaillelaw35.FecBack', WHERE WHAT IT READS IS OF BULK AT MOST 1048576: true; the input reads as it did. -/
def fecBackUptoRow : OpenClaim := { program := "ytgiajnfmjpdodaa", sum := "132713c51883c145d3451e0034a0363f3de09243016033769c0b8589cb0702f8", func := "tenaille/tenaillelaw35.FecBack", spec := "fecBack", unfollowed := true, recurses := true, apart := false, narrowed := true }
def FecBackUptoSaid : Prop := fecBackUptoRow.holds Try.pinned (OpenSpec.upto fecBackSpec)

end Rows
end Go.Proofs.Ytgiajnfmjpdodaa
