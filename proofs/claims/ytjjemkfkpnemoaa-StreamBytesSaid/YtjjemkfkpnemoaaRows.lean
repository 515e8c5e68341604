/-
  No cell of these rows narrows 'for every input' (looked for: loops, veiled, ifaces, maps, wideKeys, modest, calm, conditions, laid).
  DERIVED. THE GIVEN ROWS OF THIS SEAT. 13 by the template 'for every input the law returns true; each argument reads behind the call as it read before'; 0 by the template 'total and deterministic' (their statements: YtjjemkfkpnemoaaTotals.lean).
  GIVEN WITH THE SEED: the statements are not yours to turn. If you find one false, say at which input.
  Laid BY PROGRAM, IN A SANDBOX (cutbox-rows.mjs): the forced cells as the released guide's own fill.sh prints them over the translation 76860e8f2601e7eb… (all of the seat's roots in one cut). By AI agents, Wed Nov 11 2026. No macro, syntax, notation, axiom, sorry.
-/
import Derived.Test.YtjjemkfkpnemoaaChecked
import GoSem.Claim
import GoSem.ClaimJoined
import GoSem.ClaimMapViews
import Derived.JoinedTies
import Derived.KernelRfl
namespace Go.Proofs.Ytjjemkfkpnemoaa
/- THE CELL 'sum', in the pinned program and in every row, IS THE sha256 OF THE DUMP (.gsa) THAT YtjjemkfkpnemoaaProg.lean LOADS. Nothing in Lean hashes anything: it is a label: what it is worth is what the hold of that sum in a sandbox is worth. -/
noncomputable def Try.pinned : Pinned := { name := "ytjjemkfkpnemoaa", sum := "76860e8f2601e7ebd0d34dec9ab9359a06778fbe0c4fb79df101fb18fd509611", checked := Try.checked }
namespace Rows
def none {H : Type} : Left H := { results := [], args := [] }

/-- 'tenaillelaw05.AesTimes': WHATEVER THE INPUT: true; the input reads as it did. -/
def aesTimesSpec : ChangeSpec := { name := "aesTimes", fn := fun _ => fun
  | [d1, d2] => { results := [.lit (.bool true)], args := [d1, d2] }
  | _ => none }
def aesTimesRow : OpenClaim := { program := "ytjjemkfkpnemoaa", sum := "76860e8f2601e7ebd0d34dec9ab9359a06778fbe0c4fb79df101fb18fd509611", func := "tenaille/tenaillelaw05.AesTimes", spec := "aesTimes", unfollowed := true, recurses := true, apart := false }
def AesTimesSaid : Prop := aesTimesRow.holds Try.pinned (OpenSpec.ofChange aesTimesSpec)

/-- ITS FALSE NEIGHBOUR: 'it returns false'. Refute it at one input. -/
def aesTimesWrong : ChangeSpec := { name := "aesTimes", fn := fun _ => fun
  | [d1, d2] => { results := [.lit (.bool false)], args := [d1, d2] }
  | _ => none }
def AesTimesWrongFalsely : Prop := aesTimesRow.holds Try.pinned (OpenSpec.ofChange aesTimesWrong)

/-- 'tenaillelaw05.AesBlocks': WHATEVER THE INPUT: true; the input reads as it did. -/
def aesBlocksSpec : ChangeSpec := { name := "aesBlocks", fn := fun _ => fun
  | [d1, d2, d3] => { results := [.lit (.bool true)], args := [d1, d2, d3] }
  | _ => none }
def aesBlocksRow : OpenClaim := { program := "ytjjemkfkpnemoaa", sum := "76860e8f2601e7ebd0d34dec9ab9359a06778fbe0c4fb79df101fb18fd509611", func := "tenaille/tenaillelaw05.AesBlocks", spec := "aesBlocks", unfollowed := true, recurses := true, apart := false }
def AesBlocksSaid : Prop := aesBlocksRow.holds Try.pinned (OpenSpec.ofChange aesBlocksSpec)

/-- ITS FALSE NEIGHBOUR: 'it returns false'. Refute it at one input. -/
def aesBlocksWrong : ChangeSpec := { name := "aesBlocks", fn := fun _ => fun
  | [d1, d2, d3] => { results := [.lit (.bool false)], args := [d1, d2, d3] }
  | _ => none }
def AesBlocksWrongFalsely : Prop := aesBlocksRow.holds Try.pinned (OpenSpec.ofChange aesBlocksWrong)

/-- 'tenaillelaw05.AesWords': WHATEVER THE INPUT: true; the input reads as it did. -/
def aesWordsSpec : ChangeSpec := { name := "aesWords", fn := fun _ => fun
  | [d] => { results := [.lit (.bool true)], args := [d] }
  | _ => none }
def aesWordsRow : OpenClaim := { program := "ytjjemkfkpnemoaa", sum := "76860e8f2601e7ebd0d34dec9ab9359a06778fbe0c4fb79df101fb18fd509611", func := "tenaille/tenaillelaw05.AesWords", spec := "aesWords", unfollowed := true, recurses := true, apart := false }
def AesWordsSaid : Prop := aesWordsRow.holds Try.pinned (OpenSpec.ofChange aesWordsSpec)

/-- ITS FALSE NEIGHBOUR: 'it returns false'. Refute it at one input. -/
def aesWordsWrong : ChangeSpec := { name := "aesWords", fn := fun _ => fun
  | [d] => { results := [.lit (.bool false)], args := [d] }
  | _ => none }
def AesWordsWrongFalsely : Prop := aesWordsRow.holds Try.pinned (OpenSpec.ofChange aesWordsWrong)

/-- 'tenaillelaw03.ShaSums': WHATEVER THE INPUT: true; the input reads as it did. -/
def shaSumsSpec : ChangeSpec := { name := "shaSums", fn := fun _ => fun
  | [d] => { results := [.lit (.bool true)], args := [d] }
  | _ => none }
def shaSumsRow : OpenClaim := { program := "ytjjemkfkpnemoaa", sum := "76860e8f2601e7ebd0d34dec9ab9359a06778fbe0c4fb79df101fb18fd509611", func := "tenaille/tenaillelaw03.ShaSums", spec := "shaSums", recurses := true, apart := false }
def ShaSumsSaid : Prop := shaSumsRow.holds Try.pinned (OpenSpec.ofChange shaSumsSpec)

/-- ITS FALSE NEIGHBOUR: 'it returns false'. Refute it at one input. -/
def shaSumsWrong : ChangeSpec := { name := "shaSums", fn := fun _ => fun
  | [d] => { results := [.lit (.bool false)], args := [d] }
  | _ => none }
def ShaSumsWrongFalsely : Prop := shaSumsRow.holds Try.pinned (OpenSpec.ofChange shaSumsWrong)

/-- 'tenaillelaw03.ShaParts': WHATEVER THE INPUT: true; the input reads as it did. -/
def shaPartsSpec : ChangeSpec := { name := "shaParts", fn := fun _ => fun
  | [d] => { results := [.lit (.bool true)], args := [d] }
  | _ => none }
def shaPartsRow : OpenClaim := { program := "ytjjemkfkpnemoaa", sum := "76860e8f2601e7ebd0d34dec9ab9359a06778fbe0c4fb79df101fb18fd509611", func := "tenaille/tenaillelaw03.ShaParts", spec := "shaParts", recurses := true, apart := false }
def ShaPartsSaid : Prop := shaPartsRow.holds Try.pinned (OpenSpec.ofChange shaPartsSpec)

/-- ITS FALSE NEIGHBOUR: 'it returns false'. Refute it at one input. -/
def shaPartsWrong : ChangeSpec := { name := "shaParts", fn := fun _ => fun
  | [d] => { results := [.lit (.bool false)], args := [d] }
  | _ => none }
def ShaPartsWrongFalsely : Prop := shaPartsRow.holds Try.pinned (OpenSpec.ofChange shaPartsWrong)

/-- 'tenaillelaw03.ShaNone': WHATEVER THE INPUT: true; the input reads as it did. -/
def shaNoneSpec : ChangeSpec := { name := "shaNone", fn := fun _ => fun
  | [d] => { results := [.lit (.bool true)], args := [d] }
  | _ => none }
def shaNoneRow : OpenClaim := { program := "ytjjemkfkpnemoaa", sum := "76860e8f2601e7ebd0d34dec9ab9359a06778fbe0c4fb79df101fb18fd509611", func := "tenaille/tenaillelaw03.ShaNone", spec := "shaNone", recurses := true, apart := false }
def ShaNoneSaid : Prop := shaNoneRow.holds Try.pinned (OpenSpec.ofChange shaNoneSpec)

/-- ITS FALSE NEIGHBOUR: 'it returns false'. Refute it at one input. -/
def shaNoneWrong : ChangeSpec := { name := "shaNone", fn := fun _ => fun
  | [d] => { results := [.lit (.bool false)], args := [d] }
  | _ => none }
def ShaNoneWrongFalsely : Prop := shaNoneRow.holds Try.pinned (OpenSpec.ofChange shaNoneWrong)

/-- 'tenaillelaw06.StreamBytes': WHATEVER THE INPUT: true; the input reads as it did. -/
def streamBytesSpec : ChangeSpec := { name := "streamBytes", fn := fun _ => fun
  | [d1, d2, d3, d4] => { results := [.lit (.bool true)], args := [d1, d2, d3, d4] }
  | _ => none }
def streamBytesRow : OpenClaim := { program := "ytjjemkfkpnemoaa", sum := "76860e8f2601e7ebd0d34dec9ab9359a06778fbe0c4fb79df101fb18fd509611", func := "tenaille/tenaillelaw06.StreamBytes", spec := "streamBytes", unfollowed := true, recurses := true, apart := false }
def StreamBytesSaid : Prop := streamBytesRow.holds Try.pinned (OpenSpec.ofChange streamBytesSpec)

/-- ITS FALSE NEIGHBOUR: 'it returns false'. Refute it at one input. -/
def streamBytesWrong : ChangeSpec := { name := "streamBytes", fn := fun _ => fun
  | [d1, d2, d3, d4] => { results := [.lit (.bool false)], args := [d1, d2, d3, d4] }
  | _ => none }
def StreamBytesWrongFalsely : Prop := streamBytesRow.holds Try.pinned (OpenSpec.ofChange streamBytesWrong)

/-- 'tenaillelaw06.StreamCiphers': WHATEVER THE INPUT: true; the input reads as it did. -/
def streamCiphersSpec : ChangeSpec := { name := "streamCiphers", fn := fun _ => fun
  | [d1, d2, d3] => { results := [.lit (.bool true)], args := [d1, d2, d3] }
  | _ => none }
def streamCiphersRow : OpenClaim := { program := "ytjjemkfkpnemoaa", sum := "76860e8f2601e7ebd0d34dec9ab9359a06778fbe0c4fb79df101fb18fd509611", func := "tenaille/tenaillelaw06.StreamCiphers", spec := "streamCiphers", unfollowed := true, recurses := true, apart := false }
def StreamCiphersSaid : Prop := streamCiphersRow.holds Try.pinned (OpenSpec.ofChange streamCiphersSpec)

/-- ITS FALSE NEIGHBOUR: 'it returns false'. Refute it at one input. -/
def streamCiphersWrong : ChangeSpec := { name := "streamCiphers", fn := fun _ => fun
  | [d1, d2, d3] => { results := [.lit (.bool false)], args := [d1, d2, d3] }
  | _ => none }
def StreamCiphersWrongFalsely : Prop := streamCiphersRow.holds Try.pinned (OpenSpec.ofChange streamCiphersWrong)

/-- 'tenaillelaw07.KeysDerive': WHATEVER THE INPUT: true; the input reads as it did. -/
def keysDeriveSpec : ChangeSpec := { name := "keysDerive", fn := fun _ => fun
  | [d1, d2, d3] => { results := [.lit (.bool true)], args := [d1, d2, d3] }
  | _ => none }
def keysDeriveRow : OpenClaim := { program := "ytjjemkfkpnemoaa", sum := "76860e8f2601e7ebd0d34dec9ab9359a06778fbe0c4fb79df101fb18fd509611", func := "tenaille/tenaillelaw07.KeysDerive", spec := "keysDerive", unfollowed := true, recurses := true, apart := false }
def KeysDeriveSaid : Prop := keysDeriveRow.holds Try.pinned (OpenSpec.ofChange keysDeriveSpec)

/-- ITS FALSE NEIGHBOUR: 'it returns false'. Refute it at one input. -/
def keysDeriveWrong : ChangeSpec := { name := "keysDerive", fn := fun _ => fun
  | [d1, d2, d3] => { results := [.lit (.bool false)], args := [d1, d2, d3] }
  | _ => none }
def KeysDeriveWrongFalsely : Prop := keysDeriveRow.holds Try.pinned (OpenSpec.ofChange keysDeriveWrong)

/-- 'tenaillelaw07.KeysAll': WHATEVER THE INPUT: true; the input reads as it did. -/
def keysAllSpec : ChangeSpec := { name := "keysAll", fn := fun _ => fun
  | [d] => { results := [.lit (.bool true)], args := [d] }
  | _ => none }
def keysAllRow : OpenClaim := { program := "ytjjemkfkpnemoaa", sum := "76860e8f2601e7ebd0d34dec9ab9359a06778fbe0c4fb79df101fb18fd509611", func := "tenaille/tenaillelaw07.KeysAll", spec := "keysAll", unfollowed := true, recurses := true, apart := false }
def KeysAllSaid : Prop := keysAllRow.holds Try.pinned (OpenSpec.ofChange keysAllSpec)

/-- ITS FALSE NEIGHBOUR: 'it returns false'. Refute it at one input. -/
def keysAllWrong : ChangeSpec := { name := "keysAll", fn := fun _ => fun
  | [d] => { results := [.lit (.bool false)], args := [d] }
  | _ => none }
def KeysAllWrongFalsely : Prop := keysAllRow.holds Try.pinned (OpenSpec.ofChange keysAllWrong)

/-- 'tenaillelaw06.StreamFirst': WHATEVER THE INPUT: true; the input reads as it did. -/
def streamFirstSpec : ChangeSpec := { name := "streamFirst", fn := fun _ => fun
  | [d1, d2, d3, d4] => { results := [.lit (.bool true)], args := [d1, d2, d3, d4] }
  | _ => none }
def streamFirstRow : OpenClaim := { program := "ytjjemkfkpnemoaa", sum := "76860e8f2601e7ebd0d34dec9ab9359a06778fbe0c4fb79df101fb18fd509611", func := "tenaille/tenaillelaw06.StreamFirst", spec := "streamFirst", unfollowed := true, recurses := true, apart := false }
def StreamFirstSaid : Prop := streamFirstRow.holds Try.pinned (OpenSpec.ofChange streamFirstSpec)

/-- ITS FALSE NEIGHBOUR: 'it returns false'. Refute it at one input. -/
def streamFirstWrong : ChangeSpec := { name := "streamFirst", fn := fun _ => fun
  | [d1, d2, d3, d4] => { results := [.lit (.bool false)], args := [d1, d2, d3, d4] }
  | _ => none }
def StreamFirstWrongFalsely : Prop := streamFirstRow.holds Try.pinned (OpenSpec.ofChange streamFirstWrong)

/-- 'tenaillelaw04.MacTags': WHATEVER THE INPUT: true; the input reads as it did. -/
def macTagsSpec : ChangeSpec := { name := "macTags", fn := fun _ => fun
  | [d1, d2, d3, d4] => { results := [.lit (.bool true)], args := [d1, d2, d3, d4] }
  | _ => none }
def macTagsRow : OpenClaim := { program := "ytjjemkfkpnemoaa", sum := "76860e8f2601e7ebd0d34dec9ab9359a06778fbe0c4fb79df101fb18fd509611", func := "tenaille/tenaillelaw04.MacTags", spec := "macTags", recurses := true, apart := false }
def MacTagsSaid : Prop := macTagsRow.holds Try.pinned (OpenSpec.ofChange macTagsSpec)

/-- ITS FALSE NEIGHBOUR: 'it returns false'. Refute it at one input. -/
def macTagsWrong : ChangeSpec := { name := "macTags", fn := fun _ => fun
  | [d1, d2, d3, d4] => { results := [.lit (.bool false)], args := [d1, d2, d3, d4] }
  | _ => none }
def MacTagsWrongFalsely : Prop := macTagsRow.holds Try.pinned (OpenSpec.ofChange macTagsWrong)

/-- 'tenaillelaw04.MacChecks': WHATEVER THE INPUT: true; the input reads as it did. -/
def macChecksSpec : ChangeSpec := { name := "macChecks", fn := fun _ => fun
  | [d1, d2, d3, d4, d5] => { results := [.lit (.bool true)], args := [d1, d2, d3, d4, d5] }
  | _ => none }
def macChecksRow : OpenClaim := { program := "ytjjemkfkpnemoaa", sum := "76860e8f2601e7ebd0d34dec9ab9359a06778fbe0c4fb79df101fb18fd509611", func := "tenaille/tenaillelaw04.MacChecks", spec := "macChecks", recurses := true, apart := false }
def MacChecksSaid : Prop := macChecksRow.holds Try.pinned (OpenSpec.ofChange macChecksSpec)

/-- ITS FALSE NEIGHBOUR: 'it returns false'. Refute it at one input. -/
def macChecksWrong : ChangeSpec := { name := "macChecks", fn := fun _ => fun
  | [d1, d2, d3, d4, d5] => { results := [.lit (.bool false)], args := [d1, d2, d3, d4, d5] }
  | _ => none }
def MacChecksWrongFalsely : Prop := macChecksRow.holds Try.pinned (OpenSpec.ofChange macChecksWrong)

/- THE SECOND FORM. 'bulk': how many values and letters a reading holds, each counted each time it is reached (what is shared counts as often as it is met; a slice's spare places count too). A statement '..UptoSaid' is the law's where the arguments, and the package variables that the reading takes, are together of bulk at most 1048576: NARROWER than '..Said'. Prove '..Said' where nothing that the law and all that it calls make is longer than what came in: it says more and counts as full. Else prove '..UptoSaid'. A law counts once. -/
mutual
def uptoBulk {H : Type} : DataW H → Nat
  | .lit (.string bytes) => bytes.length + 1
  | .lit _ => 1
  | .nil => 1
  | .ptr d => uptoBulk d + 1
  | .slice elems spare => uptoBulkAll elems + uptoBulkAll spare + 1
  | .agg parts => uptoBulkAll parts + 1
  | .iface _ d => uptoBulk d + 1
  | .map entries => uptoBulkEntries entries + 1
  | .held _ => 1
def uptoBulkAll {H : Type} : List (DataW H) → Nat
  | [] => 0
  | d :: r => uptoBulk d + uptoBulkAll r
def uptoBulkEntries {H : Type} : List (Lit × DataW H) → Nat
  | [] => 0
  | x :: r => uptoBulkEntry x + uptoBulkEntries r
def uptoBulkEntry {H : Type} : Lit × DataW H → Nat
  | (.string bytes, d) => bytes.length + uptoBulk d + 1
  | (_, d) => uptoBulk d + 1
 end
def uptoSmall : (H : Type) → List (DataW H) → Bool := fun _ ds => decide (uptoBulkAll ds ≤ 1048576)
def OpenSpec.upto (s : _root_.Go.ChangeSpec) : _root_.Go.OpenSpec := { _root_.Go.OpenSpec.ofChange s with cond := some uptoSmall }

/-- 'tenaillelaw05.AesTimes', WHERE WHAT IT READS IS OF BULK AT MOST 1048576: true; the input reads as it did. -/
def aesTimesUptoRow : OpenClaim := { program := "ytjjemkfkpnemoaa", sum := "76860e8f2601e7ebd0d34dec9ab9359a06778fbe0c4fb79df101fb18fd509611", func := "tenaille/tenaillelaw05.AesTimes", spec := "aesTimes", unfollowed := true, recurses := true, apart := false, narrowed := true }
def AesTimesUptoSaid : Prop := aesTimesUptoRow.holds Try.pinned (OpenSpec.upto aesTimesSpec)

/-- 'tenaillelaw05.AesBlocks', WHERE WHAT IT READS IS OF BULK AT MOST 1048576: true; the input reads as it did. -/
def aesBlocksUptoRow : OpenClaim := { program := "ytjjemkfkpnemoaa", sum := "76860e8f2601e7ebd0d34dec9ab9359a06778fbe0c4fb79df101fb18fd509611", func := "tenaille/tenaillelaw05.AesBlocks", spec := "aesBlocks", unfollowed := true, recurses := true, apart := false, narrowed := true }
def AesBlocksUptoSaid : Prop := aesBlocksUptoRow.holds Try.pinned (OpenSpec.upto aesBlocksSpec)

/-- 'tenaillelaw05.AesWords', WHERE WHAT IT READS IS OF BULK AT MOST 1048576: true; the input reads as it did. -/
def aesWordsUptoRow : OpenClaim := { program := "ytjjemkfkpnemoaa", sum := "76860e8f2601e7ebd0d34dec9ab9359a06778fbe0c4fb79df101fb18fd509611", func := "tenaille/tenaillelaw05.AesWords", spec := "aesWords", unfollowed := true, recurses := true, apart := false, narrowed := true }
def AesWordsUptoSaid : Prop := aesWordsUptoRow.holds Try.pinned (OpenSpec.upto aesWordsSpec)

/-- 'tenaillelaw03.ShaSums', WHERE WHAT IT READS IS OF BULK AT MOST 1048576: true; the input reads as it did. -/
def shaSumsUptoRow : OpenClaim := { program := "ytjjemkfkpnemoaa", sum := "76860e8f2601e7ebd0d34dec9ab9359a06778fbe0c4fb79df101fb18fd509611", func := "tenaille/tenaillelaw03.ShaSums", spec := "shaSums", recurses := true, apart := false, narrowed := true }
def ShaSumsUptoSaid : Prop := shaSumsUptoRow.holds Try.pinned (OpenSpec.upto shaSumsSpec)

/-- 'tenaillelaw03.ShaParts', WHERE WHAT IT READS IS OF BULK AT MOST 1048576: true; the input reads as it did. -/
def shaPartsUptoRow : OpenClaim := { program := "ytjjemkfkpnemoaa", sum := "76860e8f2601e7ebd0d34dec9ab9359a06778fbe0c4fb79df101fb18fd509611", func := "tenaille/tenaillelaw03.ShaParts", spec := "shaParts", recurses := true, apart := false, narrowed := true }
def ShaPartsUptoSaid : Prop := shaPartsUptoRow.holds Try.pinned (OpenSpec.upto shaPartsSpec)

/-- 'tenaillelaw03.ShaNone', WHERE WHAT IT READS IS OF BULK AT MOST 1048576: true; the input reads as it did. -/
def shaNoneUptoRow : OpenClaim := { program := "ytjjemkfkpnemoaa", sum := "76860e8f2601e7ebd0d34dec9ab9359a06778fbe0c4fb79df101fb18fd509611", func := "tenaille/tenaillelaw03.ShaNone", spec := "shaNone", recurses := true, apart := false, narrowed := true }
def ShaNoneUptoSaid : Prop := shaNoneUptoRow.holds Try.pinned (OpenSpec.upto shaNoneSpec)

/-- 'tenaillelaw06.StreamBytes', WHERE WHAT IT READS IS OF BULK AT MOST 1048576: true; the input reads as it did. -/
def streamBytesUptoRow : OpenClaim := { program := "ytjjemkfkpnemoaa", sum := "76860e8f2601e7ebd0d34dec9ab9359a06778fbe0c4fb79df101fb18fd509611", func := "tenaille/tenaillelaw06.StreamBytes", spec := "streamBytes", unfollowed := true, recurses := true, apart := false, narrowed := true }
def StreamBytesUptoSaid : Prop := streamBytesUptoRow.holds Try.pinned (OpenSpec.upto streamBytesSpec)

/-- 'tenaillelaw06.StreamCiphers', WHERE WHAT IT READS IS OF BULK AT MOST 1048576: true; the input reads as it did. -/
def streamCiphersUptoRow : OpenClaim := { program := "ytjjemkfkpnemoaa", sum := "76860e8f2601e7ebd0d34dec9ab9359a06778fbe0c4fb79df101fb18fd509611", func := "tenaille/tenaillelaw06.StreamCiphers", spec := "streamCiphers", unfollowed := true, recurses := true, apart := false, narrowed := true }
def StreamCiphersUptoSaid : Prop := streamCiphersUptoRow.holds Try.pinned (OpenSpec.upto streamCiphersSpec)

/-- 'tenaillelaw07.KeysDerive', WHERE WHAT IT READS IS OF BULK AT MOST 1048576: true; the input reads as it did. -/
def keysDeriveUptoRow : OpenClaim := { program := "ytjjemkfkpnemoaa", sum := "76860e8f2601e7ebd0d34dec9ab9359a06778fbe0c4fb79df101fb18fd509611", func := "tenaille/tenaillelaw07.KeysDerive", spec := "keysDerive", unfollowed := true, recurses := true, apart := false, narrowed := true }
def KeysDeriveUptoSaid : Prop := keysDeriveUptoRow.holds Try.pinned (OpenSpec.upto keysDeriveSpec)

/-- 'tenaillelaw07.KeysAll', WHERE WHAT IT READS IS OF BULK AT MOST 1048576: true; the input reads as it did. -/
def keysAllUptoRow : OpenClaim := { program := "ytjjemkfkpnemoaa", sum := "76860e8f2601e7ebd0d34dec9ab9359a06778fbe0c4fb79df101fb18fd509611", func := "tenaille/tenaillelaw07.KeysAll", spec := "keysAll", unfollowed := true, recurses := true, apart := false, narrowed := true }
def KeysAllUptoSaid : Prop := keysAllUptoRow.holds Try.pinned (OpenSpec.upto keysAllSpec)

/-- 'tenaillelaw06.StreamFirst', WHERE WHAT IT READS IS OF BULK AT MOST 1048576: true; the input reads as it did. -/
def streamFirstUptoRow : OpenClaim := { program := "ytjjemkfkpnemoaa", sum := "76860e8f2601e7ebd0d34dec9ab9359a06778fbe0c4fb79df101fb18fd509611", func := "tenaille/tenaillelaw06.StreamFirst", spec := "streamFirst", unfollowed := true, recurses := true, apart := false, narrowed := true }
def StreamFirstUptoSaid : Prop := streamFirstUptoRow.holds Try.pinned (OpenSpec.upto streamFirstSpec)

/-- 'tenaillelaw04.MacTags', WHERE WHAT IT READS IS OF BULK AT MOST 1048576: true; the input reads as it did. -/
def macTagsUptoRow : OpenClaim := { program := "ytjjemkfkpnemoaa", sum := "76860e8f2601e7ebd0d34dec9ab9359a06778fbe0c4fb79df101fb18fd509611", func := "tenaille/tenaillelaw04.MacTags", spec := "macTags", recurses := true, apart := false, narrowed := true }
def MacTagsUptoSaid : Prop := macTagsUptoRow.holds Try.pinned (OpenSpec.upto macTagsSpec)

/-- 'tenaillelaw04.MacChecks', WHERE WHAT IT READS IS OF BULK AT MOST 1048576: true; the input reads as it did. -/
def macChecksUptoRow : OpenClaim := { program := "ytjjemkfkpnemoaa", sum := "76860e8f2601e7ebd0d34dec9ab9359a06778fbe0c4fb79df101fb18fd509611", func := "tenaille/tenaillelaw04.MacChecks", spec := "macChecks", recurses := true, apart := false, narrowed := true }
def MacChecksUptoSaid : Prop := macChecksUptoRow.holds Try.pinned (OpenSpec.upto macChecksSpec)

end Rows
end Go.Proofs.Ytjjemkfkpnemoaa
