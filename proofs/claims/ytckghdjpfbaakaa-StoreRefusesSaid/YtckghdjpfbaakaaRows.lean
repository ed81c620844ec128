/-
  No cell of these rows narrows 'for every input' (looked for: loops, veiled, ifaces, maps, wideKeys, modest, calm, conditions, laid).
  DERIVED. THE GIVEN ROWS OF THIS SEAT. 13 by the template 'for every input the law returns true; each argument reads behind the call as it read before'; 0 by the template 'total and deterministic' (their statements: YtckghdjpfbaakaaTotals.lean).
  GIVEN WITH THE SEED: the statements are not yours to turn. If you find one false, say at which input.
  Laid BY PROGRAM, IN A SANDBOX (cutbox-rows.mjs): the forced cells as the released guide's own fill.sh prints them over the translation 6e6ef303817c7f0d… (all of the seat's roots in one cut). By AI agents, Wed Nov 11 2026. No macro, syntax, notation, axiom, sorry.
-/
import Derived.Test.YtckghdjpfbaakaaChecked
import GoSem.Claim
import GoSem.ClaimJoined
import GoSem.ClaimMapViews
import Derived.JoinedTies
import Derived.KernelRfl
namespace Go.Proofs.Ytckghdjpfbaakaa
/- THE CELL 'sum', in the pinned program and in every row, IS THE sha256 OF THE DUMP (.gsa) THAT YtckghdjpfbaakaaProg.lean LOADS. Nothing in Lean hashes anything: it is a label: what it is worth is what the hold of that sum in a sandbox is worth. -/
noncomputable def Try.pinned : Pinned := { name := "ytckghdjpfbaakaa", sum := "6e6ef303817c7f0ddea7f27463ba57e4184905fa7a50dd412cfb20c194dd4362", checked := Try.checked }
namespace Rows
def none {H : Type} : Left H := { results := [], args := [] }

/-- 'dryweightlaw01.StoreEncodes': WHATEVER THE INPUT: true; the input reads as it did. -/
def storeEncodesSpec : ChangeSpec := { name := "storeEncodes", fn := fun _ => fun
  | [d1, d2] => { results := [.lit (.bool true)], args := [d1, d2] }
  | _ => none }
def storeEncodesRow : OpenClaim := { program := "ytckghdjpfbaakaa", sum := "6e6ef303817c7f0ddea7f27463ba57e4184905fa7a50dd412cfb20c194dd4362", func := "dryweight/dryweightlaw01.StoreEncodes", spec := "storeEncodes", inPlace := ["internal/abi.NoEscape"], unfollowed := true, recurses := true, apart := false }
def StoreEncodesSaid : Prop := storeEncodesRow.holds Try.pinned (OpenSpec.ofChange storeEncodesSpec)

/-- ITS FALSE NEIGHBOUR: 'it returns false'. Refute it at one input. -/
def storeEncodesWrong : ChangeSpec := { name := "storeEncodes", fn := fun _ => fun
  | [d1, d2] => { results := [.lit (.bool false)], args := [d1, d2] }
  | _ => none }
def StoreEncodesWrongFalsely : Prop := storeEncodesRow.holds Try.pinned (OpenSpec.ofChange storeEncodesWrong)

/-- 'dryweightlaw01.StoreSums': WHATEVER THE INPUT: true; the input reads as it did. -/
def storeSumsSpec : ChangeSpec := { name := "storeSums", fn := fun _ => fun
  | [d1, d2] => { results := [.lit (.bool true)], args := [d1, d2] }
  | _ => none }
def storeSumsRow : OpenClaim := { program := "ytckghdjpfbaakaa", sum := "6e6ef303817c7f0ddea7f27463ba57e4184905fa7a50dd412cfb20c194dd4362", func := "dryweight/dryweightlaw01.StoreSums", spec := "storeSums", inPlace := ["internal/abi.NoEscape"], unfollowed := true, recurses := true, apart := false }
def StoreSumsSaid : Prop := storeSumsRow.holds Try.pinned (OpenSpec.ofChange storeSumsSpec)

/-- ITS FALSE NEIGHBOUR: 'it returns false'. Refute it at one input. -/
def storeSumsWrong : ChangeSpec := { name := "storeSums", fn := fun _ => fun
  | [d1, d2] => { results := [.lit (.bool false)], args := [d1, d2] }
  | _ => none }
def StoreSumsWrongFalsely : Prop := storeSumsRow.holds Try.pinned (OpenSpec.ofChange storeSumsWrong)

/-- 'dryweightlaw01.StoreStreams': WHATEVER THE INPUT: true; the input reads as it did. -/
def storeStreamsSpec : ChangeSpec := { name := "storeStreams", fn := fun _ => fun
  | [d1, d2] => { results := [.lit (.bool true)], args := [d1, d2] }
  | _ => none }
def storeStreamsRow : OpenClaim := { program := "ytckghdjpfbaakaa", sum := "6e6ef303817c7f0ddea7f27463ba57e4184905fa7a50dd412cfb20c194dd4362", func := "dryweight/dryweightlaw01.StoreStreams", spec := "storeStreams", inPlace := ["internal/abi.NoEscape"], unfollowed := true, recurses := true, apart := false }
def StoreStreamsSaid : Prop := storeStreamsRow.holds Try.pinned (OpenSpec.ofChange storeStreamsSpec)

/-- ITS FALSE NEIGHBOUR: 'it returns false'. Refute it at one input. -/
def storeStreamsWrong : ChangeSpec := { name := "storeStreams", fn := fun _ => fun
  | [d1, d2] => { results := [.lit (.bool false)], args := [d1, d2] }
  | _ => none }
def StoreStreamsWrongFalsely : Prop := storeStreamsRow.holds Try.pinned (OpenSpec.ofChange storeStreamsWrong)

/-- 'dryweightlaw01.StorePermutes': WHATEVER THE INPUT: true; the input reads as it did. -/
def storePermutesSpec : ChangeSpec := { name := "storePermutes", fn := fun _ => fun
  | [d1, d2] => { results := [.lit (.bool true)], args := [d1, d2] }
  | _ => none }
def storePermutesRow : OpenClaim := { program := "ytckghdjpfbaakaa", sum := "6e6ef303817c7f0ddea7f27463ba57e4184905fa7a50dd412cfb20c194dd4362", func := "dryweight/dryweightlaw01.StorePermutes", spec := "storePermutes", inPlace := ["internal/abi.NoEscape"], unfollowed := true, recurses := true, apart := false }
def StorePermutesSaid : Prop := storePermutesRow.holds Try.pinned (OpenSpec.ofChange storePermutesSpec)

/-- ITS FALSE NEIGHBOUR: 'it returns false'. Refute it at one input. -/
def storePermutesWrong : ChangeSpec := { name := "storePermutes", fn := fun _ => fun
  | [d1, d2] => { results := [.lit (.bool false)], args := [d1, d2] }
  | _ => none }
def StorePermutesWrongFalsely : Prop := storePermutesRow.holds Try.pinned (OpenSpec.ofChange storePermutesWrong)

/-- 'dryweightlaw01.StoreKeepsValues': WHATEVER THE INPUT: true; the input reads as it did. -/
def storeKeepsValuesSpec : ChangeSpec := { name := "storeKeepsValues", fn := fun _ => fun
  | [d1, d2] => { results := [.lit (.bool true)], args := [d1, d2] }
  | _ => none }
def storeKeepsValuesRow : OpenClaim := { program := "ytckghdjpfbaakaa", sum := "6e6ef303817c7f0ddea7f27463ba57e4184905fa7a50dd412cfb20c194dd4362", func := "dryweight/dryweightlaw01.StoreKeepsValues", spec := "storeKeepsValues", inPlace := ["internal/abi.NoEscape"], unfollowed := true, recurses := true, apart := false }
def StoreKeepsValuesSaid : Prop := storeKeepsValuesRow.holds Try.pinned (OpenSpec.ofChange storeKeepsValuesSpec)

/-- ITS FALSE NEIGHBOUR: 'it returns false'. Refute it at one input. -/
def storeKeepsValuesWrong : ChangeSpec := { name := "storeKeepsValues", fn := fun _ => fun
  | [d1, d2] => { results := [.lit (.bool false)], args := [d1, d2] }
  | _ => none }
def StoreKeepsValuesWrongFalsely : Prop := storeKeepsValuesRow.holds Try.pinned (OpenSpec.ofChange storeKeepsValuesWrong)

/-- 'dryweightlaw01.StoreDiskKeeps': WHATEVER THE INPUT: true; the input reads as it did. -/
def storeDiskKeepsSpec : ChangeSpec := { name := "storeDiskKeeps", fn := fun _ => fun
  | [d1, d2, d3] => { results := [.lit (.bool true)], args := [d1, d2, d3] }
  | _ => none }
def storeDiskKeepsRow : OpenClaim := { program := "ytckghdjpfbaakaa", sum := "6e6ef303817c7f0ddea7f27463ba57e4184905fa7a50dd412cfb20c194dd4362", func := "dryweight/dryweightlaw01.StoreDiskKeeps", spec := "storeDiskKeeps", inPlace := ["internal/abi.NoEscape"], unfollowed := true, recurses := true, apart := false }
def StoreDiskKeepsSaid : Prop := storeDiskKeepsRow.holds Try.pinned (OpenSpec.ofChange storeDiskKeepsSpec)

/-- ITS FALSE NEIGHBOUR: 'it returns false'. Refute it at one input. -/
def storeDiskKeepsWrong : ChangeSpec := { name := "storeDiskKeeps", fn := fun _ => fun
  | [d1, d2, d3] => { results := [.lit (.bool false)], args := [d1, d2, d3] }
  | _ => none }
def StoreDiskKeepsWrongFalsely : Prop := storeDiskKeepsRow.holds Try.pinned (OpenSpec.ofChange storeDiskKeepsWrong)

/-- 'dryweightlaw01.StoreDisks': WHATEVER THE INPUT: true; the input reads as it did. -/
def storeDisksSpec : ChangeSpec := { name := "storeDisks", fn := fun _ => fun
  | [d1, d2] => { results := [.lit (.bool true)], args := [d1, d2] }
  | _ => none }
def storeDisksRow : OpenClaim := { program := "ytckghdjpfbaakaa", sum := "6e6ef303817c7f0ddea7f27463ba57e4184905fa7a50dd412cfb20c194dd4362", func := "dryweight/dryweightlaw01.StoreDisks", spec := "storeDisks", inPlace := ["internal/abi.NoEscape"], unfollowed := true, recurses := true, apart := false }
def StoreDisksSaid : Prop := storeDisksRow.holds Try.pinned (OpenSpec.ofChange storeDisksSpec)

/-- ITS FALSE NEIGHBOUR: 'it returns false'. Refute it at one input. -/
def storeDisksWrong : ChangeSpec := { name := "storeDisks", fn := fun _ => fun
  | [d1, d2] => { results := [.lit (.bool false)], args := [d1, d2] }
  | _ => none }
def StoreDisksWrongFalsely : Prop := storeDisksRow.holds Try.pinned (OpenSpec.ofChange storeDisksWrong)

/-- 'dryweightlaw01.StoreDiskStops': WHATEVER THE INPUT: true; the input reads as it did. -/
def storeDiskStopsSpec : ChangeSpec := { name := "storeDiskStops", fn := fun _ => fun
  | [d1, d2] => { results := [.lit (.bool true)], args := [d1, d2] }
  | _ => none }
def storeDiskStopsRow : OpenClaim := { program := "ytckghdjpfbaakaa", sum := "6e6ef303817c7f0ddea7f27463ba57e4184905fa7a50dd412cfb20c194dd4362", func := "dryweight/dryweightlaw01.StoreDiskStops", spec := "storeDiskStops", inPlace := ["internal/abi.NoEscape"], unfollowed := true, recurses := true, apart := false }
def StoreDiskStopsSaid : Prop := storeDiskStopsRow.holds Try.pinned (OpenSpec.ofChange storeDiskStopsSpec)

/-- ITS FALSE NEIGHBOUR: 'it returns false'. Refute it at one input. -/
def storeDiskStopsWrong : ChangeSpec := { name := "storeDiskStops", fn := fun _ => fun
  | [d1, d2] => { results := [.lit (.bool false)], args := [d1, d2] }
  | _ => none }
def StoreDiskStopsWrongFalsely : Prop := storeDiskStopsRow.holds Try.pinned (OpenSpec.ofChange storeDiskStopsWrong)

/-- 'dryweightlaw01.StoreRefuses': WHATEVER THE INPUT: true; the input reads as it did. -/
def storeRefusesSpec : ChangeSpec := { name := "storeRefuses", fn := fun _ => fun
  | [d1, d2, d3] => { results := [.lit (.bool true)], args := [d1, d2, d3] }
  | _ => none }
def storeRefusesRow : OpenClaim := { program := "ytckghdjpfbaakaa", sum := "6e6ef303817c7f0ddea7f27463ba57e4184905fa7a50dd412cfb20c194dd4362", func := "dryweight/dryweightlaw01.StoreRefuses", spec := "storeRefuses", inPlace := ["internal/abi.NoEscape"], unfollowed := true, recurses := true, apart := false }
def StoreRefusesSaid : Prop := storeRefusesRow.holds Try.pinned (OpenSpec.ofChange storeRefusesSpec)

/-- ITS FALSE NEIGHBOUR: 'it returns false'. Refute it at one input. -/
def storeRefusesWrong : ChangeSpec := { name := "storeRefuses", fn := fun _ => fun
  | [d1, d2, d3] => { results := [.lit (.bool false)], args := [d1, d2, d3] }
  | _ => none }
def StoreRefusesWrongFalsely : Prop := storeRefusesRow.holds Try.pinned (OpenSpec.ofChange storeRefusesWrong)

/-- 'dryweightlaw01.StoreIsCanonical': WHATEVER THE INPUT: true; the input reads as it did. -/
def storeIsCanonicalSpec : ChangeSpec := { name := "storeIsCanonical", fn := fun _ => fun
  | [d] => { results := [.lit (.bool true)], args := [d] }
  | _ => none }
def storeIsCanonicalRow : OpenClaim := { program := "ytckghdjpfbaakaa", sum := "6e6ef303817c7f0ddea7f27463ba57e4184905fa7a50dd412cfb20c194dd4362", func := "dryweight/dryweightlaw01.StoreIsCanonical", spec := "storeIsCanonical", inPlace := ["internal/abi.NoEscape"], unfollowed := true, recurses := true, apart := false }
def StoreIsCanonicalSaid : Prop := storeIsCanonicalRow.holds Try.pinned (OpenSpec.ofChange storeIsCanonicalSpec)

/-- ITS FALSE NEIGHBOUR: 'it returns false'. Refute it at one input. -/
def storeIsCanonicalWrong : ChangeSpec := { name := "storeIsCanonical", fn := fun _ => fun
  | [d] => { results := [.lit (.bool false)], args := [d] }
  | _ => none }
def StoreIsCanonicalWrongFalsely : Prop := storeIsCanonicalRow.holds Try.pinned (OpenSpec.ofChange storeIsCanonicalWrong)

/-- 'dryweightlaw01.StoreReads': WHATEVER THE INPUT: true; the input reads as it did. -/
def storeReadsSpec : ChangeSpec := { name := "storeReads", fn := fun _ => fun
  | [d1, d2] => { results := [.lit (.bool true)], args := [d1, d2] }
  | _ => none }
def storeReadsRow : OpenClaim := { program := "ytckghdjpfbaakaa", sum := "6e6ef303817c7f0ddea7f27463ba57e4184905fa7a50dd412cfb20c194dd4362", func := "dryweight/dryweightlaw01.StoreReads", spec := "storeReads", inPlace := ["internal/abi.NoEscape"], unfollowed := true, recurses := true, apart := false }
def StoreReadsSaid : Prop := storeReadsRow.holds Try.pinned (OpenSpec.ofChange storeReadsSpec)

/-- ITS FALSE NEIGHBOUR: 'it returns false'. Refute it at one input. -/
def storeReadsWrong : ChangeSpec := { name := "storeReads", fn := fun _ => fun
  | [d1, d2] => { results := [.lit (.bool false)], args := [d1, d2] }
  | _ => none }
def StoreReadsWrongFalsely : Prop := storeReadsRow.holds Try.pinned (OpenSpec.ofChange storeReadsWrong)

/-- 'dryweightlaw01.StoreReadsBack': WHATEVER THE INPUT: true; the input reads as it did. -/
def storeReadsBackSpec : ChangeSpec := { name := "storeReadsBack", fn := fun _ => fun
  | [d1, d2] => { results := [.lit (.bool true)], args := [d1, d2] }
  | _ => none }
def storeReadsBackRow : OpenClaim := { program := "ytckghdjpfbaakaa", sum := "6e6ef303817c7f0ddea7f27463ba57e4184905fa7a50dd412cfb20c194dd4362", func := "dryweight/dryweightlaw01.StoreReadsBack", spec := "storeReadsBack", inPlace := ["internal/abi.NoEscape"], unfollowed := true, recurses := true, apart := false }
def StoreReadsBackSaid : Prop := storeReadsBackRow.holds Try.pinned (OpenSpec.ofChange storeReadsBackSpec)

/-- ITS FALSE NEIGHBOUR: 'it returns false'. Refute it at one input. -/
def storeReadsBackWrong : ChangeSpec := { name := "storeReadsBack", fn := fun _ => fun
  | [d1, d2] => { results := [.lit (.bool false)], args := [d1, d2] }
  | _ => none }
def StoreReadsBackWrongFalsely : Prop := storeReadsBackRow.holds Try.pinned (OpenSpec.ofChange storeReadsBackWrong)

/-- 'dryweightlaw01.StoreHexes': WHATEVER THE INPUT: true; the input reads as it did. -/
def storeHexesSpec : ChangeSpec := { name := "storeHexes", fn := fun _ => fun
  | [d1, d2] => { results := [.lit (.bool true)], args := [d1, d2] }
  | _ => none }
def storeHexesRow : OpenClaim := { program := "ytckghdjpfbaakaa", sum := "6e6ef303817c7f0ddea7f27463ba57e4184905fa7a50dd412cfb20c194dd4362", func := "dryweight/dryweightlaw01.StoreHexes", spec := "storeHexes", inPlace := ["internal/bytealg.IndexByteString", "internal/abi.NoEscape"], unfollowed := true, recurses := true, apart := false }
def StoreHexesSaid : Prop := storeHexesRow.holds Try.pinned (OpenSpec.ofChange storeHexesSpec)

/-- ITS FALSE NEIGHBOUR: 'it returns false'. Refute it at one input. -/
def storeHexesWrong : ChangeSpec := { name := "storeHexes", fn := fun _ => fun
  | [d1, d2] => { results := [.lit (.bool false)], args := [d1, d2] }
  | _ => none }
def StoreHexesWrongFalsely : Prop := storeHexesRow.holds Try.pinned (OpenSpec.ofChange storeHexesWrong)

/- THE SECOND FORM. 'bulk': how many values and letters a reading holds, each counted each time it is reached (what is shared counts as often as it is met; a slice's spare places count too). A statement '..UptoSaid' is the law's where the arguments, and the package variables that the reading takes, are together of bulk at most 1048576: NARROWER than '..Said'. Prove '..Said' where nothing that the law and all that it calls make is longer than what came in: it says more and counts as full. Else prove '..UptoSaid'. A law counts once. -/
mutual
def uptoBulk {H : Type} : DataW H → Nat
  | .lit (.string bytes) => bytes.length + 1
  | .lit _ => 1
  | .nil => 1
  | .ptr d => uptoBulk d + 1
  | .slice elems spare => uptoBulkAll elems + uptoBulkAll spare + 1
  | .agg parts => uptoBulkAll parts + 1
  | .iface _ d => uptoBulk d + 1
  | .map entries => uptoBulkEntries entries + 1
  | .held _ => 1
def uptoBulkAll {H : Type} : List (DataW H) → Nat
  | [] => 0
  | d :: r => uptoBulk d + uptoBulkAll r
def uptoBulkEntries {H : Type} : List (Lit × DataW H) → Nat
  | [] => 0
  | x :: r => uptoBulkEntry x + uptoBulkEntries r
def uptoBulkEntry {H : Type} : Lit × DataW H → Nat
  | (.string bytes, d) => bytes.length + uptoBulk d + 1
  | (_, d) => uptoBulk d + 1
 end
def uptoSmall : (H : Type) → List (DataW H) → Bool := fun _ ds => decide (uptoBulkAll ds ≤ 1048576)
def OpenSpec.upto (s : _root_.Go.ChangeSpec) : _root_.Go.OpenSpec := { _root_.Go.OpenSpec.ofChange s with cond := some uptoSmall }

/-- 'dryweightlaw01.StoreEncodes', WHERE WHAT IT READS IS OF BULK AT MOST 1048576: true; the input reads as it did. -/
def storeEncodesUptoRow : OpenClaim := { program := "ytckghdjpfbaakaa", sum := "6e6ef303817c7f0ddea7f27463ba57e4184905fa7a50dd412cfb20c194dd4362", func := "dryweight/dryweightlaw01.StoreEncodes", spec := "storeEncodes", inPlace := ["internal/abi.NoEscape"], unfollowed := true, recurses := true, apart := false, narrowed := true }
def StoreEncodesUptoSaid : Prop := storeEncodesUptoRow.holds Try.pinned (OpenSpec.upto storeEncodesSpec)

/-- 'dryweightlaw01.StoreSums', WHERE WHAT IT READS IS OF BULK AT MOST 1048576: true; the input reads as it did. -/
def storeSumsUptoRow : OpenClaim := { program := "ytckghdjpfbaakaa", sum := "6e6ef303817c7f0ddea7f27463ba57e4184905fa7a50dd412cfb20c194dd4362", func := "dryweight/dryweightlaw01.StoreSums", spec := "storeSums", inPlace := ["internal/abi.NoEscape"], unfollowed := true, recurses := true, apart := false, narrowed := true }
def StoreSumsUptoSaid : Prop := storeSumsUptoRow.holds Try.pinned (OpenSpec.upto storeSumsSpec)

/-- 'dryweightlaw01.StoreStreams', WHERE WHAT IT READS IS OF BULK AT MOST 1048576: true; the input reads as it did. -/
def storeStreamsUptoRow : OpenClaim := { program := "ytckghdjpfbaakaa", sum := "6e6ef303817c7f0ddea7f27463ba57e4184905fa7a50dd412cfb20c194dd4362", func := "dryweight/dryweightlaw01.StoreStreams", spec := "storeStreams", inPlace := ["internal/abi.NoEscape"], unfollowed := true, recurses := true, apart := false, narrowed := true }
def StoreStreamsUptoSaid : Prop := storeStreamsUptoRow.holds Try.pinned (OpenSpec.upto storeStreamsSpec)

/-- 'dryweightlaw01.StorePermutes', WHERE WHAT IT READS IS OF BULK AT MOST 1048576: true; the input reads as it did. -/
def storePermutesUptoRow : OpenClaim := { program := "ytckghdjpfbaakaa", sum := "6e6ef303817c7f0ddea7f27463ba57e4184905fa7a50dd412cfb20c194dd4362", func := "dryweight/dryweightlaw01.StorePermutes", spec := "storePermutes", inPlace := ["internal/abi.NoEscape"], unfollowed := true, recurses := true, apart := false, narrowed := true }
def StorePermutesUptoSaid : Prop := storePermutesUptoRow.holds Try.pinned (OpenSpec.upto storePermutesSpec)

/-- 'dryweightlaw01.StoreKeepsValues', WHERE WHAT IT READS IS OF BULK AT MOST 1048576: true; the input reads as it did. -/
def storeKeepsValuesUptoRow : OpenClaim := { program := "ytckghdjpfbaakaa", sum := "6e6ef303817c7f0ddea7f27463ba57e4184905fa7a50dd412cfb20c194dd4362", func := "dryweight/dryweightlaw01.StoreKeepsValues", spec := "storeKeepsValues", inPlace := ["internal/abi.NoEscape"], unfollowed := true, recurses := true, apart := false, narrowed := true }
def StoreKeepsValuesUptoSaid : Prop := storeKeepsValuesUptoRow.holds Try.pinned (OpenSpec.upto storeKeepsValuesSpec)

/-- 'dryweightlaw01.StoreDiskKeeps', WHERE WHAT IT READS IS OF BULK AT MOST 1048576: true; the input reads as it did. -/
def storeDiskKeepsUptoRow : OpenClaim := { program := "ytckghdjpfbaakaa", sum := "6e6ef303817c7f0ddea7f27463ba57e4184905fa7a50dd412cfb20c194dd4362", func := "dryweight/dryweightlaw01.StoreDiskKeeps", spec := "storeDiskKeeps", inPlace := ["internal/abi.NoEscape"], unfollowed := true, recurses := true, apart := false, narrowed := true }
def StoreDiskKeepsUptoSaid : Prop := storeDiskKeepsUptoRow.holds Try.pinned (OpenSpec.upto storeDiskKeepsSpec)

/-- 'dryweightlaw01.StoreDisks', WHERE WHAT IT READS IS OF BULK AT MOST 1048576: true; the input reads as it did. -/
def storeDisksUptoRow : OpenClaim := { program := "ytckghdjpfbaakaa", sum := "6e6ef303817c7f0ddea7f27463ba57e4184905fa7a50dd412cfb20c194dd4362", func := "dryweight/dryweightlaw01.StoreDisks", spec := "storeDisks", inPlace := ["internal/abi.NoEscape"], unfollowed := true, recurses := true, apart := false, narrowed := true }
def StoreDisksUptoSaid : Prop := storeDisksUptoRow.holds Try.pinned (OpenSpec.upto storeDisksSpec)

/-- 'dryweightlaw01.StoreDiskStops', WHERE WHAT IT READS IS OF BULK AT MOST 1048576: true; the input reads as it did. -/
def storeDiskStopsUptoRow : OpenClaim := { program := "ytckghdjpfbaakaa", sum := "6e6ef303817c7f0ddea7f27463ba57e4184905fa7a50dd412cfb20c194dd4362", func := "dryweight/dryweightlaw01.StoreDiskStops", spec := "storeDiskStops", inPlace := ["internal/abi.NoEscape"], unfollowed := true, recurses := true, apart := false, narrowed := true }
def StoreDiskStopsUptoSaid : Prop := storeDiskStopsUptoRow.holds Try.pinned (OpenSpec.upto storeDiskStopsSpec)

/-- 'dryweightlaw01.StoreRefuses', WHERE WHAT IT READS IS OF BULK AT MOST 1048576: true; the input reads as it did. -/
def storeRefusesUptoRow : OpenClaim := { program := "ytckghdjpfbaakaa", sum := "6e6ef303817c7f0ddea7f27463ba57e4184905fa7a50dd412cfb20c194dd4362", func := "dryweight/dryweightlaw01.StoreRefuses", spec := "storeRefuses", inPlace := ["internal/abi.NoEscape"], unfollowed := true, recurses := true, apart := false, narrowed := true }
def StoreRefusesUptoSaid : Prop := storeRefusesUptoRow.holds Try.pinned (OpenSpec.upto storeRefusesSpec)

/-- 'dryweightlaw01.StoreIsCanonical', WHERE WHAT IT READS IS OF BULK AT MOST 1048576: true; the input reads as it did. -/
def storeIsCanonicalUptoRow : OpenClaim := { program := "ytckghdjpfbaakaa", sum := "6e6ef303817c7f0ddea7f27463ba57e4184905fa7a50dd412cfb20c194dd4362", func := "dryweight/dryweightlaw01.StoreIsCanonical", spec := "storeIsCanonical", inPlace := ["internal/abi.NoEscape"], unfollowed := true, recurses := true, apart := false, narrowed := true }
def StoreIsCanonicalUptoSaid : Prop := storeIsCanonicalUptoRow.holds Try.pinned (OpenSpec.upto storeIsCanonicalSpec)

/-- 'dryweightlaw01.StoreReads', WHERE WHAT IT READS IS OF BULK AT MOST 1048576: true; the input reads as it did. -/
def storeReadsUptoRow : OpenClaim := { program := "ytckghdjpfbaakaa", sum := "6e6ef303817c7f0ddea7f27463ba57e4184905fa7a50dd412cfb20c194dd4362", func := "dryweight/dryweightlaw01.StoreReads", spec := "storeReads", inPlace := ["internal/abi.NoEscape"], unfollowed := true, recurses := true, apart := false, narrowed := true }
def StoreReadsUptoSaid : Prop := storeReadsUptoRow.holds Try.pinned (OpenSpec.upto storeReadsSpec)

/-- 'dryweightlaw01.StoreReadsBack', WHERE WHAT IT READS IS OF BULK AT MOST 1048576: true; the input reads as it did. -/
def storeReadsBackUptoRow : OpenClaim := { program := "ytckghdjpfbaakaa", sum := "6e6ef303817c7f0ddea7f27463ba57e4184905fa7a50dd412cfb20c194dd4362", func := "dryweight/dryweightlaw01.StoreReadsBack", spec := "storeReadsBack", inPlace := ["internal/abi.NoEscape"], unfollowed := true, recurses := true, apart := false, narrowed := true }
def StoreReadsBackUptoSaid : Prop := storeReadsBackUptoRow.holds Try.pinned (OpenSpec.upto storeReadsBackSpec)

/-- 'dryweightlaw01.StoreHexes', WHERE WHAT IT READS IS OF BULK AT MOST 1048576: true; the input reads as it did. -/
def storeHexesUptoRow : OpenClaim := { program := "ytckghdjpfbaakaa", sum := "6e6ef303817c7f0ddea7f27463ba57e4184905fa7a50dd412cfb20c194dd4362", func := "dryweight/dryweightlaw01.StoreHexes", spec := "storeHexes", inPlace := ["internal/bytealg.IndexByteString", "internal/abi.NoEscape"], unfollowed := true, recurses := true, apart := false, narrowed := true }
def StoreHexesUptoSaid : Prop := storeHexesUptoRow.holds Try.pinned (OpenSpec.upto storeHexesSpec)

end Rows
end Go.Proofs.Ytckghdjpfbaakaa
