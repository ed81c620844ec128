/-
  No cell of these rows narrows 'for every input' (looked for: loops, veiled, ifaces, maps, wideKeys, modest, calm, conditions, laid).
  DERIVED. THE GIVEN ROWS OF THIS SEAT. 5 by the template 'for every input the law returns true; each argument reads behind the call as it read before'; 0 by the template 'total and deterministic' (their statements: YtnbjbpalabmmoaaTotals.lean).
  GIVEN WITH THE SEED: the statements are not yours to turn. If you find one false, say at which input.
  Laid BY PROGRAM, IN A SANDBOX (cutbox-rows.mjs): the forced cells as the released guide's own fill.sh prints them over the translation 0afae4c3cef66523… (all of the seat's roots in one cut). By AI agents, Wed Nov 11 2026. No macro, syntax, notation, axiom, sorry.
-/
import Derived.Test.YtnbjbpalabmmoaaChecked
import GoSem.Claim
import GoSem.ClaimJoined
import GoSem.ClaimMapViews
import Derived.JoinedTies
import Derived.KernelRfl
namespace Go.Proofs.Ytnbjbpalabmmoaa
/- THE CELL 'sum', in the pinned program and in every row, IS THE sha256 OF THE DUMP (.gsa) THAT YtnbjbpalabmmoaaProg.lean LOADS. Nothing in Lean hashes anything: it is a label: what it is worth is what the hold of that sum in a sandbox is worth. -/
noncomputable def Try.pinned : Pinned := { name := "ytnbjbpalabmmoaa", sum := "0afae4c3cef66523de270f6361884ec9a452bed635c461fa556a1108bea25a01", checked := Try.checked }
namespace Rows
def none {H : Type} : Left H := { results := [], args := [] }

/-- 'dryweightlaw05.SamplingLeasesAsSpecified': WHATEVER THE INPUT: true; the input reads as it did. -/
def samplingLeasesAsSpecifiedSpec : ChangeSpec := { name := "samplingLeasesAsSpecified", fn := fun _ => fun
  | [d1, d2, d3] => { results := [.lit (.bool true)], args := [d1, d2, d3] }
  | _ => none }
def samplingLeasesAsSpecifiedRow : OpenClaim := { program := "ytnbjbpalabmmoaa", sum := "0afae4c3cef66523de270f6361884ec9a452bed635c461fa556a1108bea25a01", func := "dryweight/dryweightlaw05.SamplingLeasesAsSpecified", spec := "samplingLeasesAsSpecified", unfollowed := true, recurses := true, plainKeys := false, apart := false }
def SamplingLeasesAsSpecifiedSaid : Prop := samplingLeasesAsSpecifiedRow.holds Try.pinned (OpenSpec.ofChange samplingLeasesAsSpecifiedSpec)

/-- ITS FALSE NEIGHBOUR: 'it returns false'. Refute it at one input. -/
def samplingLeasesAsSpecifiedWrong : ChangeSpec := { name := "samplingLeasesAsSpecified", fn := fun _ => fun
  | [d1, d2, d3] => { results := [.lit (.bool false)], args := [d1, d2, d3] }
  | _ => none }
def SamplingLeasesAsSpecifiedWrongFalsely : Prop := samplingLeasesAsSpecifiedRow.holds Try.pinned (OpenSpec.ofChange samplingLeasesAsSpecifiedWrong)

/-- 'dryweightlaw05.SamplingProgresses': WHATEVER THE INPUT: true; the input reads as it did. -/
def samplingProgressesSpec : ChangeSpec := { name := "samplingProgresses", fn := fun _ => fun
  | [d1, d2, d3, d4, d5, d6, d7] => { results := [.lit (.bool true)], args := [d1, d2, d3, d4, d5, d6, d7] }
  | _ => none }
def samplingProgressesRow : OpenClaim := { program := "ytnbjbpalabmmoaa", sum := "0afae4c3cef66523de270f6361884ec9a452bed635c461fa556a1108bea25a01", func := "dryweight/dryweightlaw05.SamplingProgresses", spec := "samplingProgresses", unfollowed := true, recurses := true, plainKeys := false, apart := false }
def SamplingProgressesSaid : Prop := samplingProgressesRow.holds Try.pinned (OpenSpec.ofChange samplingProgressesSpec)

/-- ITS FALSE NEIGHBOUR: 'it returns false'. Refute it at one input. -/
def samplingProgressesWrong : ChangeSpec := { name := "samplingProgresses", fn := fun _ => fun
  | [d1, d2, d3, d4, d5, d6, d7] => { results := [.lit (.bool false)], args := [d1, d2, d3, d4, d5, d6, d7] }
  | _ => none }
def SamplingProgressesWrongFalsely : Prop := samplingProgressesRow.holds Try.pinned (OpenSpec.ofChange samplingProgressesWrong)

/-- 'dryweightlaw05.SamplingStationsAsSpecified': WHATEVER THE INPUT: true; the input reads as it did. -/
def samplingStationsAsSpecifiedSpec : ChangeSpec := { name := "samplingStationsAsSpecified", fn := fun _ => fun
  | [d1, d2, d3] => { results := [.lit (.bool true)], args := [d1, d2, d3] }
  | _ => none }
def samplingStationsAsSpecifiedRow : OpenClaim := { program := "ytnbjbpalabmmoaa", sum := "0afae4c3cef66523de270f6361884ec9a452bed635c461fa556a1108bea25a01", func := "dryweight/dryweightlaw05.SamplingStationsAsSpecified", spec := "samplingStationsAsSpecified", unfollowed := true, recurses := true, plainKeys := false, apart := false }
def SamplingStationsAsSpecifiedSaid : Prop := samplingStationsAsSpecifiedRow.holds Try.pinned (OpenSpec.ofChange samplingStationsAsSpecifiedSpec)

/-- ITS FALSE NEIGHBOUR: 'it returns false'. Refute it at one input. -/
def samplingStationsAsSpecifiedWrong : ChangeSpec := { name := "samplingStationsAsSpecified", fn := fun _ => fun
  | [d1, d2, d3] => { results := [.lit (.bool false)], args := [d1, d2, d3] }
  | _ => none }
def SamplingStationsAsSpecifiedWrongFalsely : Prop := samplingStationsAsSpecifiedRow.holds Try.pinned (OpenSpec.ofChange samplingStationsAsSpecifiedWrong)

/-- 'dryweightlaw05.SamplingDriesOnce': WHATEVER THE INPUT: true; the input reads as it did. -/
def samplingDriesOnceSpec : ChangeSpec := { name := "samplingDriesOnce", fn := fun _ => fun
  | [d1, d2, d3, d4] => { results := [.lit (.bool true)], args := [d1, d2, d3, d4] }
  | _ => none }
def samplingDriesOnceRow : OpenClaim := { program := "ytnbjbpalabmmoaa", sum := "0afae4c3cef66523de270f6361884ec9a452bed635c461fa556a1108bea25a01", func := "dryweight/dryweightlaw05.SamplingDriesOnce", spec := "samplingDriesOnce", unfollowed := true, recurses := true, plainKeys := false, apart := false }
def SamplingDriesOnceSaid : Prop := samplingDriesOnceRow.holds Try.pinned (OpenSpec.ofChange samplingDriesOnceSpec)

/-- ITS FALSE NEIGHBOUR: 'it returns false'. Refute it at one input. -/
def samplingDriesOnceWrong : ChangeSpec := { name := "samplingDriesOnce", fn := fun _ => fun
  | [d1, d2, d3, d4] => { results := [.lit (.bool false)], args := [d1, d2, d3, d4] }
  | _ => none }
def SamplingDriesOnceWrongFalsely : Prop := samplingDriesOnceRow.holds Try.pinned (OpenSpec.ofChange samplingDriesOnceWrong)

/-- 'dryweightlaw05.SamplingWorldsAsSpecified': WHATEVER THE INPUT: true; the input reads as it did. -/
def samplingWorldsAsSpecifiedSpec : ChangeSpec := { name := "samplingWorldsAsSpecified", fn := fun _ => fun
  | [d1, d2, d3, d4] => { results := [.lit (.bool true)], args := [d1, d2, d3, d4] }
  | _ => none }
def samplingWorldsAsSpecifiedRow : OpenClaim := { program := "ytnbjbpalabmmoaa", sum := "0afae4c3cef66523de270f6361884ec9a452bed635c461fa556a1108bea25a01", func := "dryweight/dryweightlaw05.SamplingWorldsAsSpecified", spec := "samplingWorldsAsSpecified", unfollowed := true, recurses := true, plainKeys := false, apart := false }
def SamplingWorldsAsSpecifiedSaid : Prop := samplingWorldsAsSpecifiedRow.holds Try.pinned (OpenSpec.ofChange samplingWorldsAsSpecifiedSpec)

/-- ITS FALSE NEIGHBOUR: 'it returns false'. Refute it at one input. -/
def samplingWorldsAsSpecifiedWrong : ChangeSpec := { name := "samplingWorldsAsSpecified", fn := fun _ => fun
  | [d1, d2, d3, d4] => { results := [.lit (.bool false)], args := [d1, d2, d3, d4] }
  | _ => none }
def SamplingWorldsAsSpecifiedWrongFalsely : Prop := samplingWorldsAsSpecifiedRow.holds Try.pinned (OpenSpec.ofChange samplingWorldsAsSpecifiedWrong)

/- THE SECOND FORM. 'bulk': how many values and letters a reading holds, each counted each time it is reached (what is shared counts as often as it is met; a slice's spare places count too). A statement '..UptoSaid' is the law's where the arguments, and the package variables that the reading takes, are together of bulk at most 1048576: NARROWER than '..Said'. Prove '..Said' where nothing that the law and all that it calls make is longer than what came in: it says more and counts as full. Else prove '..UptoSaid'. A law counts once. -/
mutual
def uptoBulk {H : Type} : DataW H → Nat
  | .lit (.string bytes) => bytes.length + 1
  | .lit _ => 1
  | .nil => 1
  | .ptr d => uptoBulk d + 1
  | .slice elems spare => uptoBulkAll elems + uptoBulkAll spare + 1
  | .agg parts => uptoBulkAll parts + 1
  | .iface _ d => uptoBulk d + 1
  | .map entries => uptoBulkEntries entries + 1
  | .held _ => 1
def uptoBulkAll {H : Type} : List (DataW H) → Nat
  | [] => 0
  | d :: r => uptoBulk d + uptoBulkAll r
def uptoBulkEntries {H : Type} : List (Lit × DataW H) → Nat
  | [] => 0
  | x :: r => uptoBulkEntry x + uptoBulkEntries r
def uptoBulkEntry {H : Type} : Lit × DataW H → Nat
  | (.string bytes, d) => bytes.length + uptoBulk d + 1
  | (_, d) => uptoBulk d + 1
 end
def uptoSmall : (H : Type) → List (DataW H) → Bool := fun _ ds => decide (uptoBulkAll ds ≤ 1048576)
def OpenSpec.upto (s : _root_.Go.ChangeSpec) : _root_.Go.OpenSpec := { _root_.Go.OpenSpec.ofChange s with cond := some uptoSmall }

/-- 'dryweightlaw05.SamplingLeasesAsSpecified', WHERE WHAT IT READS IS OF BULK AT MOST 1048576: true; the input reads as it did. -/
def samplingLeasesAsSpecifiedUptoRow : OpenClaim := { program := "ytnbjbpalabmmoaa", sum := "0afae4c3cef66523de270f6361884ec9a452bed635c461fa556a1108bea25a01", func := "dryweight/dryweightlaw05.SamplingLeasesAsSpecified", spec := "samplingLeasesAsSpecified", unfollowed := true, recurses := true, plainKeys := false, apart := false, narrowed := true }
def SamplingLeasesAsSpecifiedUptoSaid : Prop := samplingLeasesAsSpecifiedUptoRow.holds Try.pinned (OpenSpec.upto samplingLeasesAsSpecifiedSpec)

/-- 'dryweightlaw05.SamplingProgresses', WHERE WHAT IT READS IS OF BULK AT MOST 1048576: true; the input reads as it did. -/
def samplingProgressesUptoRow : OpenClaim := { program := "ytnbjbpalabmmoaa", sum := "0afae4c3cef66523de270f6361884ec9a452bed635c461fa556a1108bea25a01", func := "dryweight/dryweightlaw05.SamplingProgresses", spec := "samplingProgresses", unfollowed := true, recurses := true, plainKeys := false, apart := false, narrowed := true }
def SamplingProgressesUptoSaid : Prop := samplingProgressesUptoRow.holds Try.pinned (OpenSpec.upto samplingProgressesSpec)

/-- 'dryweightlaw05.SamplingStationsAsSpecified', WHERE WHAT IT READS IS OF BULK AT MOST 1048576: true; the input reads as it did. -/
def samplingStationsAsSpecifiedUptoRow : OpenClaim := { program := "ytnbjbpalabmmoaa", sum := "0afae4c3cef66523de270f6361884ec9a452bed635c461fa556a1108bea25a01", func := "dryweight/dryweightlaw05.SamplingStationsAsSpecified", spec := "samplingStationsAsSpecified", unfollowed := true, recurses := true, plainKeys := false, apart := false, narrowed := true }
def SamplingStationsAsSpecifiedUptoSaid : Prop := samplingStationsAsSpecifiedUptoRow.holds Try.pinned (OpenSpec.upto samplingStationsAsSpecifiedSpec)

/-- 'dryweightlaw05.SamplingDriesOnce', WHERE WHAT IT READS IS OF BULK AT MOST 1048576: true; the input reads as it did. -/
def samplingDriesOnceUptoRow : OpenClaim := { program := "ytnbjbpalabmmoaa", sum := "0afae4c3cef66523de270f6361884ec9a452bed635c461fa556a1108bea25a01", func := "dryweight/dryweightlaw05.SamplingDriesOnce", spec := "samplingDriesOnce", unfollowed := true, recurses := true, plainKeys := false, apart := false, narrowed := true }
def SamplingDriesOnceUptoSaid : Prop := samplingDriesOnceUptoRow.holds Try.pinned (OpenSpec.upto samplingDriesOnceSpec)

/-- 'dryweightlaw05.SamplingWorldsAsSpecified', WHERE WHAT IT READS IS OF BULK AT MOST 1048576: true; the input reads as it did. -/
def samplingWorldsAsSpecifiedUptoRow : OpenClaim := { program := "ytnbjbpalabmmoaa", sum := "0afae4c3cef66523de270f6361884ec9a452bed635c461fa556a1108bea25a01", func := "dryweight/dryweightlaw05.SamplingWorldsAsSpecified", spec := "samplingWorldsAsSpecified", unfollowed := true, recurses := true, plainKeys := false, apart := false, narrowed := true }
def SamplingWorldsAsSpecifiedUptoSaid : Prop := samplingWorldsAsSpecifiedUptoRow.holds Try.pinned (OpenSpec.upto samplingWorldsAsSpecifiedSpec)

end Rows
end Go.Proofs.Ytnbjbpalabmmoaa
