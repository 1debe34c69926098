/-
  No cell of these rows narrows 'for every input' (looked for: loops, veiled, ifaces, maps, wideKeys, modest, calm, conditions, laid).
  DERIVED. THE GIVEN ROWS OF THIS SEAT. 11 by the template 'for every input the law returns true; each argument reads behind the call as it read before'; 0 by the template 'total and deterministic' (their statements: YtbgbeadhpcikhaaTotals.lean).
  GIVEN WITH THE SEED: the statements are not yours to turn. If you find one false, say at which input.
  Laid BY PROGRAM, IN A SANDBOX (cutbox-rows.mjs): the forced cells as the released guide's own fill.sh prints them over the translation 1e148540ef7d51df… (all of the seat's roots in one cut). By AI agents, Wed Nov 11 2026. No macro, syntax, notation, axiom, sorry.
-/
import Derived.Test.YtbgbeadhpcikhaaChecked
import GoSem.Claim
import GoSem.ClaimJoined
import GoSem.ClaimMapViews
import Derived.JoinedTies
import Derived.KernelRfl
namespace Go.Proofs.Ytbgbeadhpcikhaa
/- THE CELL 'sum', in the pinned program and in every row, IS THE sha256 OF THE DUMP (.gsa) THAT YtbgbeadhpcikhaaProg.lean LOADS. Nothing in Lean hashes anything: it is a label: what it is worth is what the hold of that sum in a sandbox is worth. -/
noncomputable def Try.pinned : Pinned := { name := "ytbgbeadhpcikhaa", sum := "1e148540ef7d51df9b054fcf6fc81201264510212296498af880cf2f142f3676", checked := Try.checked }
namespace Rows
def none {H : Type} : Left H := { results := [], args := [] }

/-- 'splittallylaw21.RenoGrows': WHATEVER THE INPUT: true; the input reads as it did. -/
def renoGrowsSpec : ChangeSpec := { name := "renoGrows", fn := fun _ => fun
  | [d1, d2, d3] => { results := [.lit (.bool true)], args := [d1, d2, d3] }
  | _ => none }
def renoGrowsRow : OpenClaim := { program := "ytbgbeadhpcikhaa", sum := "1e148540ef7d51df9b054fcf6fc81201264510212296498af880cf2f142f3676", func := "splittally/splittallylaw21.RenoGrows", spec := "renoGrows", inPlace := ["math/bits.Add64"], named := ["math/bits.divideError", "math/bits.overflowError"], apart := false }
def RenoGrowsSaid : Prop := renoGrowsRow.holds Try.pinned (OpenSpec.ofChange renoGrowsSpec)

/-- ITS FALSE NEIGHBOUR: 'it returns false'. Refute it at one input. -/
def renoGrowsWrong : ChangeSpec := { name := "renoGrows", fn := fun _ => fun
  | [d1, d2, d3] => { results := [.lit (.bool false)], args := [d1, d2, d3] }
  | _ => none }
def RenoGrowsWrongFalsely : Prop := renoGrowsRow.holds Try.pinned (OpenSpec.ofChange renoGrowsWrong)

/-- 'splittallylaw21.RenoCuts': WHATEVER THE INPUT: true; the input reads as it did. -/
def renoCutsSpec : ChangeSpec := { name := "renoCuts", fn := fun _ => fun
  | [d1, d2, d3] => { results := [.lit (.bool true)], args := [d1, d2, d3] }
  | _ => none }
def renoCutsRow : OpenClaim := { program := "ytbgbeadhpcikhaa", sum := "1e148540ef7d51df9b054fcf6fc81201264510212296498af880cf2f142f3676", func := "splittally/splittallylaw21.RenoCuts", spec := "renoCuts", inPlace := ["math/bits.Add64"], named := ["math/bits.divideError", "math/bits.overflowError"], apart := false }
def RenoCutsSaid : Prop := renoCutsRow.holds Try.pinned (OpenSpec.ofChange renoCutsSpec)

/-- ITS FALSE NEIGHBOUR: 'it returns false'. Refute it at one input. -/
def renoCutsWrong : ChangeSpec := { name := "renoCuts", fn := fun _ => fun
  | [d1, d2, d3] => { results := [.lit (.bool false)], args := [d1, d2, d3] }
  | _ => none }
def RenoCutsWrongFalsely : Prop := renoCutsRow.holds Try.pinned (OpenSpec.ofChange renoCutsWrong)

/-- 'splittallylaw21.RenoBounds': WHATEVER THE INPUT: true; the input reads as it did. -/
def renoBoundsSpec : ChangeSpec := { name := "renoBounds", fn := fun _ => fun
  | [d1, d2, d3, d4, d5] => { results := [.lit (.bool true)], args := [d1, d2, d3, d4, d5] }
  | _ => none }
def renoBoundsRow : OpenClaim := { program := "ytbgbeadhpcikhaa", sum := "1e148540ef7d51df9b054fcf6fc81201264510212296498af880cf2f142f3676", func := "splittally/splittallylaw21.RenoBounds", spec := "renoBounds", inPlace := ["math/bits.Add64"], named := ["math/bits.divideError", "math/bits.overflowError"], apart := false }
def RenoBoundsSaid : Prop := renoBoundsRow.holds Try.pinned (OpenSpec.ofChange renoBoundsSpec)

/-- ITS FALSE NEIGHBOUR: 'it returns false'. Refute it at one input. -/
def renoBoundsWrong : ChangeSpec := { name := "renoBounds", fn := fun _ => fun
  | [d1, d2, d3, d4, d5] => { results := [.lit (.bool false)], args := [d1, d2, d3, d4, d5] }
  | _ => none }
def RenoBoundsWrongFalsely : Prop := renoBoundsRow.holds Try.pinned (OpenSpec.ofChange renoBoundsWrong)

/-- 'splittallylaw21.RenoPlays': WHATEVER THE INPUT: true; the input reads as it did. -/
def renoPlaysSpec : ChangeSpec := { name := "renoPlays", fn := fun _ => fun
  | [d1, d2, d3, d4, d5] => { results := [.lit (.bool true)], args := [d1, d2, d3, d4, d5] }
  | _ => none }
def renoPlaysRow : OpenClaim := { program := "ytbgbeadhpcikhaa", sum := "1e148540ef7d51df9b054fcf6fc81201264510212296498af880cf2f142f3676", func := "splittally/splittallylaw21.RenoPlays", spec := "renoPlays", inPlace := ["math/bits.Add64"], named := ["math/bits.divideError", "math/bits.overflowError"], apart := false }
def RenoPlaysSaid : Prop := renoPlaysRow.holds Try.pinned (OpenSpec.ofChange renoPlaysSpec)

/-- ITS FALSE NEIGHBOUR: 'it returns false'. Refute it at one input. -/
def renoPlaysWrong : ChangeSpec := { name := "renoPlays", fn := fun _ => fun
  | [d1, d2, d3, d4, d5] => { results := [.lit (.bool false)], args := [d1, d2, d3, d4, d5] }
  | _ => none }
def RenoPlaysWrongFalsely : Prop := renoPlaysRow.holds Try.pinned (OpenSpec.ofChange renoPlaysWrong)

/-- 'splittallylaw21.RenoRounds': WHATEVER THE INPUT: true; the input reads as it did. -/
def renoRoundsSpec : ChangeSpec := { name := "renoRounds", fn := fun _ => fun
  | [d1, d2, d3] => { results := [.lit (.bool true)], args := [d1, d2, d3] }
  | _ => none }
def renoRoundsRow : OpenClaim := { program := "ytbgbeadhpcikhaa", sum := "1e148540ef7d51df9b054fcf6fc81201264510212296498af880cf2f142f3676", func := "splittally/splittallylaw21.RenoRounds", spec := "renoRounds", inPlace := ["math/bits.Add64"], named := ["math/bits.divideError", "math/bits.overflowError"], apart := false }
def RenoRoundsSaid : Prop := renoRoundsRow.holds Try.pinned (OpenSpec.ofChange renoRoundsSpec)

/-- ITS FALSE NEIGHBOUR: 'it returns false'. Refute it at one input. -/
def renoRoundsWrong : ChangeSpec := { name := "renoRounds", fn := fun _ => fun
  | [d1, d2, d3] => { results := [.lit (.bool false)], args := [d1, d2, d3] }
  | _ => none }
def RenoRoundsWrongFalsely : Prop := renoRoundsRow.holds Try.pinned (OpenSpec.ofChange renoRoundsWrong)

/-- 'splittallylaw21.RenoSlows': WHATEVER THE INPUT: true; the input reads as it did. -/
def renoSlowsSpec : ChangeSpec := { name := "renoSlows", fn := fun _ => fun
  | [d1, d2, d3] => { results := [.lit (.bool true)], args := [d1, d2, d3] }
  | _ => none }
def renoSlowsRow : OpenClaim := { program := "ytbgbeadhpcikhaa", sum := "1e148540ef7d51df9b054fcf6fc81201264510212296498af880cf2f142f3676", func := "splittally/splittallylaw21.RenoSlows", spec := "renoSlows", inPlace := ["math/bits.Add64"], named := ["math/bits.divideError", "math/bits.overflowError"], apart := false }
def RenoSlowsSaid : Prop := renoSlowsRow.holds Try.pinned (OpenSpec.ofChange renoSlowsSpec)

/-- ITS FALSE NEIGHBOUR: 'it returns false'. Refute it at one input. -/
def renoSlowsWrong : ChangeSpec := { name := "renoSlows", fn := fun _ => fun
  | [d1, d2, d3] => { results := [.lit (.bool false)], args := [d1, d2, d3] }
  | _ => none }
def RenoSlowsWrongFalsely : Prop := renoSlowsRow.holds Try.pinned (OpenSpec.ofChange renoSlowsWrong)

/-- 'splittallylaw17.RttSamples': WHATEVER THE INPUT: true; the input reads as it did. -/
def rttSamplesSpec : ChangeSpec := { name := "rttSamples", fn := fun _ => fun
  | [d1, d2] => { results := [.lit (.bool true)], args := [d1, d2] }
  | _ => none }
def rttSamplesRow : OpenClaim := { program := "ytbgbeadhpcikhaa", sum := "1e148540ef7d51df9b054fcf6fc81201264510212296498af880cf2f142f3676", func := "splittally/splittallylaw17.RttSamples", spec := "rttSamples", inPlace := ["math/bits.Add64"], named := ["math/bits.divideError", "math/bits.overflowError"], apart := false }
def RttSamplesSaid : Prop := rttSamplesRow.holds Try.pinned (OpenSpec.ofChange rttSamplesSpec)

/-- ITS FALSE NEIGHBOUR: 'it returns false'. Refute it at one input. -/
def rttSamplesWrong : ChangeSpec := { name := "rttSamples", fn := fun _ => fun
  | [d1, d2] => { results := [.lit (.bool false)], args := [d1, d2] }
  | _ => none }
def RttSamplesWrongFalsely : Prop := rttSamplesRow.holds Try.pinned (OpenSpec.ofChange rttSamplesWrong)

/-- 'splittallylaw17.RttTimes': WHATEVER THE INPUT: true; the input reads as it did. -/
def rttTimesSpec : ChangeSpec := { name := "rttTimes", fn := fun _ => fun
  | [d1, d2, d3] => { results := [.lit (.bool true)], args := [d1, d2, d3] }
  | _ => none }
def rttTimesRow : OpenClaim := { program := "ytbgbeadhpcikhaa", sum := "1e148540ef7d51df9b054fcf6fc81201264510212296498af880cf2f142f3676", func := "splittally/splittallylaw17.RttTimes", spec := "rttTimes", inPlace := ["math/bits.Add64"], named := ["math/bits.divideError", "math/bits.overflowError"], apart := false }
def RttTimesSaid : Prop := rttTimesRow.holds Try.pinned (OpenSpec.ofChange rttTimesSpec)

/-- ITS FALSE NEIGHBOUR: 'it returns false'. Refute it at one input. -/
def rttTimesWrong : ChangeSpec := { name := "rttTimes", fn := fun _ => fun
  | [d1, d2, d3] => { results := [.lit (.bool false)], args := [d1, d2, d3] }
  | _ => none }
def RttTimesWrongFalsely : Prop := rttTimesRow.holds Try.pinned (OpenSpec.ofChange rttTimesWrong)

/-- 'splittallylaw17.RttBetween': WHATEVER THE INPUT: true; the input reads as it did. -/
def rttBetweenSpec : ChangeSpec := { name := "rttBetween", fn := fun _ => fun
  | [d] => { results := [.lit (.bool true)], args := [d] }
  | _ => none }
def rttBetweenRow : OpenClaim := { program := "ytbgbeadhpcikhaa", sum := "1e148540ef7d51df9b054fcf6fc81201264510212296498af880cf2f142f3676", func := "splittally/splittallylaw17.RttBetween", spec := "rttBetween", inPlace := ["math/bits.Add64"], named := ["math/bits.divideError", "math/bits.overflowError"], apart := false }
def RttBetweenSaid : Prop := rttBetweenRow.holds Try.pinned (OpenSpec.ofChange rttBetweenSpec)

/-- ITS FALSE NEIGHBOUR: 'it returns false'. Refute it at one input. -/
def rttBetweenWrong : ChangeSpec := { name := "rttBetween", fn := fun _ => fun
  | [d] => { results := [.lit (.bool false)], args := [d] }
  | _ => none }
def RttBetweenWrongFalsely : Prop := rttBetweenRow.holds Try.pinned (OpenSpec.ofChange rttBetweenWrong)

/-- 'splittallylaw17.RttSteady': WHATEVER THE INPUT: true; the input reads as it did. -/
def rttSteadySpec : ChangeSpec := { name := "rttSteady", fn := fun _ => fun
  | [d1, d2] => { results := [.lit (.bool true)], args := [d1, d2] }
  | _ => none }
def rttSteadyRow : OpenClaim := { program := "ytbgbeadhpcikhaa", sum := "1e148540ef7d51df9b054fcf6fc81201264510212296498af880cf2f142f3676", func := "splittally/splittallylaw17.RttSteady", spec := "rttSteady", inPlace := ["math/bits.Add64"], named := ["math/bits.divideError", "math/bits.overflowError"], apart := false }
def RttSteadySaid : Prop := rttSteadyRow.holds Try.pinned (OpenSpec.ofChange rttSteadySpec)

/-- ITS FALSE NEIGHBOUR: 'it returns false'. Refute it at one input. -/
def rttSteadyWrong : ChangeSpec := { name := "rttSteady", fn := fun _ => fun
  | [d1, d2] => { results := [.lit (.bool false)], args := [d1, d2] }
  | _ => none }
def RttSteadyWrongFalsely : Prop := rttSteadyRow.holds Try.pinned (OpenSpec.ofChange rttSteadyWrong)

/-- 'splittallylaw17.RttOver': WHATEVER THE INPUT: true; the input reads as it did. -/
def rttOverSpec : ChangeSpec := { name := "rttOver", fn := fun _ => fun
  | [d1, d2, d3, d4, d5, d6, d7] => { results := [.lit (.bool true)], args := [d1, d2, d3, d4, d5, d6, d7] }
  | _ => none }
def rttOverRow : OpenClaim := { program := "ytbgbeadhpcikhaa", sum := "1e148540ef7d51df9b054fcf6fc81201264510212296498af880cf2f142f3676", func := "splittally/splittallylaw17.RttOver", spec := "rttOver", inPlace := ["math/bits.Add64"], named := ["math/bits.divideError", "math/bits.overflowError"], apart := false }
def RttOverSaid : Prop := rttOverRow.holds Try.pinned (OpenSpec.ofChange rttOverSpec)

/-- ITS FALSE NEIGHBOUR: 'it returns false'. Refute it at one input. -/
def rttOverWrong : ChangeSpec := { name := "rttOver", fn := fun _ => fun
  | [d1, d2, d3, d4, d5, d6, d7] => { results := [.lit (.bool false)], args := [d1, d2, d3, d4, d5, d6, d7] }
  | _ => none }
def RttOverWrongFalsely : Prop := rttOverRow.holds Try.pinned (OpenSpec.ofChange rttOverWrong)

/- THE SECOND FORM. 'bulk': how many values and letters a reading holds, each counted each time it is reached (what is shared counts as often as it is met; a slice's spare places count too). A statement '..UptoSaid' is the law's where the arguments, and the package variables that the reading takes, are together of bulk at most 1048576: NARROWER than '..Said'. Prove '..Said' where nothing that the law and all that it calls make is longer than what came in: it says more and counts as full. Else prove '..UptoSaid'. A law counts once. -/
mutual
def uptoBulk {H : Type} : DataW H → Nat
  | .lit (.string bytes) => bytes.length + 1
  | .lit _ => 1
  | .nil => 1
  | .ptr d => uptoBulk d + 1
  | .slice elems spare => uptoBulkAll elems + uptoBulkAll spare + 1
  | .agg parts => uptoBulkAll parts + 1
  | .iface _ d => uptoBulk d + 1
  | .map entries => uptoBulkEntries entries + 1
  | .held _ => 1
def uptoBulkAll {H : Type} : List (DataW H) → Nat
  | [] => 0
  | d :: r => uptoBulk d + uptoBulkAll r
def uptoBulkEntries {H : Type} : List (Lit × DataW H) → Nat
  | [] => 0
  | x :: r => uptoBulkEntry x + uptoBulkEntries r
def uptoBulkEntry {H : Type} : Lit × DataW H → Nat
  | (.string bytes, d) => bytes.length + uptoBulk d + 1
  | (_, d) => uptoBulk d + 1
 end
def uptoSmall : (H : Type) → List (DataW H) → Bool := fun _ ds => decide (uptoBulkAll ds ≤ 1048576)
def OpenSpec.upto (s : _root_.Go.ChangeSpec) : _root_.Go.OpenSpec := { _root_.Go.OpenSpec.ofChange s with cond := some uptoSmall }

/-- 'splittallylaw21.RenoGrows', WHERE WHAT IT READS IS OF BULK AT MOST 1048576: true; the input reads as it did. -/
def renoGrowsUptoRow : OpenClaim := { program := "ytbgbeadhpcikhaa", sum := "1e148540ef7d51df9b054fcf6fc81201264510212296498af880cf2f142f3676", func := "splittally/splittallylaw21.RenoGrows", spec := "renoGrows", inPlace := ["math/bits.Add64"], named := ["math/bits.divideError", "math/bits.overflowError"], apart := false, narrowed := true }
def RenoGrowsUptoSaid : Prop := renoGrowsUptoRow.holds Try.pinned (OpenSpec.upto renoGrowsSpec)

/-- 'splittallylaw21.RenoCuts', WHERE WHAT IT READS IS OF BULK AT MOST 1048576: true; the input reads as it did. -/
def renoCutsUptoRow : OpenClaim := { program := "ytbgbeadhpcikhaa", sum := "1e148540ef7d51df9b054fcf6fc81201264510212296498af880cf2f142f3676", func := "splittally/splittallylaw21.RenoCuts", spec := "renoCuts", inPlace := ["math/bits.Add64"], named := ["math/bits.divideError", "math/bits.overflowError"], apart := false, narrowed := true }
def RenoCutsUptoSaid : Prop := renoCutsUptoRow.holds Try.pinned (OpenSpec.upto renoCutsSpec)

/-- 'splittallylaw21.RenoBounds', WHERE WHAT IT READS IS OF BULK AT MOST 1048576: true; the input reads as it did. -/
def renoBoundsUptoRow : OpenClaim := { program := "ytbgbeadhpcikhaa", sum := "1e148540ef7d51df9b054fcf6fc81201264510212296498af880cf2f142f3676", func := "splittally/splittallylaw21.RenoBounds", spec := "renoBounds", inPlace := ["math/bits.Add64"], named := ["math/bits.divideError", "math/bits.overflowError"], apart := false, narrowed := true }
def RenoBoundsUptoSaid : Prop := renoBoundsUptoRow.holds Try.pinned (OpenSpec.upto renoBoundsSpec)

/-- 'splittallylaw21.RenoPlays', WHERE WHAT IT READS IS OF BULK AT MOST 1048576: true; the input reads as it did. -/
def renoPlaysUptoRow : OpenClaim := { program := "ytbgbeadhpcikhaa", sum := "1e148540ef7d51df9b054fcf6fc81201264510212296498af880cf2f142f3676", func := "splittally/splittallylaw21.RenoPlays", spec := "renoPlays", inPlace := ["math/bits.Add64"], named := ["math/bits.divideError", "math/bits.overflowError"], apart := false, narrowed := true }
def RenoPlaysUptoSaid : Prop := renoPlaysUptoRow.holds Try.pinned (OpenSpec.upto renoPlaysSpec)

/-- 'splittallylaw21.RenoRounds', WHERE WHAT IT READS IS OF BULK AT MOST 1048576: true; the input reads as it did. -/
def renoRoundsUptoRow : OpenClaim := { program := "ytbgbeadhpcikhaa", sum := "1e148540ef7d51df9b054fcf6fc81201264510212296498af880cf2f142f3676", func := "splittally/splittallylaw21.RenoRounds", spec := "renoRounds", inPlace := ["math/bits.Add64"], named := ["math/bits.divideError", "math/bits.overflowError"], apart := false, narrowed := true }
def RenoRoundsUptoSaid : Prop := renoRoundsUptoRow.holds Try.pinned (OpenSpec.upto renoRoundsSpec)

/-- 'splittallylaw21.RenoSlows', WHERE WHAT IT READS IS OF BULK AT MOST 1048576: true; the input reads as it did. -/
def renoSlowsUptoRow : OpenClaim := { program := "ytbgbeadhpcikhaa", sum := "1e148540ef7d51df9b054fcf6fc81201264510212296498af880cf2f142f3676", func := "splittally/splittallylaw21.RenoSlows", spec := "renoSlows", inPlace := ["math/bits.Add64"], named := ["math/bits.divideError", "math/bits.overflowError"], apart := false, narrowed := true }
def RenoSlowsUptoSaid : Prop := renoSlowsUptoRow.holds Try.pinned (OpenSpec.upto renoSlowsSpec)

/-- 'splittallylaw17.RttSamples', WHERE WHAT IT READS IS OF BULK AT MOST 1048576: true; the input reads as it did. -/
def rttSamplesUptoRow : OpenClaim := { program := "ytbgbeadhpcikhaa", sum := "1e148540ef7d51df9b054fcf6fc81201264510212296498af880cf2f142f3676", func := "splittally/splittallylaw17.RttSamples", spec := "rttSamples", inPlace := ["math/bits.Add64"], named := ["math/bits.divideError", "math/bits.overflowError"], apart := false, narrowed := true }
def RttSamplesUptoSaid : Prop := rttSamplesUptoRow.holds Try.pinned (OpenSpec.upto rttSamplesSpec)

/-- 'splittallylaw17.RttTimes', WHERE WHAT IT READS IS OF BULK AT MOST 1048576: true; the input reads as it did. -/
def rttTimesUptoRow : OpenClaim := { program := "ytbgbeadhpcikhaa", sum := "1e148540ef7d51df9b054fcf6fc81201264510212296498af880cf2f142f3676", func := "splittally/splittallylaw17.RttTimes", spec := "rttTimes", inPlace := ["math/bits.Add64"], named := ["math/bits.divideError", "math/bits.overflowError"], apart := false, narrowed := true }
def RttTimesUptoSaid : Prop := rttTimesUptoRow.holds Try.pinned (OpenSpec.upto rttTimesSpec)

/-- 'splittallylaw17.RttBetween', WHERE WHAT IT READS IS OF BULK AT MOST 1048576: true; the input reads as it did. -/
def rttBetweenUptoRow : OpenClaim := { program := "ytbgbeadhpcikhaa", sum := "1e148540ef7d51df9b054fcf6fc81201264510212296498af880cf2f142f3676", func := "splittally/splittallylaw17.RttBetween", spec := "rttBetween", inPlace := ["math/bits.Add64"], named := ["math/bits.divideError", "math/bits.overflowError"], apart := false, narrowed := true }
def RttBetweenUptoSaid : Prop := rttBetweenUptoRow.holds Try.pinned (OpenSpec.upto rttBetweenSpec)

/-- 'splittallylaw17.RttSteady', WHERE WHAT IT READS IS OF BULK AT MOST 1048576: true; the input reads as it did. -/
def rttSteadyUptoRow : OpenClaim := { program := "ytbgbeadhpcikhaa", sum := "1e148540ef7d51df9b054fcf6fc81201264510212296498af880cf2f142f3676", func := "splittally/splittallylaw17.RttSteady", spec := "rttSteady", inPlace := ["math/bits.Add64"], named := ["math/bits.divideError", "math/bits.overflowError"], apart := false, narrowed := true }
def RttSteadyUptoSaid : Prop := rttSteadyUptoRow.holds Try.pinned (OpenSpec.upto rttSteadySpec)

/-- 'splittallylaw17.RttOver', WHERE WHAT IT READS IS OF BULK AT MOST 1048576: true; the input reads as it did. -/
def rttOverUptoRow : OpenClaim := { program := "ytbgbeadhpcikhaa", sum := "1e148540ef7d51df9b054fcf6fc81201264510212296498af880cf2f142f3676", func := "splittally/splittallylaw17.RttOver", spec := "rttOver", inPlace := ["math/bits.Add64"], named := ["math/bits.divideError", "math/bits.overflowError"], apart := false, narrowed := true }
def RttOverUptoSaid : Prop := rttOverUptoRow.holds Try.pinned (OpenSpec.upto rttOverSpec)

end Rows
end Go.Proofs.Ytbgbeadhpcikhaa
