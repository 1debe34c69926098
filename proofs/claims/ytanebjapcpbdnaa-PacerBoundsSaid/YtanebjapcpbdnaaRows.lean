/-
  No cell of these rows narrows 'for every input' (looked for: loops, veiled, ifaces, maps, wideKeys, modest, calm, conditions, laid).
  DERIVED. THE GIVEN ROWS OF THIS SEAT. 12 by the template 'for every input the law returns true; each argument reads behind the call as it read before'; 0 by the template 'total and deterministic' (their statements: YtanebjapcpbdnaaTotals.lean).
  GIVEN WITH THE SEED: the statements are not yours to turn. If you find one false, say at which input.
  Laid BY PROGRAM, IN A SANDBOX (cutbox-rows.mjs): the forced cells as the released guide's own fill.sh prints them over the translation e374491eee04dcc3… (all of the seat's roots in one cut). By AI agents, Wed Nov 11 2026. No macro, syntax, notation, axiom, sorry.
-/
import Derived.Test.YtanebjapcpbdnaaChecked
import GoSem.Claim
import GoSem.ClaimJoined
import GoSem.ClaimMapViews
import Derived.JoinedTies
import Derived.KernelRfl
namespace Go.Proofs.Ytanebjapcpbdnaa
/- THE CELL 'sum', in the pinned program and in every row, IS THE sha256 OF THE DUMP (.gsa) THAT YtanebjapcpbdnaaProg.lean LOADS. Nothing in Lean hashes anything: it is a label: what it is worth is what the hold of that sum in a sandbox is worth. -/
noncomputable def Try.pinned : Pinned := { name := "ytanebjapcpbdnaa", sum := "e374491eee04dcc3d949b609a8652daa8a3317c4528445818fc2d9bfb08ef931", checked := Try.checked }
namespace Rows
def none {H : Type} : Left H := { results := [], args := [] }

/-- 'splittallylaw24.PacerTakes': WHATEVER THE INPUT: true; the input reads as it did. -/
def pacerTakesSpec : ChangeSpec := { name := "pacerTakes", fn := fun _ => fun
  | [d1, d2, d3, d4] => { results := [.lit (.bool true)], args := [d1, d2, d3, d4] }
  | _ => none }
def pacerTakesRow : OpenClaim := { program := "ytanebjapcpbdnaa", sum := "e374491eee04dcc3d949b609a8652daa8a3317c4528445818fc2d9bfb08ef931", func := "splittally/splittallylaw24.PacerTakes", spec := "pacerTakes", inPlace := ["math/bits.Add64"], named := ["math/bits.divideError", "math/bits.overflowError"], apart := false }
def PacerTakesSaid : Prop := pacerTakesRow.holds Try.pinned (OpenSpec.ofChange pacerTakesSpec)

/-- ITS FALSE NEIGHBOUR: 'it returns false'. Refute it at one input. -/
def pacerTakesWrong : ChangeSpec := { name := "pacerTakes", fn := fun _ => fun
  | [d1, d2, d3, d4] => { results := [.lit (.bool false)], args := [d1, d2, d3, d4] }
  | _ => none }
def PacerTakesWrongFalsely : Prop := pacerTakesRow.holds Try.pinned (OpenSpec.ofChange pacerTakesWrong)

/-- 'splittallylaw24.PacerTwice': WHATEVER THE INPUT: true; the input reads as it did. -/
def pacerTwiceSpec : ChangeSpec := { name := "pacerTwice", fn := fun _ => fun
  | [d1, d2, d3, d4] => { results := [.lit (.bool true)], args := [d1, d2, d3, d4] }
  | _ => none }
def pacerTwiceRow : OpenClaim := { program := "ytanebjapcpbdnaa", sum := "e374491eee04dcc3d949b609a8652daa8a3317c4528445818fc2d9bfb08ef931", func := "splittally/splittallylaw24.PacerTwice", spec := "pacerTwice", inPlace := ["math/bits.Add64"], named := ["math/bits.divideError", "math/bits.overflowError"], apart := false }
def PacerTwiceSaid : Prop := pacerTwiceRow.holds Try.pinned (OpenSpec.ofChange pacerTwiceSpec)

/-- ITS FALSE NEIGHBOUR: 'it returns false'. Refute it at one input. -/
def pacerTwiceWrong : ChangeSpec := { name := "pacerTwice", fn := fun _ => fun
  | [d1, d2, d3, d4] => { results := [.lit (.bool false)], args := [d1, d2, d3, d4] }
  | _ => none }
def PacerTwiceWrongFalsely : Prop := pacerTwiceRow.holds Try.pinned (OpenSpec.ofChange pacerTwiceWrong)

/-- 'splittallylaw24.PacerNext': WHATEVER THE INPUT: true; the input reads as it did. -/
def pacerNextSpec : ChangeSpec := { name := "pacerNext", fn := fun _ => fun
  | [d1, d2, d3, d4, d5, d6] => { results := [.lit (.bool true)], args := [d1, d2, d3, d4, d5, d6] }
  | _ => none }
def pacerNextRow : OpenClaim := { program := "ytanebjapcpbdnaa", sum := "e374491eee04dcc3d949b609a8652daa8a3317c4528445818fc2d9bfb08ef931", func := "splittally/splittallylaw24.PacerNext", spec := "pacerNext", inPlace := ["math/bits.Add64"], named := ["math/bits.divideError", "math/bits.overflowError"], apart := false }
def PacerNextSaid : Prop := pacerNextRow.holds Try.pinned (OpenSpec.ofChange pacerNextSpec)

/-- ITS FALSE NEIGHBOUR: 'it returns false'. Refute it at one input. -/
def pacerNextWrong : ChangeSpec := { name := "pacerNext", fn := fun _ => fun
  | [d1, d2, d3, d4, d5, d6] => { results := [.lit (.bool false)], args := [d1, d2, d3, d4, d5, d6] }
  | _ => none }
def PacerNextWrongFalsely : Prop := pacerNextRow.holds Try.pinned (OpenSpec.ofChange pacerNextWrong)

/-- 'splittallylaw24.PacerBounds': WHATEVER THE INPUT: true; the input reads as it did. -/
def pacerBoundsSpec : ChangeSpec := { name := "pacerBounds", fn := fun _ => fun
  | [d1, d2, d3] => { results := [.lit (.bool true)], args := [d1, d2, d3] }
  | _ => none }
def pacerBoundsRow : OpenClaim := { program := "ytanebjapcpbdnaa", sum := "e374491eee04dcc3d949b609a8652daa8a3317c4528445818fc2d9bfb08ef931", func := "splittally/splittallylaw24.PacerBounds", spec := "pacerBounds", inPlace := ["math/bits.Add64"], named := ["math/bits.divideError", "math/bits.overflowError"], apart := false }
def PacerBoundsSaid : Prop := pacerBoundsRow.holds Try.pinned (OpenSpec.ofChange pacerBoundsSpec)

/-- ITS FALSE NEIGHBOUR: 'it returns false'. Refute it at one input. -/
def pacerBoundsWrong : ChangeSpec := { name := "pacerBounds", fn := fun _ => fun
  | [d1, d2, d3] => { results := [.lit (.bool false)], args := [d1, d2, d3] }
  | _ => none }
def PacerBoundsWrongFalsely : Prop := pacerBoundsRow.holds Try.pinned (OpenSpec.ofChange pacerBoundsWrong)

/-- 'splittallylaw22.CubicLong': WHATEVER THE INPUT: true; the input reads as it did. -/
def cubicLongSpec : ChangeSpec := { name := "cubicLong", fn := fun _ => fun
  | [d1, d2, d3] => { results := [.lit (.bool true)], args := [d1, d2, d3] }
  | _ => none }
def cubicLongRow : OpenClaim := { program := "ytanebjapcpbdnaa", sum := "e374491eee04dcc3d949b609a8652daa8a3317c4528445818fc2d9bfb08ef931", func := "splittally/splittallylaw22.CubicLong", spec := "cubicLong", inPlace := ["math/bits.Add64"], named := ["math/bits.divideError", "math/bits.overflowError"], apart := false }
def CubicLongSaid : Prop := cubicLongRow.holds Try.pinned (OpenSpec.ofChange cubicLongSpec)

/-- ITS FALSE NEIGHBOUR: 'it returns false'. Refute it at one input. -/
def cubicLongWrong : ChangeSpec := { name := "cubicLong", fn := fun _ => fun
  | [d1, d2, d3] => { results := [.lit (.bool false)], args := [d1, d2, d3] }
  | _ => none }
def CubicLongWrongFalsely : Prop := cubicLongRow.holds Try.pinned (OpenSpec.ofChange cubicLongWrong)

/-- 'splittallylaw22.CubicAt': WHATEVER THE INPUT: true; the input reads as it did. -/
def cubicAtSpec : ChangeSpec := { name := "cubicAt", fn := fun _ => fun
  | [d1, d2, d3, d4] => { results := [.lit (.bool true)], args := [d1, d2, d3, d4] }
  | _ => none }
def cubicAtRow : OpenClaim := { program := "ytanebjapcpbdnaa", sum := "e374491eee04dcc3d949b609a8652daa8a3317c4528445818fc2d9bfb08ef931", func := "splittally/splittallylaw22.CubicAt", spec := "cubicAt", inPlace := ["math/bits.Add64"], named := ["math/bits.divideError", "math/bits.overflowError"], apart := false }
def CubicAtSaid : Prop := cubicAtRow.holds Try.pinned (OpenSpec.ofChange cubicAtSpec)

/-- ITS FALSE NEIGHBOUR: 'it returns false'. Refute it at one input. -/
def cubicAtWrong : ChangeSpec := { name := "cubicAt", fn := fun _ => fun
  | [d1, d2, d3, d4] => { results := [.lit (.bool false)], args := [d1, d2, d3, d4] }
  | _ => none }
def CubicAtWrongFalsely : Prop := cubicAtRow.holds Try.pinned (OpenSpec.ofChange cubicAtWrong)

/-- 'splittallylaw22.CubicCuts': WHATEVER THE INPUT: true; the input reads as it did. -/
def cubicCutsSpec : ChangeSpec := { name := "cubicCuts", fn := fun _ => fun
  | [d1, d2, d3] => { results := [.lit (.bool true)], args := [d1, d2, d3] }
  | _ => none }
def cubicCutsRow : OpenClaim := { program := "ytanebjapcpbdnaa", sum := "e374491eee04dcc3d949b609a8652daa8a3317c4528445818fc2d9bfb08ef931", func := "splittally/splittallylaw22.CubicCuts", spec := "cubicCuts", inPlace := ["math/bits.Add64"], named := ["math/bits.divideError", "math/bits.overflowError"], apart := false }
def CubicCutsSaid : Prop := cubicCutsRow.holds Try.pinned (OpenSpec.ofChange cubicCutsSpec)

/-- ITS FALSE NEIGHBOUR: 'it returns false'. Refute it at one input. -/
def cubicCutsWrong : ChangeSpec := { name := "cubicCuts", fn := fun _ => fun
  | [d1, d2, d3] => { results := [.lit (.bool false)], args := [d1, d2, d3] }
  | _ => none }
def CubicCutsWrongFalsely : Prop := cubicCutsRow.holds Try.pinned (OpenSpec.ofChange cubicCutsWrong)

/-- 'splittallylaw22.CubicRises': WHATEVER THE INPUT: true; the input reads as it did. -/
def cubicRisesSpec : ChangeSpec := { name := "cubicRises", fn := fun _ => fun
  | [d1, d2, d3, d4, d5] => { results := [.lit (.bool true)], args := [d1, d2, d3, d4, d5] }
  | _ => none }
def cubicRisesRow : OpenClaim := { program := "ytanebjapcpbdnaa", sum := "e374491eee04dcc3d949b609a8652daa8a3317c4528445818fc2d9bfb08ef931", func := "splittally/splittallylaw22.CubicRises", spec := "cubicRises", inPlace := ["math/bits.Add64"], named := ["math/bits.divideError", "math/bits.overflowError"], apart := false }
def CubicRisesSaid : Prop := cubicRisesRow.holds Try.pinned (OpenSpec.ofChange cubicRisesSpec)

/-- ITS FALSE NEIGHBOUR: 'it returns false'. Refute it at one input. -/
def cubicRisesWrong : ChangeSpec := { name := "cubicRises", fn := fun _ => fun
  | [d1, d2, d3, d4, d5] => { results := [.lit (.bool false)], args := [d1, d2, d3, d4, d5] }
  | _ => none }
def CubicRisesWrongFalsely : Prop := cubicRisesRow.holds Try.pinned (OpenSpec.ofChange cubicRisesWrong)

/-- 'splittallylaw22.CubicBack': WHATEVER THE INPUT: true; the input reads as it did. -/
def cubicBackSpec : ChangeSpec := { name := "cubicBack", fn := fun _ => fun
  | [d1, d2, d3] => { results := [.lit (.bool true)], args := [d1, d2, d3] }
  | _ => none }
def cubicBackRow : OpenClaim := { program := "ytanebjapcpbdnaa", sum := "e374491eee04dcc3d949b609a8652daa8a3317c4528445818fc2d9bfb08ef931", func := "splittally/splittallylaw22.CubicBack", spec := "cubicBack", inPlace := ["math/bits.Add64"], named := ["math/bits.divideError", "math/bits.overflowError"], apart := false }
def CubicBackSaid : Prop := cubicBackRow.holds Try.pinned (OpenSpec.ofChange cubicBackSpec)

/-- ITS FALSE NEIGHBOUR: 'it returns false'. Refute it at one input. -/
def cubicBackWrong : ChangeSpec := { name := "cubicBack", fn := fun _ => fun
  | [d1, d2, d3] => { results := [.lit (.bool false)], args := [d1, d2, d3] }
  | _ => none }
def CubicBackWrongFalsely : Prop := cubicBackRow.holds Try.pinned (OpenSpec.ofChange cubicBackWrong)

/-- 'splittallylaw22.CubicGrows': WHATEVER THE INPUT: true; the input reads as it did. -/
def cubicGrowsSpec : ChangeSpec := { name := "cubicGrows", fn := fun _ => fun
  | [d1, d2, d3, d4, d5] => { results := [.lit (.bool true)], args := [d1, d2, d3, d4, d5] }
  | _ => none }
def cubicGrowsRow : OpenClaim := { program := "ytanebjapcpbdnaa", sum := "e374491eee04dcc3d949b609a8652daa8a3317c4528445818fc2d9bfb08ef931", func := "splittally/splittallylaw22.CubicGrows", spec := "cubicGrows", inPlace := ["math/bits.Add64"], named := ["math/bits.divideError", "math/bits.overflowError"], apart := false }
def CubicGrowsSaid : Prop := cubicGrowsRow.holds Try.pinned (OpenSpec.ofChange cubicGrowsSpec)

/-- ITS FALSE NEIGHBOUR: 'it returns false'. Refute it at one input. -/
def cubicGrowsWrong : ChangeSpec := { name := "cubicGrows", fn := fun _ => fun
  | [d1, d2, d3, d4, d5] => { results := [.lit (.bool false)], args := [d1, d2, d3, d4, d5] }
  | _ => none }
def CubicGrowsWrongFalsely : Prop := cubicGrowsRow.holds Try.pinned (OpenSpec.ofChange cubicGrowsWrong)

/-- 'splittallylaw22.CubicPlays': WHATEVER THE INPUT: true; the input reads as it did. -/
def cubicPlaysSpec : ChangeSpec := { name := "cubicPlays", fn := fun _ => fun
  | [d1, d2, d3, d4, d5] => { results := [.lit (.bool true)], args := [d1, d2, d3, d4, d5] }
  | _ => none }
def cubicPlaysRow : OpenClaim := { program := "ytanebjapcpbdnaa", sum := "e374491eee04dcc3d949b609a8652daa8a3317c4528445818fc2d9bfb08ef931", func := "splittally/splittallylaw22.CubicPlays", spec := "cubicPlays", inPlace := ["math/bits.Add64"], named := ["math/bits.divideError", "math/bits.overflowError"], apart := false }
def CubicPlaysSaid : Prop := cubicPlaysRow.holds Try.pinned (OpenSpec.ofChange cubicPlaysSpec)

/-- ITS FALSE NEIGHBOUR: 'it returns false'. Refute it at one input. -/
def cubicPlaysWrong : ChangeSpec := { name := "cubicPlays", fn := fun _ => fun
  | [d1, d2, d3, d4, d5] => { results := [.lit (.bool false)], args := [d1, d2, d3, d4, d5] }
  | _ => none }
def CubicPlaysWrongFalsely : Prop := cubicPlaysRow.holds Try.pinned (OpenSpec.ofChange cubicPlaysWrong)

/-- 'splittallylaw22.CubicHolds': WHATEVER THE INPUT: true; the input reads as it did. -/
def cubicHoldsSpec : ChangeSpec := { name := "cubicHolds", fn := fun _ => fun
  | [d1, d2, d3, d4, d5] => { results := [.lit (.bool true)], args := [d1, d2, d3, d4, d5] }
  | _ => none }
def cubicHoldsRow : OpenClaim := { program := "ytanebjapcpbdnaa", sum := "e374491eee04dcc3d949b609a8652daa8a3317c4528445818fc2d9bfb08ef931", func := "splittally/splittallylaw22.CubicHolds", spec := "cubicHolds", inPlace := ["math/bits.Add64"], named := ["math/bits.divideError", "math/bits.overflowError"], apart := false }
def CubicHoldsSaid : Prop := cubicHoldsRow.holds Try.pinned (OpenSpec.ofChange cubicHoldsSpec)

/-- ITS FALSE NEIGHBOUR: 'it returns false'. Refute it at one input. -/
def cubicHoldsWrong : ChangeSpec := { name := "cubicHolds", fn := fun _ => fun
  | [d1, d2, d3, d4, d5] => { results := [.lit (.bool false)], args := [d1, d2, d3, d4, d5] }
  | _ => none }
def CubicHoldsWrongFalsely : Prop := cubicHoldsRow.holds Try.pinned (OpenSpec.ofChange cubicHoldsWrong)

/- THE SECOND FORM. 'bulk': how many values and letters a reading holds, each counted each time it is reached (what is shared counts as often as it is met; a slice's spare places count too). A statement '..UptoSaid' is the law's where the arguments, and the package variables that the reading takes, are together of bulk at most 1048576: NARROWER than '..Said'. Prove '..Said' where nothing that the law and all that it calls make is longer than what came in: it says more and counts as full. Else prove '..UptoSaid'. A law counts once. -/
mutual
def uptoBulk {H : Type} : DataW H → Nat
  | .lit (.string bytes) => bytes.length + 1
  | .lit _ => 1
  | .nil => 1
  | .ptr d => uptoBulk d + 1
  | .slice elems spare => uptoBulkAll elems + uptoBulkAll spare + 1
  | .agg parts => uptoBulkAll parts + 1
  | .iface _ d => uptoBulk d + 1
  | .map entries => uptoBulkEntries entries + 1
  | .held _ => 1
def uptoBulkAll {H : Type} : List (DataW H) → Nat
  | [] => 0
  | d :: r => uptoBulk d + uptoBulkAll r
def uptoBulkEntries {H : Type} : List (Lit × DataW H) → Nat
  | [] => 0
  | x :: r => uptoBulkEntry x + uptoBulkEntries r
def uptoBulkEntry {H : Type} : Lit × DataW H → Nat
  | (.string bytes, d) => bytes.length + uptoBulk d + 1
  | (_, d) => uptoBulk d + 1
 end
def uptoSmall : (H : Type) → List (DataW H) → Bool := fun _ ds => decide (uptoBulkAll ds ≤ 1048576)
def OpenSpec.upto (s : _root_.Go.ChangeSpec) : _root_.Go.OpenSpec := { _root_.Go.OpenSpec.ofChange s with cond := some uptoSmall }

/-- 'splittallylaw24.PacerTakes', WHERE WHAT IT READS IS OF BULK AT MOST 1048576: true; the input reads as it did. -/
def pacerTakesUptoRow : OpenClaim := { program := "ytanebjapcpbdnaa", sum := "e374491eee04dcc3d949b609a8652daa8a3317c4528445818fc2d9bfb08ef931", func := "splittally/splittallylaw24.PacerTakes", spec := "pacerTakes", inPlace := ["math/bits.Add64"], named := ["math/bits.divideError", "math/bits.overflowError"], apart := false, narrowed := true }
def PacerTakesUptoSaid : Prop := pacerTakesUptoRow.holds Try.pinned (OpenSpec.upto pacerTakesSpec)

/-- 'splittallylaw24.PacerTwice', WHERE WHAT IT READS IS OF BULK AT MOST 1048576: true; the input reads as it did. -/
def pacerTwiceUptoRow : OpenClaim := { program := "ytanebjapcpbdnaa", sum := "e374491eee04dcc3d949b609a8652daa8a3317c4528445818fc2d9bfb08ef931", func := "splittally/splittallylaw24.PacerTwice", spec := "pacerTwice", inPlace := ["math/bits.Add64"], named := ["math/bits.divideError", "math/bits.overflowError"], apart := false, narrowed := true }
def PacerTwiceUptoSaid : Prop := pacerTwiceUptoRow.holds Try.pinned (OpenSpec.upto pacerTwiceSpec)

/-- 'splittallylaw24.PacerNext', WHERE WHAT IT READS IS OF BULK AT MOST 1048576: true; the input reads as it did. -/
def pacerNextUptoRow : OpenClaim := { program := "ytanebjapcpbdnaa", sum := "e374491eee04dcc3d949b609a8652daa8a3317c4528445818fc2d9bfb08ef931", func := "splittally/splittallylaw24.PacerNext", spec := "pacerNext", inPlace := ["math/bits.Add64"], named := ["math/bits.divideError", "math/bits.overflowError"], apart := false, narrowed := true }
def PacerNextUptoSaid : Prop := pacerNextUptoRow.holds Try.pinned (OpenSpec.upto pacerNextSpec)

/-- 'splittallylaw24.PacerBounds', WHERE WHAT IT READS IS OF BULK AT MOST 1048576: true; the input reads as it did. -/
def pacerBoundsUptoRow : OpenClaim := { program := "ytanebjapcpbdnaa", sum := "e374491eee04dcc3d949b609a8652daa8a3317c4528445818fc2d9bfb08ef931", func := "splittally/splittallylaw24.PacerBounds", spec := "pacerBounds", inPlace := ["math/bits.Add64"], named := ["math/bits.divideError", "math/bits.overflowError"], apart := false, narrowed := true }
def PacerBoundsUptoSaid : Prop := pacerBoundsUptoRow.holds Try.pinned (OpenSpec.upto pacerBoundsSpec)

/-- 'splittallylaw22.CubicLong', WHERE WHAT IT READS IS OF BULK AT MOST 1048576: true; the input reads as it did. -/
def cubicLongUptoRow : OpenClaim := { program := "ytanebjapcpbdnaa", sum := "e374491eee04dcc3d949b609a8652daa8a3317c4528445818fc2d9bfb08ef931", func := "splittally/splittallylaw22.CubicLong", spec := "cubicLong", inPlace := ["math/bits.Add64"], named := ["math/bits.divideError", "math/bits.overflowError"], apart := false, narrowed := true }
def CubicLongUptoSaid : Prop := cubicLongUptoRow.holds Try.pinned (OpenSpec.upto cubicLongSpec)

/-- 'splittallylaw22.CubicAt', WHERE WHAT IT READS IS OF BULK AT MOST 1048576: true; the input reads as it did. -/
def cubicAtUptoRow : OpenClaim := { program := "ytanebjapcpbdnaa", sum := "e374491eee04dcc3d949b609a8652daa8a3317c4528445818fc2d9bfb08ef931", func := "splittally/splittallylaw22.CubicAt", spec := "cubicAt", inPlace := ["math/bits.Add64"], named := ["math/bits.divideError", "math/bits.overflowError"], apart := false, narrowed := true }
def CubicAtUptoSaid : Prop := cubicAtUptoRow.holds Try.pinned (OpenSpec.upto cubicAtSpec)

/-- 'splittallylaw22.CubicCuts', WHERE WHAT IT READS IS OF BULK AT MOST 1048576: true; the input reads as it did. -/
def cubicCutsUptoRow : OpenClaim := { program := "ytanebjapcpbdnaa", sum := "e374491eee04dcc3d949b609a8652daa8a3317c4528445818fc2d9bfb08ef931", func := "splittally/splittallylaw22.CubicCuts", spec := "cubicCuts", inPlace := ["math/bits.Add64"], named := ["math/bits.divideError", "math/bits.overflowError"], apart := false, narrowed := true }
def CubicCutsUptoSaid : Prop := cubicCutsUptoRow.holds Try.pinned (OpenSpec.upto cubicCutsSpec)

/-- 'splittallylaw22.CubicRises', WHERE WHAT IT READS IS OF BULK AT MOST 1048576: true; the input reads as it did. -/
def cubicRisesUptoRow : OpenClaim := { program := "ytanebjapcpbdnaa", sum := "e374491eee04dcc3d949b609a8652daa8a3317c4528445818fc2d9bfb08ef931", func := "splittally/splittallylaw22.CubicRises", spec := "cubicRises", inPlace := ["math/bits.Add64"], named := ["math/bits.divideError", "math/bits.overflowError"], apart := false, narrowed := true }
def CubicRisesUptoSaid : Prop := cubicRisesUptoRow.holds Try.pinned (OpenSpec.upto cubicRisesSpec)

/-- 'splittallylaw22.CubicBack', WHERE WHAT IT READS IS OF BULK AT MOST 1048576: true; the input reads as it did. -/
def cubicBackUptoRow : OpenClaim := { program := "ytanebjapcpbdnaa", sum := "e374491eee04dcc3d949b609a8652daa8a3317c4528445818fc2d9bfb08ef931", func := "splittally/splittallylaw22.CubicBack", spec := "cubicBack", inPlace := ["math/bits.Add64"], named := ["math/bits.divideError", "math/bits.overflowError"], apart := false, narrowed := true }
def CubicBackUptoSaid : Prop := cubicBackUptoRow.holds Try.pinned (OpenSpec.upto cubicBackSpec)

/-- 'splittallylaw22.CubicGrows', WHERE WHAT IT READS IS OF BULK AT MOST 1048576: true; the input reads as it did. -/
def cubicGrowsUptoRow : OpenClaim := { program := "ytanebjapcpbdnaa", sum := "e374491eee04dcc3d949b609a8652daa8a3317c4528445818fc2d9bfb08ef931", func := "splittally/splittallylaw22.CubicGrows", spec := "cubicGrows", inPlace := ["math/bits.Add64"], named := ["math/bits.divideError", "math/bits.overflowError"], apart := false, narrowed := true }
def CubicGrowsUptoSaid : Prop := cubicGrowsUptoRow.holds Try.pinned (OpenSpec.upto cubicGrowsSpec)

/-- 'splittallylaw22.CubicPlays', WHERE WHAT IT READS IS OF BULK AT MOST 1048576: true; the input reads as it did. -/
def cubicPlaysUptoRow : OpenClaim := { program := "ytanebjapcpbdnaa", sum := "e374491eee04dcc3d949b609a8652daa8a3317c4528445818fc2d9bfb08ef931", func := "splittally/splittallylaw22.CubicPlays", spec := "cubicPlays", inPlace := ["math/bits.Add64"], named := ["math/bits.divideError", "math/bits.overflowError"], apart := false, narrowed := true }
def CubicPlaysUptoSaid : Prop := cubicPlaysUptoRow.holds Try.pinned (OpenSpec.upto cubicPlaysSpec)

/-- 'splittallylaw22.CubicHolds', WHERE WHAT IT READS IS OF BULK AT MOST 1048576: true; the input reads as it did. -/
def cubicHoldsUptoRow : OpenClaim := { program := "ytanebjapcpbdnaa", sum := "e374491eee04dcc3d949b609a8652daa8a3317c4528445818fc2d9bfb08ef931", func := "splittally/splittallylaw22.CubicHolds", spec := "cubicHolds", inPlace := ["math/bits.Add64"], named := ["math/bits.divideError", "math/bits.overflowError"], apart := false, narrowed := true }
def CubicHoldsUptoSaid : Prop := cubicHoldsUptoRow.holds Try.pinned (OpenSpec.upto cubicHoldsSpec)

end Rows
end Go.Proofs.Ytanebjapcpbdnaa
