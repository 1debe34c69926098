/-
  No cell of these rows narrows 'for every input' (looked for: loops, veiled, ifaces, maps, wideKeys, modest, calm, conditions, laid).
  DERIVED. THE GIVEN ROWS OF THIS SEAT. 15 by the template 'for every input the law returns true; each argument reads behind the call as it read before'; 0 by the template 'total and deterministic' (their statements: YtinbfjkonaohnaaTotals.lean).
  GIVEN WITH THE SEED: the statements are not yours to turn. If you find one false, say at which input.
  Laid BY PROGRAM, IN A SANDBOX (cutbox-rows.mjs): the forced cells as the released guide's own fill.sh prints them over the translation d06b783e8c1d6770… (all of the seat's roots in one cut). By AI agents, Wed Nov 11 2026. No macro, syntax, notation, axiom, sorry.
-/
import Derived.Test.YtinbfjkonaohnaaChecked
import GoSem.Claim
import GoSem.ClaimJoined
import GoSem.ClaimMapViews
import Derived.JoinedTies
import Derived.KernelRfl
namespace Go.Proofs.Ytinbfjkonaohnaa
/- THE CELL 'sum', in the pinned program and in every row, IS THE sha256 OF THE DUMP (.gsa) THAT YtinbfjkonaohnaaProg.lean LOADS. Nothing in Lean hashes anything: it is a label: what it is worth is what the hold of that sum in a sandbox is worth. -/
noncomputable def Try.pinned : Pinned := { name := "ytinbfjkonaohnaa", sum := "d06b783e8c1d677047db6799c74ac4ab5c732757d75577b58c588709e4ea89d2", checked := Try.checked }
namespace Rows
def none {H : Type} : Left H := { results := [], args := [] }

/-- 'splittallylaw11.ConfChecks': WHATEVER THE INPUT: true; the input reads as it did. -/
def confChecksSpec : ChangeSpec := { name := "confChecks", fn := fun _ => fun
  | [d] => { results := [.lit (.bool true)], args := [d] }
  | _ => none }
def confChecksRow : OpenClaim := { program := "ytinbfjkonaohnaa", sum := "d06b783e8c1d677047db6799c74ac4ab5c732757d75577b58c588709e4ea89d2", func := "splittally/splittallylaw11.ConfChecks", spec := "confChecks", apart := false }
def ConfChecksSaid : Prop := confChecksRow.holds Try.pinned (OpenSpec.ofChange confChecksSpec)

/-- ITS FALSE NEIGHBOUR: 'it returns false'. Refute it at one input. -/
def confChecksWrong : ChangeSpec := { name := "confChecks", fn := fun _ => fun
  | [d] => { results := [.lit (.bool false)], args := [d] }
  | _ => none }
def ConfChecksWrongFalsely : Prop := confChecksRow.holds Try.pinned (OpenSpec.ofChange confChecksWrong)

/-- 'splittallylaw11.ConfMade': WHATEVER THE INPUT: true; the input reads as it did. -/
def confMadeSpec : ChangeSpec := { name := "confMade", fn := fun _ => fun
  | [d] => { results := [.lit (.bool true)], args := [d] }
  | _ => none }
def confMadeRow : OpenClaim := { program := "ytinbfjkonaohnaa", sum := "d06b783e8c1d677047db6799c74ac4ab5c732757d75577b58c588709e4ea89d2", func := "splittally/splittallylaw11.ConfMade", spec := "confMade", apart := false }
def ConfMadeSaid : Prop := confMadeRow.holds Try.pinned (OpenSpec.ofChange confMadeSpec)

/-- ITS FALSE NEIGHBOUR: 'it returns false'. Refute it at one input. -/
def confMadeWrong : ChangeSpec := { name := "confMade", fn := fun _ => fun
  | [d] => { results := [.lit (.bool false)], args := [d] }
  | _ => none }
def ConfMadeWrongFalsely : Prop := confMadeRow.holds Try.pinned (OpenSpec.ofChange confMadeWrong)

/-- 'splittallylaw11.ConfTurns': WHATEVER THE INPUT: true; the input reads as it did. -/
def confTurnsSpec : ChangeSpec := { name := "confTurns", fn := fun _ => fun
  | [d1, d2, d3] => { results := [.lit (.bool true)], args := [d1, d2, d3] }
  | _ => none }
def confTurnsRow : OpenClaim := { program := "ytinbfjkonaohnaa", sum := "d06b783e8c1d677047db6799c74ac4ab5c732757d75577b58c588709e4ea89d2", func := "splittally/splittallylaw11.ConfTurns", spec := "confTurns", apart := false }
def ConfTurnsSaid : Prop := confTurnsRow.holds Try.pinned (OpenSpec.ofChange confTurnsSpec)

/-- ITS FALSE NEIGHBOUR: 'it returns false'. Refute it at one input. -/
def confTurnsWrong : ChangeSpec := { name := "confTurns", fn := fun _ => fun
  | [d1, d2, d3] => { results := [.lit (.bool false)], args := [d1, d2, d3] }
  | _ => none }
def ConfTurnsWrongFalsely : Prop := confTurnsRow.holds Try.pinned (OpenSpec.ofChange confTurnsWrong)

/-- 'splittallylaw11.ConfFree': WHATEVER THE INPUT: true; the input reads as it did. -/
def confFreeSpec : ChangeSpec := { name := "confFree", fn := fun _ => fun
  | [d1, d2, d3] => { results := [.lit (.bool true)], args := [d1, d2, d3] }
  | _ => none }
def confFreeRow : OpenClaim := { program := "ytinbfjkonaohnaa", sum := "d06b783e8c1d677047db6799c74ac4ab5c732757d75577b58c588709e4ea89d2", func := "splittally/splittallylaw11.ConfFree", spec := "confFree", apart := false }
def ConfFreeSaid : Prop := confFreeRow.holds Try.pinned (OpenSpec.ofChange confFreeSpec)

/-- ITS FALSE NEIGHBOUR: 'it returns false'. Refute it at one input. -/
def confFreeWrong : ChangeSpec := { name := "confFree", fn := fun _ => fun
  | [d1, d2, d3] => { results := [.lit (.bool false)], args := [d1, d2, d3] }
  | _ => none }
def ConfFreeWrongFalsely : Prop := confFreeRow.holds Try.pinned (OpenSpec.ofChange confFreeWrong)

/-- 'splittallylaw6.OctetBack': WHATEVER THE INPUT: true; the input reads as it did. -/
def octetBackSpec : ChangeSpec := { name := "octetBack", fn := fun _ => fun
  | [d1, d2, d3] => { results := [.lit (.bool true)], args := [d1, d2, d3] }
  | _ => none }
def octetBackRow : OpenClaim := { program := "ytinbfjkonaohnaa", sum := "d06b783e8c1d677047db6799c74ac4ab5c732757d75577b58c588709e4ea89d2", func := "splittally/splittallylaw6.OctetBack", spec := "octetBack", apart := false }
def OctetBackSaid : Prop := octetBackRow.holds Try.pinned (OpenSpec.ofChange octetBackSpec)

/-- ITS FALSE NEIGHBOUR: 'it returns false'. Refute it at one input. -/
def octetBackWrong : ChangeSpec := { name := "octetBack", fn := fun _ => fun
  | [d1, d2, d3] => { results := [.lit (.bool false)], args := [d1, d2, d3] }
  | _ => none }
def OctetBackWrongFalsely : Prop := octetBackRow.holds Try.pinned (OpenSpec.ofChange octetBackWrong)

/-- 'splittallylaw6.OctetOne': WHATEVER THE INPUT: true; the input reads as it did. -/
def octetOneSpec : ChangeSpec := { name := "octetOne", fn := fun _ => fun
  | [d] => { results := [.lit (.bool true)], args := [d] }
  | _ => none }
def octetOneRow : OpenClaim := { program := "ytinbfjkonaohnaa", sum := "d06b783e8c1d677047db6799c74ac4ab5c732757d75577b58c588709e4ea89d2", func := "splittally/splittallylaw6.OctetOne", spec := "octetOne", apart := false }
def OctetOneSaid : Prop := octetOneRow.holds Try.pinned (OpenSpec.ofChange octetOneSpec)

/-- ITS FALSE NEIGHBOUR: 'it returns false'. Refute it at one input. -/
def octetOneWrong : ChangeSpec := { name := "octetOne", fn := fun _ => fun
  | [d] => { results := [.lit (.bool false)], args := [d] }
  | _ => none }
def OctetOneWrongFalsely : Prop := octetOneRow.holds Try.pinned (OpenSpec.ofChange octetOneWrong)

/-- 'splittallylaw6.OctetOrder': WHATEVER THE INPUT: true; the input reads as it did. -/
def octetOrderSpec : ChangeSpec := { name := "octetOrder", fn := fun _ => fun
  | [d1, d2] => { results := [.lit (.bool true)], args := [d1, d2] }
  | _ => none }
def octetOrderRow : OpenClaim := { program := "ytinbfjkonaohnaa", sum := "d06b783e8c1d677047db6799c74ac4ab5c732757d75577b58c588709e4ea89d2", func := "splittally/splittallylaw6.OctetOrder", spec := "octetOrder", apart := false }
def OctetOrderSaid : Prop := octetOrderRow.holds Try.pinned (OpenSpec.ofChange octetOrderSpec)

/-- ITS FALSE NEIGHBOUR: 'it returns false'. Refute it at one input. -/
def octetOrderWrong : ChangeSpec := { name := "octetOrder", fn := fun _ => fun
  | [d1, d2] => { results := [.lit (.bool false)], args := [d1, d2] }
  | _ => none }
def OctetOrderWrongFalsely : Prop := octetOrderRow.holds Try.pinned (OpenSpec.ofChange octetOrderWrong)

/-- 'splittallylaw6.OctetWrites': WHATEVER THE INPUT: true; the input reads as it did. -/
def octetWritesSpec : ChangeSpec := { name := "octetWrites", fn := fun _ => fun
  | [d1, d2] => { results := [.lit (.bool true)], args := [d1, d2] }
  | _ => none }
def octetWritesRow : OpenClaim := { program := "ytinbfjkonaohnaa", sum := "d06b783e8c1d677047db6799c74ac4ab5c732757d75577b58c588709e4ea89d2", func := "splittally/splittallylaw6.OctetWrites", spec := "octetWrites", apart := false }
def OctetWritesSaid : Prop := octetWritesRow.holds Try.pinned (OpenSpec.ofChange octetWritesSpec)

/-- ITS FALSE NEIGHBOUR: 'it returns false'. Refute it at one input. -/
def octetWritesWrong : ChangeSpec := { name := "octetWrites", fn := fun _ => fun
  | [d1, d2] => { results := [.lit (.bool false)], args := [d1, d2] }
  | _ => none }
def OctetWritesWrongFalsely : Prop := octetWritesRow.holds Try.pinned (OpenSpec.ofChange octetWritesWrong)

/-- 'splittallylaw6.OctetReads': WHATEVER THE INPUT: true; the input reads as it did. -/
def octetReadsSpec : ChangeSpec := { name := "octetReads", fn := fun _ => fun
  | [d1, d2] => { results := [.lit (.bool true)], args := [d1, d2] }
  | _ => none }
def octetReadsRow : OpenClaim := { program := "ytinbfjkonaohnaa", sum := "d06b783e8c1d677047db6799c74ac4ab5c732757d75577b58c588709e4ea89d2", func := "splittally/splittallylaw6.OctetReads", spec := "octetReads", apart := false }
def OctetReadsSaid : Prop := octetReadsRow.holds Try.pinned (OpenSpec.ofChange octetReadsSpec)

/-- ITS FALSE NEIGHBOUR: 'it returns false'. Refute it at one input. -/
def octetReadsWrong : ChangeSpec := { name := "octetReads", fn := fun _ => fun
  | [d1, d2] => { results := [.lit (.bool false)], args := [d1, d2] }
  | _ => none }
def OctetReadsWrongFalsely : Prop := octetReadsRow.holds Try.pinned (OpenSpec.ofChange octetReadsWrong)

/-- 'splittallylaw2.WideMultiplies': WHATEVER THE INPUT: true; the input reads as it did. -/
def wideMultipliesSpec : ChangeSpec := { name := "wideMultiplies", fn := fun _ => fun
  | [d1, d2] => { results := [.lit (.bool true)], args := [d1, d2] }
  | _ => none }
def wideMultipliesRow : OpenClaim := { program := "ytinbfjkonaohnaa", sum := "d06b783e8c1d677047db6799c74ac4ab5c732757d75577b58c588709e4ea89d2", func := "splittally/splittallylaw2.WideMultiplies", spec := "wideMultiplies", named := ["math/bits.divideError", "math/bits.overflowError"], apart := false }
def WideMultipliesSaid : Prop := wideMultipliesRow.holds Try.pinned (OpenSpec.ofChange wideMultipliesSpec)

/-- ITS FALSE NEIGHBOUR: 'it returns false'. Refute it at one input. -/
def wideMultipliesWrong : ChangeSpec := { name := "wideMultiplies", fn := fun _ => fun
  | [d1, d2] => { results := [.lit (.bool false)], args := [d1, d2] }
  | _ => none }
def WideMultipliesWrongFalsely : Prop := wideMultipliesRow.holds Try.pinned (OpenSpec.ofChange wideMultipliesWrong)

/-- 'splittallylaw2.WideDivides': WHATEVER THE INPUT: true; the input reads as it did. -/
def wideDividesSpec : ChangeSpec := { name := "wideDivides", fn := fun _ => fun
  | [d1, d2, d3] => { results := [.lit (.bool true)], args := [d1, d2, d3] }
  | _ => none }
def wideDividesRow : OpenClaim := { program := "ytinbfjkonaohnaa", sum := "d06b783e8c1d677047db6799c74ac4ab5c732757d75577b58c588709e4ea89d2", func := "splittally/splittallylaw2.WideDivides", spec := "wideDivides", named := ["math/bits.divideError", "math/bits.overflowError"], apart := false }
def WideDividesSaid : Prop := wideDividesRow.holds Try.pinned (OpenSpec.ofChange wideDividesSpec)

/-- ITS FALSE NEIGHBOUR: 'it returns false'. Refute it at one input. -/
def wideDividesWrong : ChangeSpec := { name := "wideDivides", fn := fun _ => fun
  | [d1, d2, d3] => { results := [.lit (.bool false)], args := [d1, d2, d3] }
  | _ => none }
def WideDividesWrongFalsely : Prop := wideDividesRow.holds Try.pinned (OpenSpec.ofChange wideDividesWrong)

/-- 'splittallylaw2.WideBack': WHATEVER THE INPUT: true; the input reads as it did. -/
def wideBackSpec : ChangeSpec := { name := "wideBack", fn := fun _ => fun
  | [d1, d2, d3] => { results := [.lit (.bool true)], args := [d1, d2, d3] }
  | _ => none }
def wideBackRow : OpenClaim := { program := "ytinbfjkonaohnaa", sum := "d06b783e8c1d677047db6799c74ac4ab5c732757d75577b58c588709e4ea89d2", func := "splittally/splittallylaw2.WideBack", spec := "wideBack", named := ["math/bits.divideError", "math/bits.overflowError"], apart := false }
def WideBackSaid : Prop := wideBackRow.holds Try.pinned (OpenSpec.ofChange wideBackSpec)

/-- ITS FALSE NEIGHBOUR: 'it returns false'. Refute it at one input. -/
def wideBackWrong : ChangeSpec := { name := "wideBack", fn := fun _ => fun
  | [d1, d2, d3] => { results := [.lit (.bool false)], args := [d1, d2, d3] }
  | _ => none }
def WideBackWrongFalsely : Prop := wideBackRow.holds Try.pinned (OpenSpec.ofChange wideBackWrong)

/-- 'splittallylaw2.WideShares': WHATEVER THE INPUT: true; the input reads as it did. -/
def wideSharesSpec : ChangeSpec := { name := "wideShares", fn := fun _ => fun
  | [d1, d2, d3] => { results := [.lit (.bool true)], args := [d1, d2, d3] }
  | _ => none }
def wideSharesRow : OpenClaim := { program := "ytinbfjkonaohnaa", sum := "d06b783e8c1d677047db6799c74ac4ab5c732757d75577b58c588709e4ea89d2", func := "splittally/splittallylaw2.WideShares", spec := "wideShares", named := ["math/bits.divideError", "math/bits.overflowError"], apart := false }
def WideSharesSaid : Prop := wideSharesRow.holds Try.pinned (OpenSpec.ofChange wideSharesSpec)

/-- ITS FALSE NEIGHBOUR: 'it returns false'. Refute it at one input. -/
def wideSharesWrong : ChangeSpec := { name := "wideShares", fn := fun _ => fun
  | [d1, d2, d3] => { results := [.lit (.bool false)], args := [d1, d2, d3] }
  | _ => none }
def WideSharesWrongFalsely : Prop := wideSharesRow.holds Try.pinned (OpenSpec.ofChange wideSharesWrong)

/-- 'splittallylaw2.WideRounds': WHATEVER THE INPUT: true; the input reads as it did. -/
def wideRoundsSpec : ChangeSpec := { name := "wideRounds", fn := fun _ => fun
  | [d1, d2, d3] => { results := [.lit (.bool true)], args := [d1, d2, d3] }
  | _ => none }
def wideRoundsRow : OpenClaim := { program := "ytinbfjkonaohnaa", sum := "d06b783e8c1d677047db6799c74ac4ab5c732757d75577b58c588709e4ea89d2", func := "splittally/splittallylaw2.WideRounds", spec := "wideRounds", named := ["math/bits.divideError", "math/bits.overflowError"], apart := false }
def WideRoundsSaid : Prop := wideRoundsRow.holds Try.pinned (OpenSpec.ofChange wideRoundsSpec)

/-- ITS FALSE NEIGHBOUR: 'it returns false'. Refute it at one input. -/
def wideRoundsWrong : ChangeSpec := { name := "wideRounds", fn := fun _ => fun
  | [d1, d2, d3] => { results := [.lit (.bool false)], args := [d1, d2, d3] }
  | _ => none }
def WideRoundsWrongFalsely : Prop := wideRoundsRow.holds Try.pinned (OpenSpec.ofChange wideRoundsWrong)

/-- 'splittallylaw2.WideBetween': WHATEVER THE INPUT: true; the input reads as it did. -/
def wideBetweenSpec : ChangeSpec := { name := "wideBetween", fn := fun _ => fun
  | [d1, d2, d3, d4] => { results := [.lit (.bool true)], args := [d1, d2, d3, d4] }
  | _ => none }
def wideBetweenRow : OpenClaim := { program := "ytinbfjkonaohnaa", sum := "d06b783e8c1d677047db6799c74ac4ab5c732757d75577b58c588709e4ea89d2", func := "splittally/splittallylaw2.WideBetween", spec := "wideBetween", named := ["math/bits.divideError", "math/bits.overflowError"], apart := false }
def WideBetweenSaid : Prop := wideBetweenRow.holds Try.pinned (OpenSpec.ofChange wideBetweenSpec)

/-- ITS FALSE NEIGHBOUR: 'it returns false'. Refute it at one input. -/
def wideBetweenWrong : ChangeSpec := { name := "wideBetween", fn := fun _ => fun
  | [d1, d2, d3, d4] => { results := [.lit (.bool false)], args := [d1, d2, d3, d4] }
  | _ => none }
def WideBetweenWrongFalsely : Prop := wideBetweenRow.holds Try.pinned (OpenSpec.ofChange wideBetweenWrong)

/- THE SECOND FORM. 'bulk': how many values and letters a reading holds, each counted each time it is reached (what is shared counts as often as it is met; a slice's spare places count too). A statement '..UptoSaid' is the law's where the arguments, and the package variables that the reading takes, are together of bulk at most 1048576: NARROWER than '..Said'. Prove '..Said' where nothing that the law and all that it calls make is longer than what came in: it says more and counts as full. Else prove '..UptoSaid'. A law counts once. -/
mutual
def uptoBulk {H : Type} : DataW H → Nat
  | .lit (.string bytes) => bytes.length + 1
  | .lit _ => 1
  | .nil => 1
  | .ptr d => uptoBulk d + 1
  | .slice elems spare => uptoBulkAll elems + uptoBulkAll spare + 1
  | .agg parts => uptoBulkAll parts + 1
  | .iface _ d => uptoBulk d + 1
  | .map entries => uptoBulkEntries entries + 1
  | .held _ => 1
def uptoBulkAll {H : Type} : List (DataW H) → Nat
  | [] => 0
  | d :: r => uptoBulk d + uptoBulkAll r
def uptoBulkEntries {H : Type} : List (Lit × DataW H) → Nat
  | [] => 0
  | x :: r => uptoBulkEntry x + uptoBulkEntries r
def uptoBulkEntry {H : Type} : Lit × DataW H → Nat
  | (.string bytes, d) => bytes.length + uptoBulk d + 1
  | (_, d) => uptoBulk d + 1
 end
def uptoSmall : (H : Type) → List (DataW H) → Bool := fun _ ds => decide (uptoBulkAll ds ≤ 1048576)
def OpenSpec.upto (s : _root_.Go.ChangeSpec) : _root_.Go.OpenSpec := { _root_.Go.OpenSpec.ofChange s with cond := some uptoSmall }

/-- 'splittallylaw11.ConfChecks', WHERE WHAT IT READS IS OF BULK AT MOST 1048576: true; the input reads as it did. -/
def confChecksUptoRow : OpenClaim := { program := "ytinbfjkonaohnaa", sum := "d06b783e8c1d677047db6799c74ac4ab5c732757d75577b58c588709e4ea89d2", func := "splittally/splittallylaw11.ConfChecks", spec := "confChecks", apart := false, narrowed := true }
def ConfChecksUptoSaid : Prop := confChecksUptoRow.holds Try.pinned (OpenSpec.upto confChecksSpec)

/-- 'splittallylaw11.ConfMade', WHERE WHAT IT READS IS OF BULK AT MOST 1048576: true; the input reads as it did. -/
def confMadeUptoRow : OpenClaim := { program := "ytinbfjkonaohnaa", sum := "d06b783e8c1d677047db6799c74ac4ab5c732757d75577b58c588709e4ea89d2", func := "splittally/splittallylaw11.ConfMade", spec := "confMade", apart := false, narrowed := true }
def ConfMadeUptoSaid : Prop := confMadeUptoRow.holds Try.pinned (OpenSpec.upto confMadeSpec)

/-- 'splittallylaw11.ConfTurns', WHERE WHAT IT READS IS OF BULK AT MOST 1048576: true; the input reads as it did. -/
def confTurnsUptoRow : OpenClaim := { program := "ytinbfjkonaohnaa", sum := "d06b783e8c1d677047db6799c74ac4ab5c732757d75577b58c588709e4ea89d2", func := "splittally/splittallylaw11.ConfTurns", spec := "confTurns", apart := false, narrowed := true }
def ConfTurnsUptoSaid : Prop := confTurnsUptoRow.holds Try.pinned (OpenSpec.upto confTurnsSpec)

/-- 'splittallylaw11.ConfFree', WHERE WHAT IT READS IS OF BULK AT MOST 1048576: true; the input reads as it did. -/
def confFreeUptoRow : OpenClaim := { program := "ytinbfjkonaohnaa", sum := "d06b783e8c1d677047db6799c74ac4ab5c732757d75577b58c588709e4ea89d2", func := "splittally/splittallylaw11.ConfFree", spec := "confFree", apart := false, narrowed := true }
def ConfFreeUptoSaid : Prop := confFreeUptoRow.holds Try.pinned (OpenSpec.upto confFreeSpec)

/-- 'splittallylaw6.OctetBack', WHERE WHAT IT READS IS OF BULK AT MOST 1048576: true; the input reads as it did. -/
def octetBackUptoRow : OpenClaim := { program := "ytinbfjkonaohnaa", sum := "d06b783e8c1d677047db6799c74ac4ab5c732757d75577b58c588709e4ea89d2", func := "splittally/splittallylaw6.OctetBack", spec := "octetBack", apart := false, narrowed := true }
def OctetBackUptoSaid : Prop := octetBackUptoRow.holds Try.pinned (OpenSpec.upto octetBackSpec)

/-- 'splittallylaw6.OctetOne', WHERE WHAT IT READS IS OF BULK AT MOST 1048576: true; the input reads as it did. -/
def octetOneUptoRow : OpenClaim := { program := "ytinbfjkonaohnaa", sum := "d06b783e8c1d677047db6799c74ac4ab5c732757d75577b58c588709e4ea89d2", func := "splittally/splittallylaw6.OctetOne", spec := "octetOne", apart := false, narrowed := true }
def OctetOneUptoSaid : Prop := octetOneUptoRow.holds Try.pinned (OpenSpec.upto octetOneSpec)

/-- 'splittallylaw6.OctetOrder', WHERE WHAT IT READS IS OF BULK AT MOST 1048576: true; the input reads as it did. -/
def octetOrderUptoRow : OpenClaim := { program := "ytinbfjkonaohnaa", sum := "d06b783e8c1d677047db6799c74ac4ab5c732757d75577b58c588709e4ea89d2", func := "splittally/splittallylaw6.OctetOrder", spec := "octetOrder", apart := false, narrowed := true }
def OctetOrderUptoSaid : Prop := octetOrderUptoRow.holds Try.pinned (OpenSpec.upto octetOrderSpec)

/-- 'splittallylaw6.OctetWrites', WHERE WHAT IT READS IS OF BULK AT MOST 1048576: true; the input reads as it did. -/
def octetWritesUptoRow : OpenClaim := { program := "ytinbfjkonaohnaa", sum := "d06b783e8c1d677047db6799c74ac4ab5c732757d75577b58c588709e4ea89d2", func := "splittally/splittallylaw6.OctetWrites", spec := "octetWrites", apart := false, narrowed := true }
def OctetWritesUptoSaid : Prop := octetWritesUptoRow.holds Try.pinned (OpenSpec.upto octetWritesSpec)

/-- 'splittallylaw6.OctetReads', WHERE WHAT IT READS IS OF BULK AT MOST 1048576: true; the input reads as it did. -/
def octetReadsUptoRow : OpenClaim := { program := "ytinbfjkonaohnaa", sum := "d06b783e8c1d677047db6799c74ac4ab5c732757d75577b58c588709e4ea89d2", func := "splittally/splittallylaw6.OctetReads", spec := "octetReads", apart := false, narrowed := true }
def OctetReadsUptoSaid : Prop := octetReadsUptoRow.holds Try.pinned (OpenSpec.upto octetReadsSpec)

/-- 'splittallylaw2.WideMultiplies', WHERE WHAT IT READS IS OF BULK AT MOST 1048576: true; the input reads as it did. -/
def wideMultipliesUptoRow : OpenClaim := { program := "ytinbfjkonaohnaa", sum := "d06b783e8c1d677047db6799c74ac4ab5c732757d75577b58c588709e4ea89d2", func := "splittally/splittallylaw2.WideMultiplies", spec := "wideMultiplies", named := ["math/bits.divideError", "math/bits.overflowError"], apart := false, narrowed := true }
def WideMultipliesUptoSaid : Prop := wideMultipliesUptoRow.holds Try.pinned (OpenSpec.upto wideMultipliesSpec)

/-- 'splittallylaw2.WideDivides', WHERE WHAT IT READS IS OF BULK AT MOST 1048576: true; the input reads as it did. -/
def wideDividesUptoRow : OpenClaim := { program := "ytinbfjkonaohnaa", sum := "d06b783e8c1d677047db6799c74ac4ab5c732757d75577b58c588709e4ea89d2", func := "splittally/splittallylaw2.WideDivides", spec := "wideDivides", named := ["math/bits.divideError", "math/bits.overflowError"], apart := false, narrowed := true }
def WideDividesUptoSaid : Prop := wideDividesUptoRow.holds Try.pinned (OpenSpec.upto wideDividesSpec)

/-- 'splittallylaw2.WideBack', WHERE WHAT IT READS IS OF BULK AT MOST 1048576: true; the input reads as it did. -/
def wideBackUptoRow : OpenClaim := { program := "ytinbfjkonaohnaa", sum := "d06b783e8c1d677047db6799c74ac4ab5c732757d75577b58c588709e4ea89d2", func := "splittally/splittallylaw2.WideBack", spec := "wideBack", named := ["math/bits.divideError", "math/bits.overflowError"], apart := false, narrowed := true }
def WideBackUptoSaid : Prop := wideBackUptoRow.holds Try.pinned (OpenSpec.upto wideBackSpec)

/-- 'splittallylaw2.WideShares', WHERE WHAT IT READS IS OF BULK AT MOST 1048576: true; the input reads as it did. -/
def wideSharesUptoRow : OpenClaim := { program := "ytinbfjkonaohnaa", sum := "d06b783e8c1d677047db6799c74ac4ab5c732757d75577b58c588709e4ea89d2", func := "splittally/splittallylaw2.WideShares", spec := "wideShares", named := ["math/bits.divideError", "math/bits.overflowError"], apart := false, narrowed := true }
def WideSharesUptoSaid : Prop := wideSharesUptoRow.holds Try.pinned (OpenSpec.upto wideSharesSpec)

/-- 'splittallylaw2.WideRounds', WHERE WHAT IT READS IS OF BULK AT MOST 1048576: true; the input reads as it did. -/
def wideRoundsUptoRow : OpenClaim := { program := "ytinbfjkonaohnaa", sum := "d06b783e8c1d677047db6799c74ac4ab5c732757d75577b58c588709e4ea89d2", func := "splittally/splittallylaw2.WideRounds", spec := "wideRounds", named := ["math/bits.divideError", "math/bits.overflowError"], apart := false, narrowed := true }
def WideRoundsUptoSaid : Prop := wideRoundsUptoRow.holds Try.pinned (OpenSpec.upto wideRoundsSpec)

/-- 'splittallylaw2.WideBetween', WHERE WHAT IT READS IS OF BULK AT MOST 1048576: true; the input reads as it did. -/
def wideBetweenUptoRow : OpenClaim := { program := "ytinbfjkonaohnaa", sum := "d06b783e8c1d677047db6799c74ac4ab5c732757d75577b58c588709e4ea89d2", func := "splittally/splittallylaw2.WideBetween", spec := "wideBetween", named := ["math/bits.divideError", "math/bits.overflowError"], apart := false, narrowed := true }
def WideBetweenUptoSaid : Prop := wideBetweenUptoRow.holds Try.pinned (OpenSpec.upto wideBetweenSpec)

end Rows
end Go.Proofs.Ytinbfjkonaohnaa
