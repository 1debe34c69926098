/-
  No cell of these rows narrows 'for every input' (looked for: loops, veiled, ifaces, maps, wideKeys, modest, calm, conditions, laid).
  DERIVED. THE GIVEN ROWS OF THIS SEAT. 11 by the template 'for every input the law returns true; each argument reads behind the call as it read before'; 0 by the template 'total and deterministic' (their statements: YtofggpmllfhgaaaTotals.lean).
  GIVEN WITH THE SEED: the statements are not yours to turn. If you find one false, say at which input.
  Laid BY PROGRAM, IN A SANDBOX (cutbox-rows.mjs): the forced cells as the released guide's own fill.sh prints them over the translation e6f5f3642f63dd2e… (all of the seat's roots in one cut). By AI agents, Wed Nov 11 2026. No macro, syntax, notation, axiom, sorry.
-/
import Derived.Test.YtofggpmllfhgaaaChecked
import GoSem.Claim
import GoSem.ClaimJoined
import GoSem.ClaimMapViews
import Derived.JoinedTies
import Derived.KernelRfl
namespace Go.Proofs.Ytofggpmllfhgaaa
/- THE CELL 'sum', in the pinned program and in every row, IS THE sha256 OF THE DUMP (.gsa) THAT YtofggpmllfhgaaaProg.lean LOADS. Nothing in Lean hashes anything: it is a label: what it is worth is what the hold of that sum in a sandbox is worth. -/
noncomputable def Try.pinned : Pinned := { name := "ytofggpmllfhgaaa", sum := "e6f5f3642f63dd2e98a77dba4b8917adf8f376c0226098567e6d9518eb98fb4f", checked := Try.checked }
namespace Rows
def none {H : Type} : Left H := { results := [], args := [] }

/-- 'splittallylaw8.HeadEncodes': WHATEVER THE INPUT: true; the input reads as it did. -/
def headEncodesSpec : ChangeSpec := { name := "headEncodes", fn := fun _ => fun
  | [d] => { results := [.lit (.bool true)], args := [d] }
  | _ => none }
def headEncodesRow : OpenClaim := { program := "ytofggpmllfhgaaa", sum := "e6f5f3642f63dd2e98a77dba4b8917adf8f376c0226098567e6d9518eb98fb4f", func := "splittally/splittallylaw8.HeadEncodes", spec := "headEncodes", apart := false }
def HeadEncodesSaid : Prop := headEncodesRow.holds Try.pinned (OpenSpec.ofChange headEncodesSpec)

/-- ITS FALSE NEIGHBOUR: 'it returns false'. Refute it at one input. -/
def headEncodesWrong : ChangeSpec := { name := "headEncodes", fn := fun _ => fun
  | [d] => { results := [.lit (.bool false)], args := [d] }
  | _ => none }
def HeadEncodesWrongFalsely : Prop := headEncodesRow.holds Try.pinned (OpenSpec.ofChange headEncodesWrong)

/-- 'splittallylaw8.HeadDecodes': WHATEVER THE INPUT: true; the input reads as it did. -/
def headDecodesSpec : ChangeSpec := { name := "headDecodes", fn := fun _ => fun
  | [d] => { results := [.lit (.bool true)], args := [d] }
  | _ => none }
def headDecodesRow : OpenClaim := { program := "ytofggpmllfhgaaa", sum := "e6f5f3642f63dd2e98a77dba4b8917adf8f376c0226098567e6d9518eb98fb4f", func := "splittally/splittallylaw8.HeadDecodes", spec := "headDecodes", apart := false }
def HeadDecodesSaid : Prop := headDecodesRow.holds Try.pinned (OpenSpec.ofChange headDecodesSpec)

/-- ITS FALSE NEIGHBOUR: 'it returns false'. Refute it at one input. -/
def headDecodesWrong : ChangeSpec := { name := "headDecodes", fn := fun _ => fun
  | [d] => { results := [.lit (.bool false)], args := [d] }
  | _ => none }
def HeadDecodesWrongFalsely : Prop := headDecodesRow.holds Try.pinned (OpenSpec.ofChange headDecodesWrong)

/-- 'splittallylaw8.HeadBack': WHATEVER THE INPUT: true; the input reads as it did. -/
def headBackSpec : ChangeSpec := { name := "headBack", fn := fun _ => fun
  | [d1, d2, d3, d4, d5, d6, d7] => { results := [.lit (.bool true)], args := [d1, d2, d3, d4, d5, d6, d7] }
  | _ => none }
def headBackRow : OpenClaim := { program := "ytofggpmllfhgaaa", sum := "e6f5f3642f63dd2e98a77dba4b8917adf8f376c0226098567e6d9518eb98fb4f", func := "splittally/splittallylaw8.HeadBack", spec := "headBack", apart := false }
def HeadBackSaid : Prop := headBackRow.holds Try.pinned (OpenSpec.ofChange headBackSpec)

/-- ITS FALSE NEIGHBOUR: 'it returns false'. Refute it at one input. -/
def headBackWrong : ChangeSpec := { name := "headBack", fn := fun _ => fun
  | [d1, d2, d3, d4, d5, d6, d7] => { results := [.lit (.bool false)], args := [d1, d2, d3, d4, d5, d6, d7] }
  | _ => none }
def HeadBackWrongFalsely : Prop := headBackRow.holds Try.pinned (OpenSpec.ofChange headBackWrong)

/-- 'splittallylaw8.HeadOne': WHATEVER THE INPUT: true; the input reads as it did. -/
def headOneSpec : ChangeSpec := { name := "headOne", fn := fun _ => fun
  | [d1, d2, d3, d4, d5, d6, d7] => { results := [.lit (.bool true)], args := [d1, d2, d3, d4, d5, d6, d7] }
  | _ => none }
def headOneRow : OpenClaim := { program := "ytofggpmllfhgaaa", sum := "e6f5f3642f63dd2e98a77dba4b8917adf8f376c0226098567e6d9518eb98fb4f", func := "splittally/splittallylaw8.HeadOne", spec := "headOne", apart := false }
def HeadOneSaid : Prop := headOneRow.holds Try.pinned (OpenSpec.ofChange headOneSpec)

/-- ITS FALSE NEIGHBOUR: 'it returns false'. Refute it at one input. -/
def headOneWrong : ChangeSpec := { name := "headOne", fn := fun _ => fun
  | [d1, d2, d3, d4, d5, d6, d7] => { results := [.lit (.bool false)], args := [d1, d2, d3, d4, d5, d6, d7] }
  | _ => none }
def HeadOneWrongFalsely : Prop := headOneRow.holds Try.pinned (OpenSpec.ofChange headOneWrong)

/-- 'splittallylaw8.HeadMarks': WHATEVER THE INPUT: true; the input reads as it did. -/
def headMarksSpec : ChangeSpec := { name := "headMarks", fn := fun _ => fun
  | [d1, d2, d3, d4, d5, d6] => { results := [.lit (.bool true)], args := [d1, d2, d3, d4, d5, d6] }
  | _ => none }
def headMarksRow : OpenClaim := { program := "ytofggpmllfhgaaa", sum := "e6f5f3642f63dd2e98a77dba4b8917adf8f376c0226098567e6d9518eb98fb4f", func := "splittally/splittallylaw8.HeadMarks", spec := "headMarks", apart := false }
def HeadMarksSaid : Prop := headMarksRow.holds Try.pinned (OpenSpec.ofChange headMarksSpec)

/-- ITS FALSE NEIGHBOUR: 'it returns false'. Refute it at one input. -/
def headMarksWrong : ChangeSpec := { name := "headMarks", fn := fun _ => fun
  | [d1, d2, d3, d4, d5, d6] => { results := [.lit (.bool false)], args := [d1, d2, d3, d4, d5, d6] }
  | _ => none }
def HeadMarksWrongFalsely : Prop := headMarksRow.holds Try.pinned (OpenSpec.ofChange headMarksWrong)

/-- 'splittallylaw8.HeadCoins': WHATEVER THE INPUT: true; the input reads as it did. -/
def headCoinsSpec : ChangeSpec := { name := "headCoins", fn := fun _ => fun
  | [d1, d2] => { results := [.lit (.bool true)], args := [d1, d2] }
  | _ => none }
def headCoinsRow : OpenClaim := { program := "ytofggpmllfhgaaa", sum := "e6f5f3642f63dd2e98a77dba4b8917adf8f376c0226098567e6d9518eb98fb4f", func := "splittally/splittallylaw8.HeadCoins", spec := "headCoins", apart := false }
def HeadCoinsSaid : Prop := headCoinsRow.holds Try.pinned (OpenSpec.ofChange headCoinsSpec)

/-- ITS FALSE NEIGHBOUR: 'it returns false'. Refute it at one input. -/
def headCoinsWrong : ChangeSpec := { name := "headCoins", fn := fun _ => fun
  | [d1, d2] => { results := [.lit (.bool false)], args := [d1, d2] }
  | _ => none }
def HeadCoinsWrongFalsely : Prop := headCoinsRow.holds Try.pinned (OpenSpec.ofChange headCoinsWrong)

/-- 'splittallylaw9.AckEncodes': WHATEVER THE INPUT: true; the input reads as it did. -/
def ackEncodesSpec : ChangeSpec := { name := "ackEncodes", fn := fun _ => fun
  | [d] => { results := [.lit (.bool true)], args := [d] }
  | _ => none }
def ackEncodesRow : OpenClaim := { program := "ytofggpmllfhgaaa", sum := "e6f5f3642f63dd2e98a77dba4b8917adf8f376c0226098567e6d9518eb98fb4f", func := "splittally/splittallylaw9.AckEncodes", spec := "ackEncodes", apart := false }
def AckEncodesSaid : Prop := ackEncodesRow.holds Try.pinned (OpenSpec.ofChange ackEncodesSpec)

/-- ITS FALSE NEIGHBOUR: 'it returns false'. Refute it at one input. -/
def ackEncodesWrong : ChangeSpec := { name := "ackEncodes", fn := fun _ => fun
  | [d] => { results := [.lit (.bool false)], args := [d] }
  | _ => none }
def AckEncodesWrongFalsely : Prop := ackEncodesRow.holds Try.pinned (OpenSpec.ofChange ackEncodesWrong)

/-- 'splittallylaw9.AckDecodes': WHATEVER THE INPUT: true; the input reads as it did. -/
def ackDecodesSpec : ChangeSpec := { name := "ackDecodes", fn := fun _ => fun
  | [d] => { results := [.lit (.bool true)], args := [d] }
  | _ => none }
def ackDecodesRow : OpenClaim := { program := "ytofggpmllfhgaaa", sum := "e6f5f3642f63dd2e98a77dba4b8917adf8f376c0226098567e6d9518eb98fb4f", func := "splittally/splittallylaw9.AckDecodes", spec := "ackDecodes", apart := false }
def AckDecodesSaid : Prop := ackDecodesRow.holds Try.pinned (OpenSpec.ofChange ackDecodesSpec)

/-- ITS FALSE NEIGHBOUR: 'it returns false'. Refute it at one input. -/
def ackDecodesWrong : ChangeSpec := { name := "ackDecodes", fn := fun _ => fun
  | [d] => { results := [.lit (.bool false)], args := [d] }
  | _ => none }
def AckDecodesWrongFalsely : Prop := ackDecodesRow.holds Try.pinned (OpenSpec.ofChange ackDecodesWrong)

/-- 'splittallylaw9.AckBack': WHATEVER THE INPUT: true; the input reads as it did. -/
def ackBackSpec : ChangeSpec := { name := "ackBack", fn := fun _ => fun
  | [d1, d2, d3, d4, d5, d6, d7] => { results := [.lit (.bool true)], args := [d1, d2, d3, d4, d5, d6, d7] }
  | _ => none }
def ackBackRow : OpenClaim := { program := "ytofggpmllfhgaaa", sum := "e6f5f3642f63dd2e98a77dba4b8917adf8f376c0226098567e6d9518eb98fb4f", func := "splittally/splittallylaw9.AckBack", spec := "ackBack", apart := false }
def AckBackSaid : Prop := ackBackRow.holds Try.pinned (OpenSpec.ofChange ackBackSpec)

/-- ITS FALSE NEIGHBOUR: 'it returns false'. Refute it at one input. -/
def ackBackWrong : ChangeSpec := { name := "ackBack", fn := fun _ => fun
  | [d1, d2, d3, d4, d5, d6, d7] => { results := [.lit (.bool false)], args := [d1, d2, d3, d4, d5, d6, d7] }
  | _ => none }
def AckBackWrongFalsely : Prop := ackBackRow.holds Try.pinned (OpenSpec.ofChange ackBackWrong)

/-- 'splittallylaw9.AckOne': WHATEVER THE INPUT: true; the input reads as it did. -/
def ackOneSpec : ChangeSpec := { name := "ackOne", fn := fun _ => fun
  | [d1, d2, d3, d4, d5, d6] => { results := [.lit (.bool true)], args := [d1, d2, d3, d4, d5, d6] }
  | _ => none }
def ackOneRow : OpenClaim := { program := "ytofggpmllfhgaaa", sum := "e6f5f3642f63dd2e98a77dba4b8917adf8f376c0226098567e6d9518eb98fb4f", func := "splittally/splittallylaw9.AckOne", spec := "ackOne", apart := false }
def AckOneSaid : Prop := ackOneRow.holds Try.pinned (OpenSpec.ofChange ackOneSpec)

/-- ITS FALSE NEIGHBOUR: 'it returns false'. Refute it at one input. -/
def ackOneWrong : ChangeSpec := { name := "ackOne", fn := fun _ => fun
  | [d1, d2, d3, d4, d5, d6] => { results := [.lit (.bool false)], args := [d1, d2, d3, d4, d5, d6] }
  | _ => none }
def AckOneWrongFalsely : Prop := ackOneRow.holds Try.pinned (OpenSpec.ofChange ackOneWrong)

/-- 'splittallylaw9.AckChallenges': WHATEVER THE INPUT: true; the input reads as it did. -/
def ackChallengesSpec : ChangeSpec := { name := "ackChallenges", fn := fun _ => fun
  | [d1, d2] => { results := [.lit (.bool true)], args := [d1, d2] }
  | _ => none }
def ackChallengesRow : OpenClaim := { program := "ytofggpmllfhgaaa", sum := "e6f5f3642f63dd2e98a77dba4b8917adf8f376c0226098567e6d9518eb98fb4f", func := "splittally/splittallylaw9.AckChallenges", spec := "ackChallenges", apart := false }
def AckChallengesSaid : Prop := ackChallengesRow.holds Try.pinned (OpenSpec.ofChange ackChallengesSpec)

/-- ITS FALSE NEIGHBOUR: 'it returns false'. Refute it at one input. -/
def ackChallengesWrong : ChangeSpec := { name := "ackChallenges", fn := fun _ => fun
  | [d1, d2] => { results := [.lit (.bool false)], args := [d1, d2] }
  | _ => none }
def AckChallengesWrongFalsely : Prop := ackChallengesRow.holds Try.pinned (OpenSpec.ofChange ackChallengesWrong)

/- THE SECOND FORM. 'bulk': how many values and letters a reading holds, each counted each time it is reached (what is shared counts as often as it is met; a slice's spare places count too). A statement '..UptoSaid' is the law's where the arguments, and the package variables that the reading takes, are together of bulk at most 1048576: NARROWER than '..Said'. Prove '..Said' where nothing that the law and all that it calls make is longer than what came in: it says more and counts as full. Else prove '..UptoSaid'. A law counts once. -/
mutual
def uptoBulk {H : Type} : DataW H → Nat
  | .lit (.string bytes) => bytes.length + 1
  | .lit _ => 1
  | .nil => 1
  | .ptr d => uptoBulk d + 1
  | .slice elems spare => uptoBulkAll elems + uptoBulkAll spare + 1
  | .agg parts => uptoBulkAll parts + 1
  | .iface _ d => uptoBulk d + 1
  | .map entries => uptoBulkEntries entries + 1
  | .held _ => 1
def uptoBulkAll {H : Type} : List (DataW H) → Nat
  | [] => 0
  | d :: r => uptoBulk d + uptoBulkAll r
def uptoBulkEntries {H : Type} : List (Lit × DataW H) → Nat
  | [] => 0
  | x :: r => uptoBulkEntry x + uptoBulkEntries r
def uptoBulkEntry {H : Type} : Lit × DataW H → Nat
  | (.string bytes, d) => bytes.length + uptoBulk d + 1
  | (_, d) => uptoBulk d + 1
 end
def uptoSmall : (H : Type) → List (DataW H) → Bool := fun _ ds => decide (uptoBulkAll ds ≤ 1048576)
def OpenSpec.upto (s : _root_.Go.ChangeSpec) : _root_.Go.OpenSpec := { _root_.Go.OpenSpec.ofChange s with cond := some uptoSmall }

/-- 'splittallylaw8.HeadEncodes', WHERE WHAT IT READS IS OF BULK AT MOST 1048576: true; the input reads as it did. -/
def headEncodesUptoRow : OpenClaim := { program := "ytofggpmllfhgaaa", sum := "e6f5f3642f63dd2e98a77dba4b8917adf8f376c0226098567e6d9518eb98fb4f", func := "splittally/splittallylaw8.HeadEncodes", spec := "headEncodes", apart := false, narrowed := true }
def HeadEncodesUptoSaid : Prop := headEncodesUptoRow.holds Try.pinned (OpenSpec.upto headEncodesSpec)

/-- 'splittallylaw8.HeadDecodes', WHERE WHAT IT READS IS OF BULK AT MOST 1048576: true; the input reads as it did. -/
def headDecodesUptoRow : OpenClaim := { program := "ytofggpmllfhgaaa", sum := "e6f5f3642f63dd2e98a77dba4b8917adf8f376c0226098567e6d9518eb98fb4f", func := "splittally/splittallylaw8.HeadDecodes", spec := "headDecodes", apart := false, narrowed := true }
def HeadDecodesUptoSaid : Prop := headDecodesUptoRow.holds Try.pinned (OpenSpec.upto headDecodesSpec)

/-- 'splittallylaw8.HeadBack', WHERE WHAT IT READS IS OF BULK AT MOST 1048576: true; the input reads as it did. -/
def headBackUptoRow : OpenClaim := { program := "ytofggpmllfhgaaa", sum := "e6f5f3642f63dd2e98a77dba4b8917adf8f376c0226098567e6d9518eb98fb4f", func := "splittally/splittallylaw8.HeadBack", spec := "headBack", apart := false, narrowed := true }
def HeadBackUptoSaid : Prop := headBackUptoRow.holds Try.pinned (OpenSpec.upto headBackSpec)

/-- 'splittallylaw8.HeadOne', WHERE WHAT IT READS IS OF BULK AT MOST 1048576: true; the input reads as it did. -/
def headOneUptoRow : OpenClaim := { program := "ytofggpmllfhgaaa", sum := "e6f5f3642f63dd2e98a77dba4b8917adf8f376c0226098567e6d9518eb98fb4f", func := "splittally/splittallylaw8.HeadOne", spec := "headOne", apart := false, narrowed := true }
def HeadOneUptoSaid : Prop := headOneUptoRow.holds Try.pinned (OpenSpec.upto headOneSpec)

/-- 'splittallylaw8.HeadMarks', WHERE WHAT IT READS IS OF BULK AT MOST 1048576: true; the input reads as it did. -/
def headMarksUptoRow : OpenClaim := { program := "ytofggpmllfhgaaa", sum := "e6f5f3642f63dd2e98a77dba4b8917adf8f376c0226098567e6d9518eb98fb4f", func := "splittally/splittallylaw8.HeadMarks", spec := "headMarks", apart := false, narrowed := true }
def HeadMarksUptoSaid : Prop := headMarksUptoRow.holds Try.pinned (OpenSpec.upto headMarksSpec)

/-- 'splittallylaw8.HeadCoins', WHERE WHAT IT READS IS OF BULK AT MOST 1048576: true; the input reads as it did. -/
def headCoinsUptoRow : OpenClaim := { program := "ytofggpmllfhgaaa", sum := "e6f5f3642f63dd2e98a77dba4b8917adf8f376c0226098567e6d9518eb98fb4f", func := "splittally/splittallylaw8.HeadCoins", spec := "headCoins", apart := false, narrowed := true }
def HeadCoinsUptoSaid : Prop := headCoinsUptoRow.holds Try.pinned (OpenSpec.upto headCoinsSpec)

/-- 'splittallylaw9.AckEncodes', WHERE WHAT IT READS IS OF BULK AT MOST 1048576: true; the input reads as it did. -/
def ackEncodesUptoRow : OpenClaim := { program := "ytofggpmllfhgaaa", sum := "e6f5f3642f63dd2e98a77dba4b8917adf8f376c0226098567e6d9518eb98fb4f", func := "splittally/splittallylaw9.AckEncodes", spec := "ackEncodes", apart := false, narrowed := true }
def AckEncodesUptoSaid : Prop := ackEncodesUptoRow.holds Try.pinned (OpenSpec.upto ackEncodesSpec)

/-- 'splittallylaw9.AckDecodes', WHERE WHAT IT READS IS OF BULK AT MOST 1048576: true; the input reads as it did. -/
def ackDecodesUptoRow : OpenClaim := { program := "ytofggpmllfhgaaa", sum := "e6f5f3642f63dd2e98a77dba4b8917adf8f376c0226098567e6d9518eb98fb4f", func := "splittally/splittallylaw9.AckDecodes", spec := "ackDecodes", apart := false, narrowed := true }
def AckDecodesUptoSaid : Prop := ackDecodesUptoRow.holds Try.pinned (OpenSpec.upto ackDecodesSpec)

/-- 'splittallylaw9.AckBack', WHERE WHAT IT READS IS OF BULK AT MOST 1048576: true; the input reads as it did. -/
def ackBackUptoRow : OpenClaim := { program := "ytofggpmllfhgaaa", sum := "e6f5f3642f63dd2e98a77dba4b8917adf8f376c0226098567e6d9518eb98fb4f", func := "splittally/splittallylaw9.AckBack", spec := "ackBack", apart := false, narrowed := true }
def AckBackUptoSaid : Prop := ackBackUptoRow.holds Try.pinned (OpenSpec.upto ackBackSpec)

/-- 'splittallylaw9.AckOne', WHERE WHAT IT READS IS OF BULK AT MOST 1048576: true; the input reads as it did. -/
def ackOneUptoRow : OpenClaim := { program := "ytofggpmllfhgaaa", sum := "e6f5f3642f63dd2e98a77dba4b8917adf8f376c0226098567e6d9518eb98fb4f", func := "splittally/splittallylaw9.AckOne", spec := "ackOne", apart := false, narrowed := true }
def AckOneUptoSaid : Prop := ackOneUptoRow.holds Try.pinned (OpenSpec.upto ackOneSpec)

/-- 'splittallylaw9.AckChallenges', WHERE WHAT IT READS IS OF BULK AT MOST 1048576: true; the input reads as it did. -/
def ackChallengesUptoRow : OpenClaim := { program := "ytofggpmllfhgaaa", sum := "e6f5f3642f63dd2e98a77dba4b8917adf8f376c0226098567e6d9518eb98fb4f", func := "splittally/splittallylaw9.AckChallenges", spec := "ackChallenges", apart := false, narrowed := true }
def AckChallengesUptoSaid : Prop := ackChallengesUptoRow.holds Try.pinned (OpenSpec.upto ackChallengesSpec)

end Rows
end Go.Proofs.Ytofggpmllfhgaaa
