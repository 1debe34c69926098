/-
  No cell of these rows narrows 'for every input' (looked for: loops, veiled, ifaces, maps, wideKeys, modest, calm, conditions, laid).
  DERIVED. THE GIVEN ROWS OF THIS SEAT. 12 by the template 'for every input the law returns true; each argument reads behind the call as it read before'; 0 by the template 'total and deterministic' (their statements: YtikkmdbaekdolaaTotals.lean).
  GIVEN WITH THE SEED: the statements are not yours to turn. If you find one false, say at which input.
  Laid BY PROGRAM, IN A SANDBOX (cutbox-rows.mjs): the forced cells as the released guide's own fill.sh prints them over the translation 2030560c9c3f2f45… (all of the seat's roots in one cut). By AI agents, Wed Nov 11 2026. No macro, syntax, notation, axiom, sorry.
-/
import Derived.Test.YtikkmdbaekdolaaChecked
import GoSem.Claim
import GoSem.ClaimJoined
import GoSem.ClaimMapViews
import Derived.JoinedTies
import Derived.KernelRfl
namespace Go.Proofs.Ytikkmdbaekdolaa
/- THE CELL 'sum', in the pinned program and in every row, IS THE sha256 OF THE DUMP (.gsa) THAT YtikkmdbaekdolaaProg.lean LOADS. Nothing in Lean hashes anything: it is a label: what it is worth is what the hold of that sum in a sandbox is worth. -/
noncomputable def Try.pinned : Pinned := { name := "ytikkmdbaekdolaa", sum := "2030560c9c3f2f453fb8c2bfa862b8f7f56adea49dfd4108bd649093e280c544", checked := Try.checked }
namespace Rows
def none {H : Type} : Left H := { results := [], args := [] }

/-- 'splittallylaw23.ControlCuts': WHATEVER THE INPUT: true; the input reads as it did. -/
def controlCutsSpec : ChangeSpec := { name := "controlCuts", fn := fun _ => fun
  | [d1, d2, d3, d4, d5] => { results := [.lit (.bool true)], args := [d1, d2, d3, d4, d5] }
  | _ => none }
def controlCutsRow : OpenClaim := { program := "ytikkmdbaekdolaa", sum := "2030560c9c3f2f453fb8c2bfa862b8f7f56adea49dfd4108bd649093e280c544", func := "splittally/splittallylaw23.ControlCuts", spec := "controlCuts", named := ["math/bits.divideError", "math/bits.overflowError"], apart := false }
def ControlCutsSaid : Prop := controlCutsRow.holds Try.pinned (OpenSpec.ofChange controlCutsSpec)

/-- ITS FALSE NEIGHBOUR: 'it returns false'. Refute it at one input. -/
def controlCutsWrong : ChangeSpec := { name := "controlCuts", fn := fun _ => fun
  | [d1, d2, d3, d4, d5] => { results := [.lit (.bool false)], args := [d1, d2, d3, d4, d5] }
  | _ => none }
def ControlCutsWrongFalsely : Prop := controlCutsRow.holds Try.pinned (OpenSpec.ofChange controlCutsWrong)

/-- 'splittallylaw23.ControlOnce': WHATEVER THE INPUT: true; the input reads as it did. -/
def controlOnceSpec : ChangeSpec := { name := "controlOnce", fn := fun _ => fun
  | [d1, d2, d3, d4, d5] => { results := [.lit (.bool true)], args := [d1, d2, d3, d4, d5] }
  | _ => none }
def controlOnceRow : OpenClaim := { program := "ytikkmdbaekdolaa", sum := "2030560c9c3f2f453fb8c2bfa862b8f7f56adea49dfd4108bd649093e280c544", func := "splittally/splittallylaw23.ControlOnce", spec := "controlOnce", named := ["math/bits.divideError", "math/bits.overflowError"], apart := false }
def ControlOnceSaid : Prop := controlOnceRow.holds Try.pinned (OpenSpec.ofChange controlOnceSpec)

/-- ITS FALSE NEIGHBOUR: 'it returns false'. Refute it at one input. -/
def controlOnceWrong : ChangeSpec := { name := "controlOnce", fn := fun _ => fun
  | [d1, d2, d3, d4, d5] => { results := [.lit (.bool false)], args := [d1, d2, d3, d4, d5] }
  | _ => none }
def ControlOnceWrongFalsely : Prop := controlOnceRow.holds Try.pinned (OpenSpec.ofChange controlOnceWrong)

/-- 'splittallylaw28.PathClean': WHATEVER THE INPUT: true; the input reads as it did. -/
def pathCleanSpec : ChangeSpec := { name := "pathClean", fn := fun _ => fun
  | [d] => { results := [.lit (.bool true)], args := [d] }
  | _ => none }
def pathCleanRow : OpenClaim := { program := "ytikkmdbaekdolaa", sum := "2030560c9c3f2f453fb8c2bfa862b8f7f56adea49dfd4108bd649093e280c544", func := "splittally/splittallylaw28.PathClean", spec := "pathClean", inPlace := ["math/bits.Add64"], apart := false }
def PathCleanSaid : Prop := pathCleanRow.holds Try.pinned (OpenSpec.ofChange pathCleanSpec)

/-- ITS FALSE NEIGHBOUR: 'it returns false'. Refute it at one input. -/
def pathCleanWrong : ChangeSpec := { name := "pathClean", fn := fun _ => fun
  | [d] => { results := [.lit (.bool false)], args := [d] }
  | _ => none }
def PathCleanWrongFalsely : Prop := pathCleanRow.holds Try.pinned (OpenSpec.ofChange pathCleanWrong)

/-- 'splittallylaw28.PathAsks': WHATEVER THE INPUT: true; the input reads as it did. -/
def pathAsksSpec : ChangeSpec := { name := "pathAsks", fn := fun _ => fun
  | [d1, d2, d3, d4] => { results := [.lit (.bool true)], args := [d1, d2, d3, d4] }
  | _ => none }
def pathAsksRow : OpenClaim := { program := "ytikkmdbaekdolaa", sum := "2030560c9c3f2f453fb8c2bfa862b8f7f56adea49dfd4108bd649093e280c544", func := "splittally/splittallylaw28.PathAsks", spec := "pathAsks", inPlace := ["math/bits.Add64"], apart := false }
def PathAsksSaid : Prop := pathAsksRow.holds Try.pinned (OpenSpec.ofChange pathAsksSpec)

/-- ITS FALSE NEIGHBOUR: 'it returns false'. Refute it at one input. -/
def pathAsksWrong : ChangeSpec := { name := "pathAsks", fn := fun _ => fun
  | [d1, d2, d3, d4] => { results := [.lit (.bool false)], args := [d1, d2, d3, d4] }
  | _ => none }
def PathAsksWrongFalsely : Prop := pathAsksRow.holds Try.pinned (OpenSpec.ofChange pathAsksWrong)

/-- 'splittallylaw28.PathForks': WHATEVER THE INPUT: true; the input reads as it did. -/
def pathForksSpec : ChangeSpec := { name := "pathForks", fn := fun _ => fun
  | [d1, d2, d3] => { results := [.lit (.bool true)], args := [d1, d2, d3] }
  | _ => none }
def pathForksRow : OpenClaim := { program := "ytikkmdbaekdolaa", sum := "2030560c9c3f2f453fb8c2bfa862b8f7f56adea49dfd4108bd649093e280c544", func := "splittally/splittallylaw28.PathForks", spec := "pathForks", inPlace := ["math/bits.Add64"], apart := false }
def PathForksSaid : Prop := pathForksRow.holds Try.pinned (OpenSpec.ofChange pathForksSpec)

/-- ITS FALSE NEIGHBOUR: 'it returns false'. Refute it at one input. -/
def pathForksWrong : ChangeSpec := { name := "pathForks", fn := fun _ => fun
  | [d1, d2, d3] => { results := [.lit (.bool false)], args := [d1, d2, d3] }
  | _ => none }
def PathForksWrongFalsely : Prop := pathForksRow.holds Try.pinned (OpenSpec.ofChange pathForksWrong)

/-- 'splittallylaw23.ControlAcks': WHATEVER THE INPUT: true; the input reads as it did. -/
def controlAcksSpec : ChangeSpec := { name := "controlAcks", fn := fun _ => fun
  | [d1, d2, d3, d4, d5, d6] => { results := [.lit (.bool true)], args := [d1, d2, d3, d4, d5, d6] }
  | _ => none }
def controlAcksRow : OpenClaim := { program := "ytikkmdbaekdolaa", sum := "2030560c9c3f2f453fb8c2bfa862b8f7f56adea49dfd4108bd649093e280c544", func := "splittally/splittallylaw23.ControlAcks", spec := "controlAcks", inPlace := ["math/bits.Add64"], named := ["math/bits.divideError", "math/bits.overflowError"], apart := false }
def ControlAcksSaid : Prop := controlAcksRow.holds Try.pinned (OpenSpec.ofChange controlAcksSpec)

/-- ITS FALSE NEIGHBOUR: 'it returns false'. Refute it at one input. -/
def controlAcksWrong : ChangeSpec := { name := "controlAcks", fn := fun _ => fun
  | [d1, d2, d3, d4, d5, d6] => { results := [.lit (.bool false)], args := [d1, d2, d3, d4, d5, d6] }
  | _ => none }
def ControlAcksWrongFalsely : Prop := controlAcksRow.holds Try.pinned (OpenSpec.ofChange controlAcksWrong)

/-- 'splittallylaw23.ControlPlays': WHATEVER THE INPUT: true; the input reads as it did. -/
def controlPlaysSpec : ChangeSpec := { name := "controlPlays", fn := fun _ => fun
  | [d1, d2] => { results := [.lit (.bool true)], args := [d1, d2] }
  | _ => none }
def controlPlaysRow : OpenClaim := { program := "ytikkmdbaekdolaa", sum := "2030560c9c3f2f453fb8c2bfa862b8f7f56adea49dfd4108bd649093e280c544", func := "splittally/splittallylaw23.ControlPlays", spec := "controlPlays", inPlace := ["math/bits.Add64"], named := ["math/bits.divideError", "math/bits.overflowError"], apart := false }
def ControlPlaysSaid : Prop := controlPlaysRow.holds Try.pinned (OpenSpec.ofChange controlPlaysSpec)

/-- ITS FALSE NEIGHBOUR: 'it returns false'. Refute it at one input. -/
def controlPlaysWrong : ChangeSpec := { name := "controlPlays", fn := fun _ => fun
  | [d1, d2] => { results := [.lit (.bool false)], args := [d1, d2] }
  | _ => none }
def ControlPlaysWrongFalsely : Prop := controlPlaysRow.holds Try.pinned (OpenSpec.ofChange controlPlaysWrong)

/-- 'splittallylaw30.JudgeHonest': WHATEVER THE INPUT: true; the input reads as it did. -/
def judgeHonestSpec : ChangeSpec := { name := "judgeHonest", fn := fun _ => fun
  | [d1, d2, d3, d4, d5] => { results := [.lit (.bool true)], args := [d1, d2, d3, d4, d5] }
  | _ => none }
def judgeHonestRow : OpenClaim := { program := "ytikkmdbaekdolaa", sum := "2030560c9c3f2f453fb8c2bfa862b8f7f56adea49dfd4108bd649093e280c544", func := "splittally/splittallylaw30.JudgeHonest", spec := "judgeHonest", inPlace := ["math/bits.Add64"], named := ["math/bits.divideError", "math/bits.overflowError"], apart := false }
def JudgeHonestSaid : Prop := judgeHonestRow.holds Try.pinned (OpenSpec.ofChange judgeHonestSpec)

/-- ITS FALSE NEIGHBOUR: 'it returns false'. Refute it at one input. -/
def judgeHonestWrong : ChangeSpec := { name := "judgeHonest", fn := fun _ => fun
  | [d1, d2, d3, d4, d5] => { results := [.lit (.bool false)], args := [d1, d2, d3, d4, d5] }
  | _ => none }
def JudgeHonestWrongFalsely : Prop := judgeHonestRow.holds Try.pinned (OpenSpec.ofChange judgeHonestWrong)

/-- 'splittallylaw30.JudgeHarms': WHATEVER THE INPUT: true; the input reads as it did. -/
def judgeHarmsSpec : ChangeSpec := { name := "judgeHarms", fn := fun _ => fun
  | [d1, d2, d3, d4, d5] => { results := [.lit (.bool true)], args := [d1, d2, d3, d4, d5] }
  | _ => none }
def judgeHarmsRow : OpenClaim := { program := "ytikkmdbaekdolaa", sum := "2030560c9c3f2f453fb8c2bfa862b8f7f56adea49dfd4108bd649093e280c544", func := "splittally/splittallylaw30.JudgeHarms", spec := "judgeHarms", inPlace := ["math/bits.Add64"], named := ["math/bits.divideError", "math/bits.overflowError"], apart := false }
def JudgeHarmsSaid : Prop := judgeHarmsRow.holds Try.pinned (OpenSpec.ofChange judgeHarmsSpec)

/-- ITS FALSE NEIGHBOUR: 'it returns false'. Refute it at one input. -/
def judgeHarmsWrong : ChangeSpec := { name := "judgeHarms", fn := fun _ => fun
  | [d1, d2, d3, d4, d5] => { results := [.lit (.bool false)], args := [d1, d2, d3, d4, d5] }
  | _ => none }
def JudgeHarmsWrongFalsely : Prop := judgeHarmsRow.holds Try.pinned (OpenSpec.ofChange judgeHarmsWrong)

/-- 'splittallylaw30.JudgeCounts': WHATEVER THE INPUT: true; the input reads as it did. -/
def judgeCountsSpec : ChangeSpec := { name := "judgeCounts", fn := fun _ => fun
  | [d1, d2, d3, d4] => { results := [.lit (.bool true)], args := [d1, d2, d3, d4] }
  | _ => none }
def judgeCountsRow : OpenClaim := { program := "ytikkmdbaekdolaa", sum := "2030560c9c3f2f453fb8c2bfa862b8f7f56adea49dfd4108bd649093e280c544", func := "splittally/splittallylaw30.JudgeCounts", spec := "judgeCounts", inPlace := ["math/bits.Add64"], named := ["math/bits.divideError", "math/bits.overflowError"], apart := false }
def JudgeCountsSaid : Prop := judgeCountsRow.holds Try.pinned (OpenSpec.ofChange judgeCountsSpec)

/-- ITS FALSE NEIGHBOUR: 'it returns false'. Refute it at one input. -/
def judgeCountsWrong : ChangeSpec := { name := "judgeCounts", fn := fun _ => fun
  | [d1, d2, d3, d4] => { results := [.lit (.bool false)], args := [d1, d2, d3, d4] }
  | _ => none }
def JudgeCountsWrongFalsely : Prop := judgeCountsRow.holds Try.pinned (OpenSpec.ofChange judgeCountsWrong)

/-- 'splittallylaw30.JudgePaces': WHATEVER THE INPUT: true; the input reads as it did. -/
def judgePacesSpec : ChangeSpec := { name := "judgePaces", fn := fun _ => fun
  | [d1, d2, d3, d4] => { results := [.lit (.bool true)], args := [d1, d2, d3, d4] }
  | _ => none }
def judgePacesRow : OpenClaim := { program := "ytikkmdbaekdolaa", sum := "2030560c9c3f2f453fb8c2bfa862b8f7f56adea49dfd4108bd649093e280c544", func := "splittally/splittallylaw30.JudgePaces", spec := "judgePaces", inPlace := ["math/bits.Add64"], named := ["math/bits.divideError", "math/bits.overflowError"], apart := false }
def JudgePacesSaid : Prop := judgePacesRow.holds Try.pinned (OpenSpec.ofChange judgePacesSpec)

/-- ITS FALSE NEIGHBOUR: 'it returns false'. Refute it at one input. -/
def judgePacesWrong : ChangeSpec := { name := "judgePaces", fn := fun _ => fun
  | [d1, d2, d3, d4] => { results := [.lit (.bool false)], args := [d1, d2, d3, d4] }
  | _ => none }
def JudgePacesWrongFalsely : Prop := judgePacesRow.holds Try.pinned (OpenSpec.ofChange judgePacesWrong)

/-- 'splittallylaw30.JudgeTimes': WHATEVER THE INPUT: true; the input reads as it did. -/
def judgeTimesSpec : ChangeSpec := { name := "judgeTimes", fn := fun _ => fun
  | [d1, d2, d3, d4, d5] => { results := [.lit (.bool true)], args := [d1, d2, d3, d4, d5] }
  | _ => none }
def judgeTimesRow : OpenClaim := { program := "ytikkmdbaekdolaa", sum := "2030560c9c3f2f453fb8c2bfa862b8f7f56adea49dfd4108bd649093e280c544", func := "splittally/splittallylaw30.JudgeTimes", spec := "judgeTimes", inPlace := ["math/bits.Add64"], named := ["math/bits.divideError", "math/bits.overflowError"], apart := false }
def JudgeTimesSaid : Prop := judgeTimesRow.holds Try.pinned (OpenSpec.ofChange judgeTimesSpec)

/-- ITS FALSE NEIGHBOUR: 'it returns false'. Refute it at one input. -/
def judgeTimesWrong : ChangeSpec := { name := "judgeTimes", fn := fun _ => fun
  | [d1, d2, d3, d4, d5] => { results := [.lit (.bool false)], args := [d1, d2, d3, d4, d5] }
  | _ => none }
def JudgeTimesWrongFalsely : Prop := judgeTimesRow.holds Try.pinned (OpenSpec.ofChange judgeTimesWrong)

/- THE SECOND FORM. 'bulk': how many values and letters a reading holds, each counted each time it is reached (what is shared counts as often as it is met; a slice's spare places count too). A statement '..UptoSaid' is the law's where the arguments, and the package variables that the reading takes, are together of bulk at most 1048576: NARROWER than '..Said'. Prove '..Said' where nothing that the law and all that it calls make is longer than what came in: it says more and counts as full. Else prove '..UptoSaid'. A law counts once. -/
mutual
def uptoBulk {H : Type} : DataW H → Nat
  | .lit (.string bytes) => bytes.length + 1
  | .lit _ => 1
  | .nil => 1
  | .ptr d => uptoBulk d + 1
  | .slice elems spare => uptoBulkAll elems + uptoBulkAll spare + 1
  | .agg parts => uptoBulkAll parts + 1
  | .iface _ d => uptoBulk d + 1
  | .map entries => uptoBulkEntries entries + 1
  | .held _ => 1
def uptoBulkAll {H : Type} : List (DataW H) → Nat
  | [] => 0
  | d :: r => uptoBulk d + uptoBulkAll r
def uptoBulkEntries {H : Type} : List (Lit × DataW H) → Nat
  | [] => 0
  | x :: r => uptoBulkEntry x + uptoBulkEntries r
def uptoBulkEntry {H : Type} : Lit × DataW H → Nat
  | (.string bytes, d) => bytes.length + uptoBulk d + 1
  | (_, d) => uptoBulk d + 1
 end
def uptoSmall : (H : Type) → List (DataW H) → Bool := fun _ ds => decide (uptoBulkAll ds ≤ 1048576)
def OpenSpec.upto (s : _root_.Go.ChangeSpec) : _root_.Go.OpenSpec := { _root_.Go.OpenSpec.ofChange s with cond := some uptoSmall }

/-- 'splittallylaw23.ControlCuts', WHERE WHAT IT READS IS OF BULK AT MOST 1048576: true; the input reads as it did. -/
def controlCutsUptoRow : OpenClaim := { program := "ytikkmdbaekdolaa", sum := "2030560c9c3f2f453fb8c2bfa862b8f7f56adea49dfd4108bd649093e280c544", func := "splittally/splittallylaw23.ControlCuts", spec := "controlCuts", named := ["math/bits.divideError", "math/bits.overflowError"], apart := false, narrowed := true }
def ControlCutsUptoSaid : Prop := controlCutsUptoRow.holds Try.pinned (OpenSpec.upto controlCutsSpec)

/-- 'splittallylaw23.ControlOnce', WHERE WHAT IT READS IS OF BULK AT MOST 1048576: true; the input reads as it did. -/
def controlOnceUptoRow : OpenClaim := { program := "ytikkmdbaekdolaa", sum := "2030560c9c3f2f453fb8c2bfa862b8f7f56adea49dfd4108bd649093e280c544", func := "splittally/splittallylaw23.ControlOnce", spec := "controlOnce", named := ["math/bits.divideError", "math/bits.overflowError"], apart := false, narrowed := true }
def ControlOnceUptoSaid : Prop := controlOnceUptoRow.holds Try.pinned (OpenSpec.upto controlOnceSpec)

/-- 'splittallylaw28.PathClean', WHERE WHAT IT READS IS OF BULK AT MOST 1048576: true; the input reads as it did. -/
def pathCleanUptoRow : OpenClaim := { program := "ytikkmdbaekdolaa", sum := "2030560c9c3f2f453fb8c2bfa862b8f7f56adea49dfd4108bd649093e280c544", func := "splittally/splittallylaw28.PathClean", spec := "pathClean", inPlace := ["math/bits.Add64"], apart := false, narrowed := true }
def PathCleanUptoSaid : Prop := pathCleanUptoRow.holds Try.pinned (OpenSpec.upto pathCleanSpec)

/-- 'splittallylaw28.PathAsks', WHERE WHAT IT READS IS OF BULK AT MOST 1048576: true; the input reads as it did. -/
def pathAsksUptoRow : OpenClaim := { program := "ytikkmdbaekdolaa", sum := "2030560c9c3f2f453fb8c2bfa862b8f7f56adea49dfd4108bd649093e280c544", func := "splittally/splittallylaw28.PathAsks", spec := "pathAsks", inPlace := ["math/bits.Add64"], apart := false, narrowed := true }
def PathAsksUptoSaid : Prop := pathAsksUptoRow.holds Try.pinned (OpenSpec.upto pathAsksSpec)

/-- 'splittallylaw28.PathForks', WHERE WHAT IT READS IS OF BULK AT MOST 1048576: true; the input reads as it did. -/
def pathForksUptoRow : OpenClaim := { program := "ytikkmdbaekdolaa", sum := "2030560c9c3f2f453fb8c2bfa862b8f7f56adea49dfd4108bd649093e280c544", func := "splittally/splittallylaw28.PathForks", spec := "pathForks", inPlace := ["math/bits.Add64"], apart := false, narrowed := true }
def PathForksUptoSaid : Prop := pathForksUptoRow.holds Try.pinned (OpenSpec.upto pathForksSpec)

/-- 'splittallylaw23.ControlAcks', WHERE WHAT IT READS IS OF BULK AT MOST 1048576: true; the input reads as it did. -/
def controlAcksUptoRow : OpenClaim := { program := "ytikkmdbaekdolaa", sum := "2030560c9c3f2f453fb8c2bfa862b8f7f56adea49dfd4108bd649093e280c544", func := "splittally/splittallylaw23.ControlAcks", spec := "controlAcks", inPlace := ["math/bits.Add64"], named := ["math/bits.divideError", "math/bits.overflowError"], apart := false, narrowed := true }
def ControlAcksUptoSaid : Prop := controlAcksUptoRow.holds Try.pinned (OpenSpec.upto controlAcksSpec)

/-- 'splittallylaw23.ControlPlays', WHERE WHAT IT READS IS OF BULK AT MOST 1048576: true; the input reads as it did. -/
def controlPlaysUptoRow : OpenClaim := { program := "ytikkmdbaekdolaa", sum := "2030560c9c3f2f453fb8c2bfa862b8f7f56adea49dfd4108bd649093e280c544", func := "splittally/splittallylaw23.ControlPlays", spec := "controlPlays", inPlace := ["math/bits.Add64"], named := ["math/bits.divideError", "math/bits.overflowError"], apart := false, narrowed := true }
def ControlPlaysUptoSaid : Prop := controlPlaysUptoRow.holds Try.pinned (OpenSpec.upto controlPlaysSpec)

/-- 'splittallylaw30.JudgeHonest', WHERE WHAT IT READS IS OF BULK AT MOST 1048576: true; the input reads as it did. -/
def judgeHonestUptoRow : OpenClaim := { program := "ytikkmdbaekdolaa", sum := "2030560c9c3f2f453fb8c2bfa862b8f7f56adea49dfd4108bd649093e280c544", func := "splittally/splittallylaw30.JudgeHonest", spec := "judgeHonest", inPlace := ["math/bits.Add64"], named := ["math/bits.divideError", "math/bits.overflowError"], apart := false, narrowed := true }
def JudgeHonestUptoSaid : Prop := judgeHonestUptoRow.holds Try.pinned (OpenSpec.upto judgeHonestSpec)

/-- 'splittallylaw30.JudgeHarms', WHERE WHAT IT READS IS OF BULK AT MOST 1048576: true; the input reads as it did. -/
def judgeHarmsUptoRow : OpenClaim := { program := "ytikkmdbaekdolaa", sum := "2030560c9c3f2f453fb8c2bfa862b8f7f56adea49dfd4108bd649093e280c544", func := "splittally/splittallylaw30.JudgeHarms", spec := "judgeHarms", inPlace := ["math/bits.Add64"], named := ["math/bits.divideError", "math/bits.overflowError"], apart := false, narrowed := true }
def JudgeHarmsUptoSaid : Prop := judgeHarmsUptoRow.holds Try.pinned (OpenSpec.upto judgeHarmsSpec)

/-- 'splittallylaw30.JudgeCounts', WHERE WHAT IT READS IS OF BULK AT MOST 1048576: true; the input reads as it did. -/
def judgeCountsUptoRow : OpenClaim := { program := "ytikkmdbaekdolaa", sum := "2030560c9c3f2f453fb8c2bfa862b8f7f56adea49dfd4108bd649093e280c544", func := "splittally/splittallylaw30.JudgeCounts", spec := "judgeCounts", inPlace := ["math/bits.Add64"], named := ["math/bits.divideError", "math/bits.overflowError"], apart := false, narrowed := true }
def JudgeCountsUptoSaid : Prop := judgeCountsUptoRow.holds Try.pinned (OpenSpec.upto judgeCountsSpec)

/-- 'splittallylaw30.JudgePaces', WHERE WHAT IT READS IS OF BULK AT MOST 1048576: true; the input reads as it did. -/
def judgePacesUptoRow : OpenClaim := { program := "ytikkmdbaekdolaa", sum := "2030560c9c3f2f453fb8c2bfa862b8f7f56adea49dfd4108bd649093e280c544", func := "splittally/splittallylaw30.JudgePaces", spec := "judgePaces", inPlace := ["math/bits.Add64"], named := ["math/bits.divideError", "math/bits.overflowError"], apart := false, narrowed := true }
def JudgePacesUptoSaid : Prop := judgePacesUptoRow.holds Try.pinned (OpenSpec.upto judgePacesSpec)

/-- 'splittallylaw30.JudgeTimes', WHERE WHAT IT READS IS OF BULK AT MOST 1048576: true; the input reads as it did. -/
def judgeTimesUptoRow : OpenClaim := { program := "ytikkmdbaekdolaa", sum := "2030560c9c3f2f453fb8c2bfa862b8f7f56adea49dfd4108bd649093e280c544", func := "splittally/splittallylaw30.JudgeTimes", spec := "judgeTimes", inPlace := ["math/bits.Add64"], named := ["math/bits.divideError", "math/bits.overflowError"], apart := false, narrowed := true }
def JudgeTimesUptoSaid : Prop := judgeTimesUptoRow.holds Try.pinned (OpenSpec.upto judgeTimesSpec)

end Rows
end Go.Proofs.Ytikkmdbaekdolaa
