/- the reference's SameData, of two that are alike. -/
import Derived.Test.YtikkmdbaekdolaaHead
import Derived.Test.YtikkmdbaekdolaaHeld
import Derived.Laws.BytesArg
namespace Go.Proofs.Ytikkmdbaekdolaa
open Go.RowKit Go.Lib
set_option linter.unusedVariables false
set_option maxRecDepth 100000

theorem conv_zero (w : World) (x : Option Addr) (c : Nat) : (convert 44 9 (.slice x 0 c)).run Try.prog w = .ok (.string (strOfNums [])) w := by
  rw [run_convert_bytes_string w 44 9 5 _ 0 c Try.underlying44 Try.underlying5 Try.underlying9]
  cases x <;> simp [Conv.bytesToString, loadCells]
  all_goals rfl

theorem wpList_convAny {ops : Array Oper} {rest : List Oper} {o : Oper} {a : Act} {w : World} {Q : Exit → Act → World → Prop} (hw : Region.wanted o (yielded ops a.tmps) = true) (y : Operand) (ho : o.op = .convert 44 9 y)
    (v : Value) (hy : a.eval y = v) (l : List Int) (h : BodyAt w v l)
    (hk : wpList Try.prog ops Q rest (a.put o.dst (.string (strOfNums l))) w) : wpList Try.prog ops Q (o :: rest) a w := by
  rcases h with ⟨x, c, rfl, _, rfl⟩ | ⟨g, o', c, rfl, h1, h2, h3, h4⟩
  · unfold wpList
    rw [hw, if_pos rfl]
    refine .inl ?_
    unfold Oper.wp execOp
    have hr := conv_zero w x c
    simp only [ho, hy, hr, Sem.run_bind, Sem.run_pure, Result.andThen_ok]
    exact hk
  · exact wpList_conv hw y ho g o' l.length c hy l rfl h4 hk


end Go.Proofs.Ytikkmdbaekdolaa
