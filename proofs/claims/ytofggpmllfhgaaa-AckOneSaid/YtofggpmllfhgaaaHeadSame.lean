/- the reference's SameData, of two that are alike. -/
import Derived.Test.YtofggpmllfhgaaaHead
import Derived.Test.YtofggpmllfhgaaaHeld
import Derived.Laws.BytesArg
namespace Go.Proofs.Ytofggpmllfhgaaa
open Go.RowKit Go.Lib
set_option linter.unusedVariables false
set_option maxRecDepth 100000

theorem conv_zero (w : World) (x : Option Addr) (c : Nat) : (convert 23 9 (.slice x 0 c)).run Try.prog w = .ok (.string (strOfNums [])) w := by
  rw [run_convert_bytes_string w 23 9 5 _ 0 c Try.underlying23 Try.underlying5 Try.underlying9]
  cases x <;> simp [Conv.bytesToString, loadCells]
  all_goals rfl

theorem wpList_convAny {ops : Array Oper} {rest : List Oper} {o : Oper} {a : Act} {w : World} {Q : Exit → Act → World → Prop} (hw : Region.wanted o (yielded ops a.tmps) = true) (y : Operand) (ho : o.op = .convert 23 9 y)
    (v : Value) (hy : a.eval y = v) (l : List Int) (h : BodyAt w v l)
    (hk : wpList Try.prog ops Q rest (a.put o.dst (.string (strOfNums l))) w) : wpList Try.prog ops Q (o :: rest) a w := by
  rcases h with ⟨x, c, rfl, _, rfl⟩ | ⟨g, o', c, rfl, h1, h2, h3, h4⟩
  · unfold wpList
    rw [hw, if_pos rfl]
    refine .inl ?_
    unfold Oper.wp execOp
    have hr := conv_zero w x c
    simp only [ho, hy, hr, Sem.run_bind, Sem.run_pure, Result.andThen_ok]
    exact hk
  · exact wpList_conv hw y ho g o' l.length c hy l rfl h4 hk

set_option maxHeartbeats 2000000 in
theorem rSame (d : Dat) (v1 v2 : Value) (w : World) (h1 : BodyAt w v1 d.body) (h2 : BodyAt w v2 d.body) :
    Calls Try.prog 21 #[dataV d v1, dataV d v2] w fun e w' => e = .returned (.bool true) ∧ Gr w w' := by
  obtain ⟨pn, least, off, x, ecn, body⟩ := d
  simp only at h1 h2
  obtain ⟨x1, c1, hv1⟩ := h1.form
  obtain ⟨x2, c2, hv2⟩ := h2.form
  unfold dataV
  subst hv1 hv2
  obtain ⟨L, hL⟩ : ∃ L, body.length = L := ⟨_, rfl⟩
  have b2 : ∀ z z' : Array Value, Below w.heap.size w ((w.alloc (.cells z 25 (0, 0))).alloc (.cells z' 25 (0, 0))) := fun z z' => ((Below.refl _ _).alloc (Nat.le_refl _) _).alloc (by simp) _
  have B1 := fun z z' => h1.below (b2 z z')
  have B2 := fun z z' => h2.below (b2 z z')
  have HB1 := Lib.hid B1
  have HB2 := Lib.hid B2
  clear B1 B2 b2 h1 h2
  rw [hL] at HB1 HB2 ⊢
  go_enter Try.func21, Try.ntmps21
  go_wp2_with (first
    | (refine wpList_convAny (by rfl) (.tmp 40) rfl (.slice x1 L c1) rfl body (HB1.out _ _) ?_)
    | (refine wpList_convAny (by rfl) (.tmp 43) rfl (.slice x2 L c2) rfl body (HB2.out _ _) ?_))
  go_ret
  exact ⟨rfl, by repeat (first | exact Gr.refl _ | apply Gr.drewN | apply Gr.drew | apply Gr.gw | apply Gr.alloc)⟩

end Go.Proofs.Ytofggpmllfhgaaa
