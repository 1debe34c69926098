/- The examples of the document, chapter 21: alive returns true. -/
import Derived.Test.YtbgbeadhpcikhaaReno
import Derived.Test.YtbgbeadhpcikhaaBase
import Derived.Deep.RegionHeld3
namespace Go.Proofs.Ytbgbeadhpcikhaa
open Go.RowKit Go.Lib
set_option linter.unusedVariables false

theorem openWin {cs : Array Value} (h : Fits [some .u64, some .u64, some .u64, some .u64, some .u64, some .u64, some .u64] cs.toList) :
    ∃ c t a p e k f : Int, cs = #[.int .u64 c, .int .u64 t, .int .u64 a, .int .u64 p, .int .u64 e, .int .u64 k, .int .u64 f] ∧ W64 c ∧ W64 t ∧ W64 a ∧ W64 p ∧ W64 e ∧ W64 k ∧ W64 f := by
  obtain ⟨l⟩ := cs
  rcases l with _ | ⟨v0, _ | ⟨v1, _ | ⟨v2, _ | ⟨v3, _ | ⟨v4, _ | ⟨v5, _ | ⟨v6, _ | ⟨v7, l⟩⟩⟩⟩⟩⟩⟩⟩ <;> simp only [Fits, and_false] at h
  obtain ⟨⟨c, rfl, h0⟩, ⟨t, rfl, h1⟩, ⟨a, rfl, h2⟩, ⟨p, rfl, h3⟩, ⟨e, rfl, h4⟩, ⟨k, rfl, h5⟩, ⟨f, rfl, h6⟩, _⟩ := h
  exact ⟨c, t, a, p, e, k, f, rfl, wfU64 h0, wfU64 h1, wfU64 h2, wfU64 h3, wfU64 h4, wfU64 h5, wfU64 h6⟩

theorem ret_win {a a' : Array Value} (h : a = a') : Ending.returned (.agg a) = .returned (.agg a') := by rw [h]

set_option maxHeartbeats 1000000 in
set_option maxRecDepth 100000 in
theorem aliveReno (w : World) : Calls Try.prog 14 #[] w fun e w' => e = .returned (.bool true) ∧ Gr w w' := by
  have c1 : ∀ w, Calls Try.prog 15 #[.agg #[.int .u64 10, .int .u64 0, .int .u64 0, .int .u64 0, .int .u64 0, .int .u64 0, .int .u64 0], .int .u64 10, .int .u64 3] w fun e w' => e = .returned (.agg #[.int .u64 13, .int .u64 0, .int .u64 0, .int .u64 0, .int .u64 0, .int .u64 0, .int .u64 0]) ∧ Gr w w' :=
    fun w => (nGrow _ _ _ _ _ _ _ _ _ (Wlit (by omega)) (Wlit (by omega)) (Wlit (by omega)) (Wlit (by omega)) w).mono fun e w' h => ⟨h.1.trans (ret_win (by kernel_rfl)), h.2⟩
  have c2 : ∀ w, Calls Try.prog 15 #[.agg #[.int .u64 10, .int .u64 99, .int .u64 0, .int .u64 0, .int .u64 0, .int .u64 0, .int .u64 0], .int .u64 10, .int .u64 3] w fun e w' => e = .returned (.agg #[.int .u64 16, .int .u64 99, .int .u64 0, .int .u64 0, .int .u64 0, .int .u64 0, .int .u64 0]) ∧ Gr w w' :=
    fun w => (nGrow _ _ _ _ _ _ _ _ _ (Wlit (by omega)) (Wlit (by omega)) (Wlit (by omega)) (Wlit (by omega)) w).mono fun e w' h => ⟨h.1.trans (ret_win (by kernel_rfl)), h.2⟩
  have c3 : ∀ w, Calls Try.prog 19 #[.agg #[.int .u64 11, .int .u64 0, .int .u64 4, .int .u64 0, .int .u64 0, .int .u64 0, .int .u64 0], .int .u64 1, .int .u64 2] w fun e w' => e = .returned (.agg #[.int .u64 5, .int .u64 5, .int .u64 0, .int .u64 0, .int .u64 0, .int .u64 0, .int .u64 0]) ∧ Gr w w' :=
    fun w => (nCut _ _ _ _ _ _ _ _ _ (Wlit (by omega)) (Wlit (by omega)) (Wlit (by omega)) w).mono fun e w' h => ⟨h.1.trans (ret_win (by kernel_rfl)), h.2⟩
  have C1 := Lib.hid c1
  have C2 := Lib.hid c2
  have C3 := Lib.hid c3
  clear c1 c2 c3
  go_enter Try.func14, Try.ntmps14
  go_wp2_with fail
  refine (C1.out _).mono ?_; rintro e w' ⟨rfl, n1, os1, rfl⟩
  go_wp2_with fail
  refine (C2.out _).mono ?_; rintro e w' ⟨rfl, n2, os2, rfl⟩
  go_wp2_with fail
  refine (C3.out _).mono ?_; rintro e w' ⟨rfl, n3, os3, rfl⟩
  go_wp2_with fail
  go_ret
  exact ⟨rfl, by repeat (first | exact Gr.refl _ | apply Gr.drewN | apply Gr.drew | apply Gr.gw | apply Gr.alloc)⟩

end Go.Proofs.Ytbgbeadhpcikhaa
