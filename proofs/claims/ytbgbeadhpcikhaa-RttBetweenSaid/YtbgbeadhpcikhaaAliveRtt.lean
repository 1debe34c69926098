/- The examples of the document, chapter 17: alive returns true. -/
import Derived.Test.YtbgbeadhpcikhaaRtt
import Derived.Test.YtbgbeadhpcikhaaBase
namespace Go.Proofs.Ytbgbeadhpcikhaa
open Go.RowKit Go.Lib
set_option linter.unusedVariables false

theorem openRtt {cs : Array Value} (h : Fits [none, some .u64, some .u64, some .u64, some .u64] cs.toList) :
    ∃ (b : Bool) (l s v m : Int), cs = #[.bool b, .int .u64 l, .int .u64 s, .int .u64 v, .int .u64 m] ∧ W64 l ∧ W64 s ∧ W64 v ∧ W64 m := by
  obtain ⟨c⟩ := cs
  rcases c with _ | ⟨v0, _ | ⟨v1, _ | ⟨v2, _ | ⟨v3, _ | ⟨v4, _ | ⟨v5, c⟩⟩⟩⟩⟩⟩ <;> simp only [Fits, and_false] at h
  obtain ⟨⟨b, rfl⟩, ⟨l, rfl, h1⟩, ⟨s, rfl, h2⟩, ⟨v, rfl, h3⟩, ⟨m, rfl, h4⟩, _⟩ := h
  exact ⟨b, l, s, v, m, rfl, wfU64 h1, wfU64 h2, wfU64 h3, wfU64 h4⟩

theorem ret_agg {a a' : Array Value} (h : a = a') : Ending.returned (.agg a) = .returned (.agg a') := by rw [h]

set_option maxHeartbeats 1000000 in
set_option maxRecDepth 100000 in
theorem aliveRtt (w : World) : Calls Try.prog 24 #[] w fun e w' => e = .returned (.bool true) ∧ Gr w w' := by
  have c1 : ∀ w, Calls Try.prog 25 #[.agg #[.bool false, .int .u64 0, .int .u64 0, .int .u64 0, .int .u64 0], .int .u64 100] w fun e w' => e = .returned (.agg #[.bool true, .int .u64 100, .int .u64 100, .int .u64 50, .int .u64 100]) ∧ Gr w w' :=
    fun w => (tSampleNo _ _ _ _ _ (Wlit (by omega)) w).mono fun e w' h => ⟨h.1.trans (ret_agg (by kernel_rfl)), h.2⟩
  have c2 : ∀ w, Calls Try.prog 25 #[.agg #[.bool true, .int .u64 100, .int .u64 100, .int .u64 50, .int .u64 100], .int .u64 60] w fun e w' => e = .returned (.agg #[.bool true, .int .u64 60, .int .u64 95, .int .u64 47, .int .u64 60]) ∧ Gr w w' :=
    fun w => (tSampleYes _ _ _ _ _ (Wlit (by omega)) (Wlit (by omega)) (Wlit (by omega)) w).mono fun e w' h => ⟨h.1.trans (ret_agg (by kernel_rfl)), h.2⟩
  have c3 : ∀ w, Calls Try.prog 27 #[.agg #[.bool true, .int .u64 100, .int .u64 100, .int .u64 50, .int .u64 100], .int .u64 5, .int .u64 10] w fun e w' => e = .returned (.int .u64 300) ∧ Gr w w' :=
    fun w => (tTimeoutYes _ _ _ _ _ _ (Wlit (by omega)) (Wlit (by omega)) (Wlit (by omega)) w).mono fun e w' h => ⟨h.1.trans (ret_int (by decide)), h.2⟩
  have c4 : ∀ w, Calls Try.prog 27 #[.agg #[.bool false, .int .u64 0, .int .u64 0, .int .u64 0, .int .u64 0], .int .u64 5, .int .u64 100] w fun e w' => e = .returned (.int .u64 105) ∧ Gr w w' :=
    fun w => (tTimeoutNo _ _ _ _ _ _ (Wlit (by omega)) (Wlit (by omega)) w).mono fun e w' h => ⟨h.1.trans (ret_int (by decide)), h.2⟩
  have c5 : ∀ w, Calls Try.prog 29 #[.agg #[.bool true, .int .u64 100, .int .u64 100, .int .u64 50, .int .u64 100], .int .u64 5, .int .u64 10] w fun e w' => e = .returned (.int .u64 112) ∧ Gr w w' :=
    fun w => (tWindowYes _ _ _ _ _ _ (Wlit (by omega)) (Wlit (by omega)) w).mono fun e w' h => ⟨h.1.trans (ret_int (by decide)), h.2⟩
  have C1 := Lib.hid c1
  have C2 := Lib.hid c2
  have C3 := Lib.hid c3
  have C4 := Lib.hid c4
  have C5 := Lib.hid c5
  clear c1 c2 c3 c4 c5
  go_enter Try.func24, Try.ntmps24
  go_wp2_with fail
  refine (C1.out _).mono ?_; rintro e w' ⟨rfl, n1, os1, rfl⟩
  go_wp2_with fail
  refine (C2.out _).mono ?_; rintro e w' ⟨rfl, n2, os2, rfl⟩
  go_wp2_with fail
  refine (C3.out _).mono ?_; rintro e w' ⟨rfl, n3, os3, rfl⟩
  go_wp2_with fail
  refine (C4.out _).mono ?_; rintro e w' ⟨rfl, n4, os4, rfl⟩
  go_wp2_with fail
  refine (C5.out _).mono ?_; rintro e w' ⟨rfl, n5, os5, rfl⟩
  go_wp2_with fail
  go_ret
  exact ⟨rfl, by repeat (first | exact Gr.refl _ | apply Gr.drewN | apply Gr.drew | apply Gr.gw | apply Gr.alloc)⟩

end Go.Proofs.Ytbgbeadhpcikhaa
