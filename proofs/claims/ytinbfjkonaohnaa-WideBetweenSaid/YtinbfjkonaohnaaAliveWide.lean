/- The examples of the document, chapter 2: alive returns true. -/
import Derived.Test.YtinbfjkonaohnaaRef
namespace Go.Proofs.Ytinbfjkonaohnaa
open Go.RowKit Go.Lib
set_option linter.unusedVariables false

theorem W0 {n : Int} (h : 0 ≤ n ∧ n ≤ 18446744073709551615) : W64 n := h

set_option maxHeartbeats 1000000 in
set_option maxRecDepth 100000 in
theorem aliveWide (w : World) : Calls Try.prog 38 #[] w fun e w' => e = .returned (.bool true) ∧ Below w.heap.size w w' := by
  have c1 : ∀ w, Calls Try.prog 39 #[.int .u64 9223372036854775808, .int .u64 6] w fun e w' => e = .returned (.tuple #[.int .u64 3, .int .u64 0]) ∧ w = w' :=
    fun w => (wMul _ _ (W0 (by omega)) (W0 (by omega)) w).mono fun e w' h => ⟨h.1.trans (ret_ii (by decide) (by decide)), h.2⟩
  have c2 : ∀ w, Calls Try.prog 41 #[.int .u64 3, .int .u64 1, .int .u64 4] w fun e w' => e = .returned (.tuple #[.int .u64 13835058055282163712, .int .u64 1, .bool true]) ∧ ∃ n, w.drewN n = w' :=
    fun w => (wDivYes _ _ _ (W0 (by omega)) (W0 (by omega)) (W0 (by omega)) (by omega) w).mono fun e w' h => ⟨h.1.trans (ret_iib (by decide) (by decide)), h.2⟩
  have c3 : ∀ w, Calls Try.prog 43 #[.int .u64 7, .int .u64 3, .int .u64 2] w fun e w' => e = .returned (.int .u64 10) ∧ ∃ n, w.drewN n = w' :=
    fun w => (wDown _ _ _ (W0 (by omega)) (W0 (by omega)) (W0 (by omega)) w).mono fun e w' h => ⟨h.1.trans (ret_int (by decide)), h.2⟩
  have c4 : ∀ w, Calls Try.prog 45 #[.int .u64 7, .int .u64 3, .int .u64 2] w fun e w' => e = .returned (.int .u64 11) ∧ ∃ n, w.drewN n = w' :=
    fun w => (wUp _ _ _ (W0 (by omega)) (W0 (by omega)) (W0 (by omega)) w).mono fun e w' h => ⟨h.1.trans (ret_int (by decide)), h.2⟩
  have c5 : ∀ w, Calls Try.prog 43 #[.int .u64 18446744073709551615, .int .u64 18446744073709551615, .int .u64 18446744073709551615] w fun e w' => e = .returned (.int .u64 18446744073709551615) ∧ ∃ n, w.drewN n = w' :=
    fun w => (wDown _ _ _ (W0 (by omega)) (W0 (by omega)) (W0 (by omega)) w).mono fun e w' h => ⟨h.1.trans (ret_int (by decide)), h.2⟩
  have C1 := Lib.hid c1
  have C2 := Lib.hid c2
  have C3 := Lib.hid c3
  have C4 := Lib.hid c4
  have C5 := Lib.hid c5
  clear c1 c2 c3 c4 c5
  go_enter Try.func38, Try.ntmps38
  go_wp2_with fail
  refine (C1.out _).mono ?_; rintro e w' ⟨rfl, rfl⟩
  go_wp2_with fail
  refine (C2.out _).mono ?_; rintro e w' ⟨rfl, n2, rfl⟩
  go_wp2_with fail
  refine (C3.out _).mono ?_; rintro e w' ⟨rfl, n3, rfl⟩
  go_wp2_with fail
  refine (C4.out _).mono ?_; rintro e w' ⟨rfl, n4, rfl⟩
  go_wp2_with fail
  refine (C5.out _).mono ?_; rintro e w' ⟨rfl, n5, rfl⟩
  go_wp2_with fail
  go_ret
  exact ⟨rfl, by repeat (first | exact Below.refl _ _ | apply below_drewN)⟩

end Go.Proofs.Ytinbfjkonaohnaa
