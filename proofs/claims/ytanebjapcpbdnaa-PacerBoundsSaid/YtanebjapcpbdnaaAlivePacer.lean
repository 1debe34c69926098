/- The examples of the document, chapter 24: alive returns true. -/
import Derived.Test.YtanebjapcpbdnaaPacer
import Derived.Test.YtanebjapcpbdnaaBase
import Derived.Deep.RegionHeld3
namespace Go.Proofs.Ytanebjapcpbdnaa
open Go.RowKit Go.Lib
set_option linter.unusedVariables false

set_option maxHeartbeats 2000000 in
set_option maxRecDepth 100000 in
theorem alivePacer (w : World) : Calls Try.prog 15 #[] w fun e w' => e = .returned (.bool true) ∧ Gr w w' := by
  have c0 : ∀ w, Calls Try.prog 21 #[.int .u64 10, .int .u64 0, .int .u64 1] w fun e w' => e = .returned (.agg #[.int .u64 10000000, .int .u64 0, .int .u64 1]) ∧ Gr w w' :=
    fun w => (pcStart 10 0 1 (Wlit (by omega)) w).mono fun e w' h => ⟨h.1.trans (by kernel_rfl), h.2⟩
  have c1 : ∀ w, Calls Try.prog 16 #[.agg #[.int .u64 10000000, .int .u64 0, .int .u64 1], .int .u64 10, .int .u64 0, .int .u64 10] w fun e w' => e = .returned (.tuple #[.agg #[.int .u64 0, .int .u64 0, .int .u64 1], .bool true]) ∧ Gr w w' :=
    fun w => (pcTakeYes 10000000 0 1 10 0 10 (Wlit (by omega)) (Wlit (by omega)) (Wlit (by omega)) (Wlit (by omega)) (Wlit (by omega)) (Wlit (by omega)) (by decide +kernel) w).mono fun e w' h => ⟨h.1.trans (by kernel_rfl), h.2⟩
  have c2 : ∀ w, Calls Try.prog 16 #[.agg #[.int .u64 0, .int .u64 0, .int .u64 1], .int .u64 10, .int .u64 999999, .int .u64 1] w fun e w' => e = .returned (.tuple #[.agg #[.int .u64 999999, .int .u64 999999, .int .u64 1], .bool false]) ∧ Gr w w' :=
    fun w => (pcTakeNo 0 0 1 10 999999 1 (Wlit (by omega)) (Wlit (by omega)) (Wlit (by omega)) (Wlit (by omega)) (Wlit (by omega)) (Wlit (by omega)) (by decide +kernel) w).mono fun e w' h => ⟨h.1.trans (by kernel_rfl), h.2⟩
  have c3 : ∀ w, Calls Try.prog 16 #[.agg #[.int .u64 999999, .int .u64 999999, .int .u64 1], .int .u64 10, .int .u64 1000000, .int .u64 1] w fun e w' => e = .returned (.tuple #[.agg #[.int .u64 0, .int .u64 1000000, .int .u64 1], .bool true]) ∧ Gr w w' :=
    fun w => (pcTakeYes 999999 999999 1 10 1000000 1 (Wlit (by omega)) (Wlit (by omega)) (Wlit (by omega)) (Wlit (by omega)) (Wlit (by omega)) (Wlit (by omega)) (by decide +kernel) w).mono fun e w' h => ⟨h.1.trans (by kernel_rfl), h.2⟩
  have c4 : ∀ w, Calls Try.prog 18 #[.agg #[.int .u64 0, .int .u64 0, .int .u64 1], .int .u64 10, .int .u64 0, .int .u64 1] w fun e w' => e = .returned (.int .u64 1000000) ∧ Gr w w' :=
    fun w => (pcNextLater 0 0 1 10 0 1 (Wlit (by omega)) (Wlit (by omega)) (Wlit (by omega)) (Wlit (by omega)) (Wlit (by omega)) (Wlit (by omega)) (by decide +kernel) (by decide +kernel) (by decide +kernel) w).mono fun e w' h => ⟨h.1.trans (by kernel_rfl), h.2⟩
  have c5 : ∀ w, Calls Try.prog 33 #[.int .u64 1000, .int .u64 1000000, .int .u64 1] w fun e w' => e = .returned (.int .u64 1250) ∧ Gr w w' :=
    fun w => (pcRate 1000 1000000 1 (Wlit (by omega)) (Wlit (by omega)) (Wlit (by omega)) w).mono fun e w' h => ⟨h.1.trans (by kernel_rfl), h.2⟩
  have c6 : ∀ w, Calls Try.prog 18 #[.agg #[.int .u64 0, .int .u64 0, .int .u64 1], .int .u64 10, .int .u64 0, .int .u64 11] w fun e w' => e = .returned (.int .u64 18446744073709551615) ∧ Gr w w' :=
    fun w => (pcNextBig 0 0 1 10 0 11 (Wlit (by omega)) (Wlit (by omega)) (Wlit (by omega)) (Wlit (by omega)) (Wlit (by omega)) (Wlit (by omega)) (by decide +kernel) (by decide +kernel) w).mono fun e w' h => ⟨h.1.trans (by kernel_rfl), h.2⟩
  have C0 := Lib.hid c0
  have C1 := Lib.hid c1
  have C2 := Lib.hid c2
  have C3 := Lib.hid c3
  have C4 := Lib.hid c4
  have C5 := Lib.hid c5
  have C6 := Lib.hid c6
  clear c0 c1 c2 c3 c4 c5 c6
  go_enter Try.func15, Try.ntmps15
  go_wp2_with fail
  ((with_reducible refine (C0.out _).mono ?_); rintro e w' ⟨rfl, n0, os0, rfl⟩)
  go_wp2_with fail
  ((with_reducible refine (C1.out _).mono ?_); rintro e w' ⟨rfl, n1, os1, rfl⟩)
  go_wp2_with fail
  ((with_reducible refine (C2.out _).mono ?_); rintro e w' ⟨rfl, n2, os2, rfl⟩)
  go_wp2_with fail
  ((with_reducible refine (C3.out _).mono ?_); rintro e w' ⟨rfl, n3, os3, rfl⟩)
  go_wp2_with fail
  ((with_reducible refine (C4.out _).mono ?_); rintro e w' ⟨rfl, n4, os4, rfl⟩)
  go_wp2_with fail
  ((with_reducible refine (C5.out _).mono ?_); rintro e w' ⟨rfl, n5, os5, rfl⟩)
  go_wp2_with fail
  ((with_reducible refine (C6.out _).mono ?_); rintro e w' ⟨rfl, n6, os6, rfl⟩)
  go_wp2_with fail
  go_ret
  exact ⟨rfl, by repeat (first | exact Gr.refl _ | apply Gr.drewN | apply Gr.drew | apply Gr.gw | apply Gr.alloc)⟩

end Go.Proofs.Ytanebjapcpbdnaa
