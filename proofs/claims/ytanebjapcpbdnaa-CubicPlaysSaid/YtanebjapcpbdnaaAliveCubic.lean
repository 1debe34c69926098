/- The examples of the document, chapter 22: alive returns true. -/
import Derived.Test.YtanebjapcpbdnaaCubic
import Derived.Test.YtanebjapcpbdnaaBase
import Derived.Deep.RegionHeld3
namespace Go.Proofs.Ytanebjapcpbdnaa
open Go.RowKit Go.Lib
set_option linter.unusedVariables false

set_option maxHeartbeats 2000000 in
set_option maxRecDepth 100000 in
theorem aliveCubic (w : World) : Calls Try.prog 24 #[] w fun e w' => e = .returned (.bool true) ∧ Gr w w' := by
  have c0 : ∀ w, Calls Try.prog 29 #[.agg #[.int .u64 100, .int .u64 0, .int .u64 0, .int .u64 50, .int .u64 0, .int .u64 0, .int .u64 3], .int .u64 7, .int .u64 10] w fun e w' => e = .returned (.agg #[.int .u64 70, .int .u64 70, .int .u64 0, .int .u64 100, .int .u64 18446744073709551615, .int .u64 0, .int .u64 0]) ∧ Gr w w' :=
    fun w => (tCut 100 0 0 50 0 0 3 7 10 (Wlit (by omega)) (Wlit (by omega)) (Wlit (by omega)) w).mono fun e w' h => ⟨h.1.trans (by kernel_rfl), h.2⟩
  have c1 : ∀ w, Calls Try.prog 29 #[.agg #[.int .u64 100, .int .u64 0, .int .u64 0, .int .u64 150, .int .u64 0, .int .u64 0, .int .u64 0], .int .u64 7, .int .u64 10] w fun e w' => e = .returned (.agg #[.int .u64 70, .int .u64 70, .int .u64 0, .int .u64 85, .int .u64 18446744073709551615, .int .u64 0, .int .u64 0]) ∧ Gr w w' :=
    fun w => (tCut 100 0 0 150 0 0 0 7 10 (Wlit (by omega)) (Wlit (by omega)) (Wlit (by omega)) w).mono fun e w' h => ⟨h.1.trans (by kernel_rfl), h.2⟩
  have c2 : ∀ w, Calls Try.prog 25 #[.int .u64 5, .int .u64 5, .int .u64 1] w fun e w' => e = .returned (.int .u64 0) ∧ ∃ n, w.drewN n = w' :=
    fun w => (tLong 5 5 1 (Wlit (by omega)) (Wlit (by omega)) (Wlit (by omega)) w).mono fun e w' h => ⟨h.1.trans (by kernel_rfl), h.2⟩
  have c3 : ∀ w, Calls Try.prog 25 #[.int .u64 400, .int .u64 0, .int .u64 1] w fun e w' => e = .returned (.int .u64 10000000) ∧ ∃ n, w.drewN n = w' :=
    fun w => (tLong 400 0 1 (Wlit (by omega)) (Wlit (by omega)) (Wlit (by omega)) w).mono fun e w' h => ⟨h.1.trans (by kernel_rfl), h.2⟩
  have c4 : ∀ w, Calls Try.prog 27 #[.int .u64 100, .int .u64 7, .int .u64 7, .int .u64 1] w fun e w' => e = .returned (.int .u64 100) ∧ ∃ n, w.drewN n = w' :=
    fun w => (tAt 100 7 7 1 (Wlit (by omega)) (Wlit (by omega)) (Wlit (by omega)) (Wlit (by omega)) w).mono fun e w' h => ⟨h.1.trans (by kernel_rfl), h.2⟩
  have c5 : ∀ w, Calls Try.prog 27 #[.int .u64 100, .int .u64 0, .int .u64 10000000, .int .u64 1] w fun e w' => e = .returned (.int .u64 500) ∧ ∃ n, w.drewN n = w' :=
    fun w => (tAt 100 0 10000000 1 (Wlit (by omega)) (Wlit (by omega)) (Wlit (by omega)) (Wlit (by omega)) w).mono fun e w' h => ⟨h.1.trans (by kernel_rfl), h.2⟩
  have C0 := Lib.hid c0
  have C1 := Lib.hid c1
  have C2 := Lib.hid c2
  have C3 := Lib.hid c3
  have C4 := Lib.hid c4
  have C5 := Lib.hid c5
  clear c0 c1 c2 c3 c4 c5
  go_enter Try.func24, Try.ntmps24
  go_wp2_with fail
  ((with_reducible refine (C0.out _).mono ?_); rintro e w' ⟨rfl, n0, os0, rfl⟩)
  go_wp2_with fail
  ((with_reducible refine (C1.out _).mono ?_); rintro e w' ⟨rfl, n1, os1, rfl⟩)
  go_wp2_with fail
  ((with_reducible refine (C2.out _).mono ?_); rintro e w' ⟨rfl, n2, rfl⟩)
  go_wp2_with fail
  ((with_reducible refine (C3.out _).mono ?_); rintro e w' ⟨rfl, n3, rfl⟩)
  go_wp2_with fail
  ((with_reducible refine (C4.out _).mono ?_); rintro e w' ⟨rfl, n4, rfl⟩)
  go_wp2_with fail
  ((with_reducible refine (C5.out _).mono ?_); rintro e w' ⟨rfl, n5, rfl⟩)
  go_wp2_with fail
  go_ret
  exact ⟨rfl, by repeat (first | exact Gr.refl _ | apply Gr.drewN | apply Gr.drew | apply Gr.gw | apply Gr.alloc)⟩

end Go.Proofs.Ytanebjapcpbdnaa
