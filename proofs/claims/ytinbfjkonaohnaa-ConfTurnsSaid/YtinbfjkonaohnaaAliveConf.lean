/- The examples of the document, chapter 11: alive returns true. -/
import Derived.Test.YtinbfjkonaohnaaConf
import Derived.Test.YtinbfjkonaohnaaConf0
import Derived.Test.YtinbfjkonaohnaaBase
import Derived.Deep.RegionHeld3
namespace Go.Proofs.Ytinbfjkonaohnaa
open Go.RowKit Go.Lib
set_option linter.unusedVariables false

set_option maxHeartbeats 2000000 in
set_option maxRecDepth 100000 in
theorem aliveConf (w : World) : Calls Try.prog 18 #[] w fun e w' => e = .returned (.bool true) ∧ Gr w w' := by
  have c0 : ∀ w, Calls Try.prog 20 #[.agg #[.int .i64 0, .int .u64 0, .int .i64 0, .int .u64 0, .int .i64 0, .int .u64 0, .int .u64 0, .int .u64 0, .int .u64 0, .int .i64 0, .int .u64 0, .int .u64 0, .int .u64 0, .int .u64 0, .int .u64 0, .int .i64 0, .int .u64 0]] w fun e w' => e = .returned (.int .i64 1) ∧ Gr w w' :=
    fun w => ((cCheck 0 0 0 0 0 0 0 0 0 0 0 0 0 0 0 0 0) w).mono fun e w' h => ⟨h.1.trans (by kernel_rfl), h.2⟩
  have c1 : ∀ w, Calls Try.prog 21 #[.agg #[.int .i64 0, .int .u64 0, .int .i64 0, .int .u64 0, .int .i64 0, .int .u64 0, .int .u64 0, .int .u64 0, .int .u64 0, .int .i64 0, .int .u64 0, .int .u64 0, .int .u64 0, .int .u64 0, .int .u64 0, .int .i64 0, .int .u64 0]] w fun e w' => e = .returned (.bool false) ∧ Gr w w' :=
    fun w => ((cMay 0 0 0 0 0 0 0 0 0 0 0 0 0 0 0 0 0) w).mono fun e w' h => ⟨h.1.trans (by kernel_rfl), h.2⟩
  have c2 : ∀ w, Calls Try.prog 22 #[.slice none 0 0] w fun e w' => e = .returned (.agg #[.int .i64 64, .int .u64 0, .int .i64 4, .int .u64 4611686018427387903, .int .i64 1, .int .u64 1, .int .u64 2, .int .u64 2, .int .u64 2, .int .i64 1, .int .u64 1, .int .u64 1, .int .u64 1, .int .u64 1, .int .u64 1, .int .i64 0, .int .u64 1]) ∧ Gr w w' :=
    fun w => (((fun w => zConf none 0 0 (fun _ => 0) w ⟨by omega, .inl rfl⟩)) w).mono fun e w' h => ⟨h.1.trans (by kernel_rfl), h.2⟩
  have c3 : ∀ w, Calls Try.prog 21 #[.agg #[.int .i64 64, .int .u64 0, .int .i64 4, .int .u64 4611686018427387903, .int .i64 1, .int .u64 1, .int .u64 2, .int .u64 2, .int .u64 2, .int .i64 1, .int .u64 1, .int .u64 1, .int .u64 1, .int .u64 1, .int .u64 1, .int .i64 0, .int .u64 1]] w fun e w' => e = .returned (.bool true) ∧ Gr w w' :=
    fun w => ((cMay 64 0 4 4611686018427387903 1 1 2 2 2 1 1 1 1 1 1 0 1) w).mono fun e w' h => ⟨h.1.trans (by kernel_rfl), h.2⟩
  have c4 : ∀ w, Calls Try.prog 20 #[.agg #[.int .i64 1, .int .u64 1, .int .i64 0, .int .u64 0, .int .i64 0, .int .u64 0, .int .u64 0, .int .u64 0, .int .u64 0, .int .i64 0, .int .u64 0, .int .u64 0, .int .u64 0, .int .u64 0, .int .u64 0, .int .i64 0, .int .u64 0]] w fun e w' => e = .returned (.int .i64 2) ∧ Gr w w' :=
    fun w => ((cCheck 1 1 0 0 0 0 0 0 0 0 0 0 0 0 0 0 0) w).mono fun e w' h => ⟨h.1.trans (by kernel_rfl), h.2⟩
  have C0 := Lib.hid c0
  have C1 := Lib.hid c1
  have C2 := Lib.hid c2
  have C3 := Lib.hid c3
  have C4 := Lib.hid c4
  clear c0 c1 c2 c3 c4
  go_enter Try.func18, Try.ntmps18
  go_wp2_with fail
  ((with_reducible refine (C0.out _).mono ?_); rintro e w' ⟨rfl, n0, os0, rfl⟩)
  go_wp2_with fail
  ((with_reducible refine (C1.out _).mono ?_); rintro e w' ⟨rfl, n1, os1, rfl⟩)
  go_wp2_with fail
  ((with_reducible refine (C2.out _).mono ?_); rintro e w' ⟨rfl, n2, os2, rfl⟩)
  go_wp2_with fail
  ((with_reducible refine (C3.out _).mono ?_); rintro e w' ⟨rfl, n3, os3, rfl⟩)
  go_wp2_with fail
  ((with_reducible refine (C4.out _).mono ?_); rintro e w' ⟨rfl, n4, os4, rfl⟩)
  go_wp2_with fail
  go_ret
  exact ⟨rfl, by repeat (first | exact Gr.refl _ | apply Gr.drewN | apply Gr.drew | apply Gr.gw | apply Gr.alloc)⟩

end Go.Proofs.Ytinbfjkonaohnaa
