/- package conf: what Check and May return, for every configuration. -/
import Derived.Test.YtikkmdbaekdolaaBase
import Derived.Test.YtikkmdbaekdolaaGr
import Derived.Deep.Light
namespace Go.Proofs.Ytikkmdbaekdolaa
open Go.RowKit Go.Lib
set_option linter.unusedVariables false
set_option maxRecDepth 100000

/-- the place of the first number that may not be -/
def winI (x0 x1 x2 x3 x4 x5 x6 x7 x8 x9 x10 x11 x12 x13 x14 x15 x16 : Int) : Int := if x6 < x7 ∨ x8 < x6 then 7 else if x7 < 2 * x5 then 8 else if x8 < x7 ∨ 1073741824 < x8 then 9 else if ¬ x9 = 1 ∧ ¬ x9 = 2 then 10 else if x10 < 1 ∨ 1099511627776 < x10 then 11 else if x11 < 1 ∨ 1099511627776 < x11 then 12 else if x12 < x11 ∨ 1099511627776 < x12 then 13 else if x13 < x5 ∨ 1073741824 < x13 then 14 else if x14 < 1 ∨ 4294967296 < x14 then 15 else if x15 < 0 ∨ 64 < x15 then 16 else if x16 < 1 ∨ 1099511627776 < x16 then 17 else 0
def confI (x0 x1 x2 x3 x4 x5 x6 x7 x8 x9 x10 x11 x12 x13 x14 x15 x16 : Int) : Int := if x0 < 1 ∨ 64 < x0 then 1 else if x1 = 1 then 2 else if x2 < 4 ∨ 256 < x2 then 3 else if 4611686018427387903 < x3 then 4 else if x4 < 1 ∨ 65536 < x4 then 5 else if x5 < 1 ∨ 1500 < x5 then 6 else winI x0 x1 x2 x3 x4 x5 x6 x7 x8 x9 x10 x11 x12 x13 x14 x15 x16

set_option maxHeartbeats 4000000 in
theorem cWindows (x0 x1 x2 x3 x4 x5 x6 x7 x8 x9 x10 x11 x12 x13 x14 x15 x16 : Int) (n0 : 1 ≤ x5) (n1 : x5 ≤ 1500) (w : World) :
    Calls Try.prog 135 #[.agg #[.int .i64 x0, .int .u64 x1, .int .i64 x2, .int .u64 x3, .int .i64 x4, .int .u64 x5, .int .u64 x6, .int .u64 x7, .int .u64 x8, .int .i64 x9, .int .u64 x10, .int .u64 x11, .int .u64 x12, .int .u64 x13, .int .u64 x14, .int .i64 x15, .int .u64 x16]] w fun e w' => e = .returned (.int .i64 (winI x0 x1 x2 x3 x4 x5 x6 x7 x8 x9 x10 x11 x12 x13 x14 x15 x16)) ∧ Gr w w' := by
  go_enter Try.func135, Try.ntmps135
  go_wp2
  all_goals
    go_ret
    refine ⟨ret_int ?_, by repeat (first | exact Gr.refl _ | apply Gr.drewN | apply Gr.drew | apply Gr.gw | apply Gr.alloc)⟩
    go_light
    try simp only [ne_eq, bne_iff_ne, bne_eq_false_iff_eq] at *
    unfold winI
    repeat (first | rw [if_pos (by omega)] | rw [if_neg (by omega)])

set_option maxHeartbeats 4000000 in
theorem cCheck (x0 x1 x2 x3 x4 x5 x6 x7 x8 x9 x10 x11 x12 x13 x14 x15 x16 : Int) (w : World) :
    Calls Try.prog 99 #[.agg #[.int .i64 x0, .int .u64 x1, .int .i64 x2, .int .u64 x3, .int .i64 x4, .int .u64 x5, .int .u64 x6, .int .u64 x7, .int .u64 x8, .int .i64 x9, .int .u64 x10, .int .u64 x11, .int .u64 x12, .int .u64 x13, .int .u64 x14, .int .i64 x15, .int .u64 x16]] w fun e w' => e = .returned (.int .i64 (confI x0 x1 x2 x3 x4 x5 x6 x7 x8 x9 x10 x11 x12 x13 x14 x15 x16)) ∧ Gr w w' := by
  go_enter Try.func99, Try.ntmps99
  go_wp2_with fail
  all_goals try
    refine (cWindows x0 x1 x2 x3 x4 x5 x6 x7 x8 x9 x10 x11 x12 x13 x14 x15 x16 (by omega) (by omega) _).mono ?_; rintro e w1 ⟨rfl, n1, os1, rfl⟩
    go_wp2_with fail
  all_goals
    go_ret
    refine ⟨ret_int ?_, by repeat (first | exact Gr.refl _ | apply Gr.drewN | apply Gr.drew | apply Gr.gw | apply Gr.alloc)⟩
    go_light
    try simp only [beq_eq_false_iff_ne, ne_eq, beq_iff_eq] at *
    unfold confI
    repeat (first | rw [if_pos (by omega)] | rw [if_neg (by omega)])

theorem cMay (x0 x1 x2 x3 x4 x5 x6 x7 x8 x9 x10 x11 x12 x13 x14 x15 x16 : Int) (w : World) :
    Calls Try.prog 62 #[.agg #[.int .i64 x0, .int .u64 x1, .int .i64 x2, .int .u64 x3, .int .i64 x4, .int .u64 x5, .int .u64 x6, .int .u64 x7, .int .u64 x8, .int .i64 x9, .int .u64 x10, .int .u64 x11, .int .u64 x12, .int .u64 x13, .int .u64 x14, .int .i64 x15, .int .u64 x16]] w fun e w' => e = .returned (.bool (confI x0 x1 x2 x3 x4 x5 x6 x7 x8 x9 x10 x11 x12 x13 x14 x15 x16 == 0)) ∧ Gr w w' := by
  go_enter Try.func62, Try.ntmps62
  go_wp2_with fail
  refine (cCheck x0 x1 x2 x3 x4 x5 x6 x7 x8 x9 x10 x11 x12 x13 x14 x15 x16 _).mono ?_; rintro e w1 ⟨rfl, n1, os1, rfl⟩
  go_wp2_with fail
  go_ret
  exact ⟨rfl, by repeat (first | exact Gr.refl _ | apply Gr.drewN | apply Gr.drew | apply Gr.gw | apply Gr.alloc)⟩

end Go.Proofs.Ytikkmdbaekdolaa
