/- package head: May and Encode; the reference's MayData and PutData. -/
import Derived.Test.YtikkmdbaekdolaaHead
namespace Go.Proofs.Ytikkmdbaekdolaa
open Go.RowKit Go.Lib
set_option linter.unusedVariables false
set_option maxRecDepth 100000

/-- may it be a packet? -/
def MayP (pn least off ecn : Int) (L : Nat) : Prop := pn ≤ 4611686018427387903 ∧ least ≤ pn ∧ (1 ≤ ecn ∧ ecn ≤ 3) ∧ 1 ≤ (L : Int) ∧ (L : Int) ≤ 1500 ∧ off ≤ 4611686018427387903 - (L : Int)
instance (pn least off ecn : Int) (L : Nat) : Decidable (MayP pn least off ecn L) := by unfold MayP; infer_instance

theorem DatAt.cellsV {w : World} {D : Nat} {c0 c1 c2 c3 c4 c5 : Value} (h : DatAt w D c0 c1 c2 c3 c4 c5) :
    w.cell? ⟨D, 0, none⟩ = some c0 ∧ w.cell? ⟨D, 1, none⟩ = some c1 ∧ w.cell? ⟨D, 2, none⟩ = some c2 ∧ w.cell? ⟨D, 3, none⟩ = some c3 ∧ w.cell? ⟨D, 4, none⟩ = some c4 ∧ w.cell? ⟨D, 5, none⟩ = some c5 := h.cells.1

set_option maxHeartbeats 4000000 in
theorem hMay (pn least off x ecn : Int) (a : Option Addr) (L c : Nat) (h0 : 0 ≤ pn) (h1 : 0 ≤ least) (h2 : 0 ≤ off) (hL : L ≤ 9223372036854775807) (w : World) :
    Calls Try.prog 138 #[.agg #[.int .u64 pn, .int .u64 least, .int .u64 off, .int .u64 x, .int .i64 ecn, .slice a L c]] w fun e w' => e = .returned (.bool (decide (MayP pn least off ecn L))) ∧ Gr w w' := by
  have hLi : (L : Int) ≤ 9223372036854775807 := by omega
  have hL0 : (0 : Int) ≤ (L : Int) := by omega
  by_cases c0 : pn ≤ 4611686018427387903
  case neg =>
    rw [decide_eq_false (show ¬ MayP pn least off ecn L by unfold MayP; omega)]
    have e0 : decide (pn ≤ 4611686018427387903) = false := decide_eq_false c0
    go_enter Try.func138, Try.ntmps138
    go_wp2_with fail
    go_ret
    exact ⟨rfl, by repeat (first | exact Gr.refl _ | apply Gr.drewN | apply Gr.drew | apply Gr.gw | apply Gr.alloc)⟩
  by_cases c1 : least ≤ pn
  case neg =>
    rw [decide_eq_false (show ¬ MayP pn least off ecn L by unfold MayP; omega)]
    have e1 : decide (least ≤ pn) = false := decide_eq_false c1
    go_enter Try.func138, Try.ntmps138
    go_wp2_with fail
    go_ret
    exact ⟨rfl, by repeat (first | exact Gr.refl _ | apply Gr.drewN | apply Gr.drew | apply Gr.gw | apply Gr.alloc)⟩
  by_cases c2 : 1 ≤ ecn ∧ ecn ≤ 3
  case neg =>
    rw [decide_eq_false (show ¬ MayP pn least off ecn L by unfold MayP; omega)]
    go_enter Try.func138, Try.ntmps138
    go_wp2_with fail
    refine (hEcn ecn _).mono ?_; rintro e' w' ⟨rfl, rfl⟩
    rw [decide_eq_false c2]
    go_wp2_with fail
    go_ret
    exact ⟨rfl, by repeat (first | exact Gr.refl _ | apply Gr.drewN | apply Gr.drew | apply Gr.gw | apply Gr.alloc)⟩
  by_cases c3 : 1 ≤ (L : Int)
  case neg =>
    rw [decide_eq_false (show ¬ MayP pn least off ecn L by unfold MayP; omega)]
    have e3 : decide (1 ≤ (L : Int)) = false := decide_eq_false c3
    have e8 : (L : Int) < 1 := by omega
    go_enter Try.func138, Try.ntmps138
    go_wp2_with fail
    refine (hEcn ecn _).mono ?_; rintro e' w' ⟨rfl, rfl⟩
    rw [decide_eq_true c2]
    go_wp2_with fail
    go_ret
    exact ⟨rfl, by repeat (first | exact Gr.refl _ | apply Gr.drewN | apply Gr.drew | apply Gr.gw | apply Gr.alloc)⟩
  by_cases c4 : (L : Int) ≤ 1500
  case neg =>
    rw [decide_eq_false (show ¬ MayP pn least off ecn L by unfold MayP; omega)]
    have e4 : decide ((L : Int) ≤ 1500) = false := decide_eq_false c4
    have e8 : 1500 < (L : Int) := by omega
    go_enter Try.func138, Try.ntmps138
    go_wp2_with fail
    refine (hEcn ecn _).mono ?_; rintro e' w' ⟨rfl, rfl⟩
    rw [decide_eq_true c2]
    go_wp2_with fail
    go_ret
    exact ⟨rfl, by repeat (first | exact Gr.refl _ | apply Gr.drewN | apply Gr.drew | apply Gr.gw | apply Gr.alloc)⟩
  by_cases c5 : off ≤ 4611686018427387903 - (L : Int)
  case neg =>
    rw [decide_eq_false (show ¬ MayP pn least off ecn L by unfold MayP; omega)]
    have e5 : decide (off ≤ 4611686018427387903 - (L : Int)) = false := decide_eq_false c5
    have e8 : 4611686018427387903 - (L : Int) < off := by omega
    go_enter Try.func138, Try.ntmps138
    go_wp2_with fail
    refine (hEcn ecn _).mono ?_; rintro e' w' ⟨rfl, rfl⟩
    rw [decide_eq_true c2]
    go_wp2_with fail
    go_ret
    exact ⟨rfl, by repeat (first | exact Gr.refl _ | apply Gr.drewN | apply Gr.drew | apply Gr.gw | apply Gr.alloc)⟩
  rw [decide_eq_true (show MayP pn least off ecn L from ⟨c0, c1, c2, c3, c4, c5⟩)]
  go_enter Try.func138, Try.ntmps138
  go_wp2_with fail
  refine (hEcn ecn _).mono ?_; rintro e' w' ⟨rfl, rfl⟩
  rw [decide_eq_true c2]
  go_wp2_with fail
  go_ret
  exact ⟨rfl, by repeat (first | exact Gr.refl _ | apply Gr.drewN | apply Gr.drew | apply Gr.gw | apply Gr.alloc)⟩



end Go.Proofs.Ytikkmdbaekdolaa
