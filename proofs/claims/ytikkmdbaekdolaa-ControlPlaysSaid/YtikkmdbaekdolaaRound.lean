/- rounds, and clamps: what they return, the program's and the reference's. -/
import Derived.Test.YtikkmdbaekdolaaSat
import Derived.Test.YtikkmdbaekdolaaGr
namespace Go.Proofs.Ytikkmdbaekdolaa
open Go.RowKit Go.Lib
set_option linter.unusedVariables false
set_option maxRecDepth 100000

def clampI (x lo hi : Int) : Int := if hi < x then hi else if x < lo then lo else x
def rndE (E p n : Int) : Int := if E ≤ p then (if n ≤ p then addI p 1 else n) else E
def rndC (E C p : Int) : Int := if E ≤ p then addI C 1 else C

theorem clampI_W (x lo hi : Int) (hx : W64 x) (hl : W64 lo) (hh : W64 hi) : W64 (clampI x lo hi) := by
  unfold clampI W64 at *
  split
  · omega
  · split <;> omega

theorem sClamp (x lo hi : Int) (w : World) :
    Calls Try.prog 72 #[.int .u64 x, .int .u64 lo, .int .u64 hi] w fun e w' => e = .returned (.int .u64 (clampI x lo hi)) ∧ w = w' := by
  unfold clampI
  by_cases h1 : hi < x
  · rw [if_pos h1]
    go_enter Try.func72, Try.ntmps72
    go_wp2_with fail
    go_ret
    exact ⟨rfl, rfl⟩
  · rw [if_neg h1]
    by_cases h2 : x < lo
    · rw [if_pos h2]
      go_enter Try.func72, Try.ntmps72
      go_wp2_with fail
      go_ret
      exact ⟨rfl, rfl⟩
    · rw [if_neg h2]
      go_enter Try.func72, Try.ntmps72
      go_wp2_with fail
      go_ret
      exact ⟨rfl, rfl⟩
theorem rClamp (x lo hi : Int) (w : World) :
    Calls Try.prog 75 #[.int .u64 x, .int .u64 lo, .int .u64 hi] w fun e w' => e = .returned (.int .u64 (clampI x lo hi)) ∧ w = w' := by
  unfold clampI
  by_cases h1 : hi < x
  · rw [if_pos h1]
    go_enter Try.func75, Try.ntmps75
    go_wp2_with fail
    go_ret
    exact ⟨rfl, rfl⟩
  · rw [if_neg h1]
    by_cases h2 : x < lo
    · rw [if_pos h2]
      go_enter Try.func75, Try.ntmps75
      go_wp2_with fail
      go_ret
      exact ⟨rfl, rfl⟩
    · rw [if_neg h2]
      go_enter Try.func75, Try.ntmps75
      go_wp2_with fail
      go_ret
      exact ⟨rfl, rfl⟩
theorem nFresh (E C p : Int) (w : World) :
    Calls Try.prog 134 #[.agg #[.int .u64 E, .int .u64 C], .int .u64 p] w fun e w' => e = .returned (.bool (decide (E ≤ p))) ∧ Gr w w' := by
  go_enter Try.func134, Try.ntmps134
  go_wp2_with fail
  go_ret
  exact ⟨rfl, by repeat (first | exact Gr.refl _ | apply Gr.drewN | apply Gr.drew | apply Gr.gw | apply Gr.alloc)⟩
theorem add_one {p : Int} (h : W64 p) : IntKind.u64.wrap (p + min 1 (18446744073709551615 - p)) = addI p 1 ∧ min (18446744073709551615 - p) 1 = min 1 (18446744073709551615 - p) := by
  unfold W64 at h
  unfold addI
  rw [IntKind.wrap_u64]
  omega
theorem nBegin (E C p n : Int) (hp : W64 p) (hC : W64 C) (w : World) :
    Calls Try.prog 95 #[.agg #[.int .u64 E, .int .u64 C], .int .u64 p, .int .u64 n] w fun e w' => e = .returned (.tuple #[.agg #[.int .u64 (rndE E p n), .int .u64 (rndC E C p)], .bool (decide (E ≤ p))]) ∧ Gr w w' := by
  unfold rndE rndC
  have p1 := add_one hp
  have p2 := add_one hC
  obtain ⟨p3, p4⟩ := hp
  obtain ⟨c3, c4⟩ := hC
  have w1 : IntKind.u64.wrap (18446744073709551615 - p) = 18446744073709551615 - p := by rw [IntKind.wrap_u64]; omega
  have w2 : IntKind.u64.wrap (18446744073709551615 - C) = 18446744073709551615 - C := by rw [IntKind.wrap_u64]; omega
  by_cases h1 : E ≤ p
  · rw [if_pos h1, if_pos h1, decide_eq_true h1]
    have hd : decide (E ≤ p) = true := decide_eq_true h1
    by_cases h2 : n ≤ p
    · rw [if_pos h2]
      go_enter Try.func95, Try.ntmps95
      go_wp2_with fail
      refine (nFresh E C p _).mono ?_; rintro e' w' ⟨rfl, n1, os1, rfl⟩
      go_wp2_with fail
      refine bodyPost_ret (v := .tuple #[.agg #[.int .u64 (addI p 1), .int .u64 (addI C 1)], .bool true]) (by rw [← p1.1, ← p2.1]; simp [results, Try.results95, go_sem]) rfl ⟨rfl, ?_⟩
      repeat (first | exact Gr.refl _ | apply Gr.drewN | apply Gr.drew | apply Gr.gw | apply Gr.alloc)
    · rw [if_neg h2]
      go_enter Try.func95, Try.ntmps95
      go_wp2_with fail
      refine (nFresh E C p _).mono ?_; rintro e' w' ⟨rfl, n1, os1, rfl⟩
      go_wp2_with fail
      refine bodyPost_ret (v := .tuple #[.agg #[.int .u64 n, .int .u64 (addI C 1)], .bool true]) (by rw [← p2.1]; simp [results, Try.results95, go_sem]) rfl ⟨rfl, ?_⟩
      repeat (first | exact Gr.refl _ | apply Gr.drewN | apply Gr.drew | apply Gr.gw | apply Gr.alloc)
  · rw [if_neg h1, if_neg h1, decide_eq_false h1]
    have hd : decide (E ≤ p) = false := decide_eq_false h1
    go_enter Try.func95, Try.ntmps95
    go_wp2_with fail
    refine (nFresh E C p _).mono ?_; rintro e' w' ⟨rfl, n1, os1, rfl⟩
    go_wp2_with fail
    refine bodyPost_ret (v := .tuple #[.agg #[.int .u64 E, .int .u64 C], .bool false]) (by simp [results, Try.results95, go_sem]) rfl ⟨rfl, ?_⟩
    repeat (first | exact Gr.refl _ | apply Gr.drewN | apply Gr.drew | apply Gr.gw | apply Gr.alloc)
theorem qFresh (E C p : Int) (w : World) :
    Calls Try.prog 96 #[.agg #[.int .u64 E, .int .u64 C], .int .u64 p] w fun e w' => e = .returned (.bool (decide (E ≤ p))) ∧ Gr w w' := by
  go_enter Try.func96, Try.ntmps96
  go_wp2_with fail
  go_ret
  exact ⟨rfl, by repeat (first | exact Gr.refl _ | apply Gr.drewN | apply Gr.drew | apply Gr.gw | apply Gr.alloc)⟩
theorem qBegin (E C p n : Int) (hp : W64 p) (hC : W64 C) (w : World) :
    Calls Try.prog 59 #[.agg #[.int .u64 E, .int .u64 C], .int .u64 p, .int .u64 n] w fun e w' => e = .returned (.tuple #[.agg #[.int .u64 (rndE E p n), .int .u64 (rndC E C p)], .bool (decide (E ≤ p))]) ∧ Gr w w' := by
  unfold rndE rndC
  have Hp := Lib.hid hp
  have HC := Lib.hid hC
  obtain ⟨p3, p4⟩ := hp
  obtain ⟨c3, c4⟩ := hC
  by_cases h1 : E ≤ p
  · rw [if_pos h1, if_pos h1, decide_eq_true h1]
    have hd : decide (E ≤ p) = true := decide_eq_true h1
    by_cases h2 : n ≤ p
    · rw [if_pos h2]
      go_enter Try.func59, Try.ntmps59
      go_wp2_with fail
      refine (qFresh E C p _).mono ?_; rintro e' w' ⟨rfl, n1, os1, rfl⟩
      go_wp2_with fail
      refine (rAdd p 1 Hp.out ⟨by omega, by omega⟩ _).mono ?_; rintro e' w' ⟨rfl, rfl⟩
      go_wp2_with fail
      refine (rAdd C 1 HC.out ⟨by omega, by omega⟩ _).mono ?_; rintro e' w' ⟨rfl, rfl⟩
      go_wp2_with fail
      refine bodyPost_ret (v := .tuple #[.agg #[.int .u64 (addI p 1), .int .u64 (addI C 1)], .bool true]) (by simp [results, Try.results59, go_sem]) rfl ⟨rfl, ?_⟩
      repeat (first | exact Gr.refl _ | apply Gr.drewN | apply Gr.drew | apply Gr.gw | apply Gr.alloc)
    · rw [if_neg h2]
      go_enter Try.func59, Try.ntmps59
      go_wp2_with fail
      refine (qFresh E C p _).mono ?_; rintro e' w' ⟨rfl, n1, os1, rfl⟩
      go_wp2_with fail
      refine (rAdd C 1 HC.out ⟨by omega, by omega⟩ _).mono ?_; rintro e' w' ⟨rfl, rfl⟩
      go_wp2_with fail
      refine bodyPost_ret (v := .tuple #[.agg #[.int .u64 n, .int .u64 (addI C 1)], .bool true]) (by simp [results, Try.results59, go_sem]) rfl ⟨rfl, ?_⟩
      repeat (first | exact Gr.refl _ | apply Gr.drewN | apply Gr.drew | apply Gr.gw | apply Gr.alloc)
  · rw [if_neg h1, if_neg h1, decide_eq_false h1]
    have hd : decide (E ≤ p) = false := decide_eq_false h1
    go_enter Try.func59, Try.ntmps59
    go_wp2_with fail
    refine (qFresh E C p _).mono ?_; rintro e' w' ⟨rfl, n1, os1, rfl⟩
    go_wp2_with fail
    refine bodyPost_ret (v := .tuple #[.agg #[.int .u64 E, .int .u64 C], .bool false]) (by simp [results, Try.results59, go_sem]) rfl ⟨rfl, ?_⟩
    repeat (first | exact Gr.refl _ | apply Gr.drewN | apply Gr.drew | apply Gr.gw | apply Gr.alloc)

end Go.Proofs.Ytikkmdbaekdolaa
