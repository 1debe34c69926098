/- For all codepoints ecn and coins, HeadCoins returns true: Ecn and Coin agree with the definition. No condition. -/
import Derived.Test.YtofggpmllfhgaaaBase
import Derived.Test.YtofggpmllfhgaaaAliveHead
namespace Go.Proofs.Ytofggpmllfhgaaa.headCoins
open Go.ChangeShapes Go.WideShapes Go.ChangeAt Go.RowKit Go.Lib
set_option linter.unusedVariables false
set_option maxRecDepth 100000

set_option maxHeartbeats 1000000 in
theorem walkOne (a0 : Int) (a1 : Bool) (w : World) (h : a0 = 1 ∨ a0 = 2 ∨ ((a0 == 1) = false ∧ (a0 == 2) = false)) :
    Calls Try.prog 8 #[.int .i64 a0, .bool a1] w fun e w' => e = .returned (.bool true) ∧ Below w.heap.size w w' := by
  rcases h with rfl | rfl | ⟨d1, d2⟩
  · cases a1
    · go_enter Try.func8, Try.ntmps8
      go_wp2_with fail
      refine (aliveHead _).mono ?_; rintro e' w1 ⟨rfl, b1⟩
      go_wp2_with fail
      refine (hCoin 1 _).mono ?_; rintro e' w' ⟨rfl, rfl⟩
      go_wp2_with fail
      refine (hEcnB false _).mono ?_; rintro e' w' ⟨rfl, rfl⟩
      go_wp2_with fail
      refine (hCoin 2 _).mono ?_; rintro e' w' ⟨rfl, rfl⟩
      go_wp2_with fail
      go_ret
      exact ⟨rfl, b1⟩
    · go_enter Try.func8, Try.ntmps8
      go_wp2_with fail
      refine (aliveHead _).mono ?_; rintro e' w1 ⟨rfl, b1⟩
      go_wp2_with fail
      refine (hCoin 1 _).mono ?_; rintro e' w' ⟨rfl, rfl⟩
      go_wp2_with fail
      refine (hEcnB true _).mono ?_; rintro e' w' ⟨rfl, rfl⟩
      go_wp2_with fail
      refine (hCoin 1 _).mono ?_; rintro e' w' ⟨rfl, rfl⟩
      go_wp2_with fail
      go_ret
      exact ⟨rfl, b1⟩
  · cases a1
    · go_enter Try.func8, Try.ntmps8
      go_wp2_with fail
      refine (aliveHead _).mono ?_; rintro e' w1 ⟨rfl, b1⟩
      go_wp2_with fail
      refine (hCoin 2 _).mono ?_; rintro e' w' ⟨rfl, rfl⟩
      go_wp2_with fail
      refine (hEcnB false _).mono ?_; rintro e' w' ⟨rfl, rfl⟩
      go_wp2_with fail
      refine (hCoin 2 _).mono ?_; rintro e' w' ⟨rfl, rfl⟩
      go_wp2_with fail
      go_ret
      exact ⟨rfl, b1⟩
    · go_enter Try.func8, Try.ntmps8
      go_wp2_with fail
      refine (aliveHead _).mono ?_; rintro e' w1 ⟨rfl, b1⟩
      go_wp2_with fail
      refine (hCoin 2 _).mono ?_; rintro e' w' ⟨rfl, rfl⟩
      go_wp2_with fail
      refine (hEcnB true _).mono ?_; rintro e' w' ⟨rfl, rfl⟩
      go_wp2_with fail
      refine (hCoin 1 _).mono ?_; rintro e' w' ⟨rfl, rfl⟩
      go_wp2_with fail
      go_ret
      exact ⟨rfl, b1⟩
  · cases a1
    · go_enter Try.func8, Try.ntmps8
      go_wp2_with fail
      refine (aliveHead _).mono ?_; rintro e' w1 ⟨rfl, b1⟩
      go_wp2_with fail
      refine (hCoin a0 _).mono ?_; rintro e' w' ⟨rfl, rfl⟩
      go_wp2_with fail
      refine (hEcnB false _).mono ?_; rintro e' w' ⟨rfl, rfl⟩
      go_wp2_with fail
      refine (hCoin 2 _).mono ?_; rintro e' w' ⟨rfl, rfl⟩
      go_wp2_with fail
      go_ret
      exact ⟨rfl, b1⟩
    · go_enter Try.func8, Try.ntmps8
      go_wp2_with fail
      refine (aliveHead _).mono ?_; rintro e' w1 ⟨rfl, b1⟩
      go_wp2_with fail
      refine (hCoin a0 _).mono ?_; rintro e' w' ⟨rfl, rfl⟩
      go_wp2_with fail
      refine (hEcnB true _).mono ?_; rintro e' w' ⟨rfl, rfl⟩
      go_wp2_with fail
      refine (hCoin 1 _).mono ?_; rintro e' w' ⟨rfl, rfl⟩
      go_wp2_with fail
      go_ret
      exact ⟨rfl, b1⟩

theorem walk (a0 : Int) (a1 : Bool) (w : World) (w0 : -9223372036854775808 ≤ a0 ∧ a0 ≤ 9223372036854775807) :
    Calls Try.prog 8 #[.int .i64 a0, .bool a1] w fun e w' => e = .returned (.bool true) ∧ Below w.heap.size w w' := by
  refine walkOne a0 a1 w ?_
  by_cases h1 : a0 = 1
  · exact .inl h1
  by_cases h2 : a0 = 2
  · exact .inr (.inl h2)
  · exact .inr (.inr ⟨by rw [beq_eq_false_iff_ne]; exact h1, by rw [beq_eq_false_iff_ne]; exact h2⟩)

/-! ### the row's step -/
set_option maxRecDepth 100000 in
theorem lifted (os : Os) (started : os.Started) (H : Type) (enc : TypeId × Value → H) :
    ReturnsInHanded {} Try.checked os 8 .any (Rows.headCoinsSpec.pre6 enc Try.prog Try.f8 Rows.headCoinsRow.domain false) (Rows.headCoinsSpec.post enc Try.prog Try.f8 false true false false) := by
  refine returnsInHanded_of_change (C := Try.checked) own started (by kernel_rfl) Try.func8
    (ChangeSpec.witness6 (enc := enc) (C := Try.checked) false ⟨#[], #[.int .i64 0, .bool false], []⟩ 8 (by kernel_rfl) (by kernel_rfl) (by kernel_rfl) (by kernel_rfl)) ?_
  intro W base args ds gs before hval0 hW hcnd _
  have hval : ∀ (j : Nat) t v, Try.f8.params[j]? = some t → args[j]? = some v → Value.okWide Try.prog W .any base t v := hval0
  have hW' := hW
  obtain ⟨p, q, hA0, hV, rfl, hfz, hnd⟩ := hW
  have hA : DataW.TrodAll enc Try.prog W 0 (fun _ => true) true Try.f8.params.toList args.toList ds p := hA0
  rw [Try.params8] at hA hval
  obtain ⟨v0, vs0, d0, ds0, p0, q0, hargs, rfl, rfl, h0, r0⟩ := trodAll_cons hA
  obtain ⟨v1, vs1, d1, ds1, p1, q1, rfl, rfl, rfl, h1, r1⟩ := trodAll_cons r0
  obtain ⟨rfl, rfl, rfl⟩ := trodAll_nil r1
  obtain rfl : args = #[v0, v1] := by cases args; simp_all
  obtain ⟨rfl, rfl⟩ := trodVars_none hV
  obtain ⟨a0, rfl, rfl, rfl, w0⟩ := open_int Try.underlying3 (hval 0 3 v0 rfl rfl) h0
  obtain ⟨a1, rfl, rfl, rfl⟩ := open_bool Try.underlying4 (hval 1 4 v1 rfl rfl) h1
  clear hA0 hval0
  refine (walk a0 a1 W (wfI64 w0)).mono fun e W' ⟨he, bel⟩ => ?_
  subst he
  exact ⟨_, rfl, _, _, _, [], _, [], hW', trodAll_mk1 (shut_bool Try.underlying4 _), (trodAll_cons_mk (shut_int Try.underlying3 w0) (trodAll_cons_mk (shut_bool Try.underlying4 _) trodAll_mk0)), rfl, bel.frame _, fun h => by cases h⟩

theorem over : Rows.headCoinsRow.holds Try.pinned (OpenSpec.ofChange Rows.headCoinsSpec) :=
  OpenClaim.holds_of_wide 8 Try.f8 rfl rfl rfl rfl rfl rfl rfl ⟨rfl, rfl, rfl, rfl, rfl⟩ rfl rfl rfl rfl rfl (by kernel_rfl) Try.func8 (by kernel_rfl)
    (of_decide_eq_true (by kernel_rfl)) (by unfold Func.isWrapper; first | (rw [if_pos (by decide +kernel)]; kernel_rfl) | (rw [if_neg (by decide +kernel)]; exact ⟨rfl, rfl⟩))
    (fun os started H enc _ => lifted os started H enc)

/-- THE STATEMENT -/
theorem proved : Rows.HeadCoinsSaid := over
end Go.Proofs.Ytofggpmllfhgaaa.headCoins
