/- For all words hi, lo, d, WideBack returns true: the quotient times the divisor and the rest is the dividend. No condition. -/
import Derived.Test.YtinbfjkonaohnaaBase
import Derived.Test.YtinbfjkonaohnaaAliveWide
namespace Go.Proofs.Ytinbfjkonaohnaa.wideBack
open Go.ChangeShapes Go.WideShapes Go.ChangeAt Go.RowKit Go.Lib
set_option linter.unusedVariables false

theorem back (hi lo d : Int) (hh : W64 hi) (hl : W64 lo) (hd : W64 d) (hlt : hi < d) :
    W64 (divQ hi lo d) ∧ 0 ≤ divR hi lo d ∧ divR hi lo d < d ∧ IntKind.u64.wrap (mulLo (divQ hi lo d) d + divR hi lo d) = lo ∧
      ((lo < mulLo (divQ hi lo d) d ∧ IntKind.u64.wrap (mulHi (divQ hi lo d) d + 1) = hi) ∨ (mulLo (divQ hi lo d) d ≤ lo ∧ mulHi (divQ hi lo d) d = hi)) := by
  have e := parts (divQ hi lo d) d
  have eL := mulLo_W (divQ hi lo d) d
  have e2 : divQ hi lo d * d + divR hi lo d = hi * 18446744073709551616 + lo := by
    unfold divQ divR
    rw [Int.mul_comm]
    exact Int.mul_ediv_add_emod _ _
  have r0 : 0 ≤ divR hi lo d := Int.emod_nonneg _ (by have := hh.1; omega)
  have r1 : divR hi lo d < d := Int.emod_lt_of_pos _ (by have := hh.1; omega)
  have q0 : 0 ≤ divQ hi lo d := Int.ediv_nonneg (by have := hh.1; have := hl.1; omega) hd.1
  have q1 : divQ hi lo d < 18446744073709551616 := by
    unfold divQ
    rw [Int.ediv_lt_iff_lt_mul (by have := hh.1; omega)]
    have := hl.2
    omega
  obtain ⟨h0, h1⟩ := hh
  obtain ⟨l0, l1⟩ := hl
  obtain ⟨d0, d1⟩ := hd
  refine ⟨⟨q0, by omega⟩, r0, r1, ?_, ?_⟩
  · rw [IntKind.wrap_u64]
    obtain ⟨m0, m1⟩ := eL
    rw [← e] at e2
    omega
  · rw [IntKind.wrap_u64]
    obtain ⟨m0, m1⟩ := eL
    rw [← e] at e2
    omega

set_option maxHeartbeats 400000 in
theorem walk (a0 a1 a2 : Int) (w : World) (w0 : W64 a0) (w1 : W64 a1) (w2 : W64 a2) :
    Calls Try.prog 14 #[.int .u64 a0, .int .u64 a1, .int .u64 a2] w fun e w' => e = .returned (.bool true) ∧ Below w.heap.size w w' := by
  have H0 := Lib.hid w0
  have H1 := Lib.hid w1
  have H2 := Lib.hid w2
  clear w0 w1 w2
  by_cases h : a2 ≤ a0
  · go_enter Try.func14, Try.ntmps14
    go_wp2_with fail
    refine (aliveWide _).mono ?_; rintro e w1 ⟨rfl, hb1⟩
    go_wp2_with fail
    refine (wDivNo _ _ _ h _).mono ?_; rintro e w' ⟨rfl, rfl⟩
    go_wp2_with fail
    go_ret
    exact ⟨rfl, hb1⟩
  · have H : Hid (a0 < a2) := by show _ < _; omega
    clear h
    obtain ⟨b1, b2, b3, b4, b5⟩ := back a0 a1 a2 H0.out H1.out H2.out H.out
    have B1 := Lib.hid b1
    clear b1
    rcases b5 with ⟨c1, c2⟩ | ⟨c1, c2⟩
    all_goals
      go_enter Try.func14, Try.ntmps14
      go_wp2_with fail
      refine (aliveWide _).mono ?_; rintro e w1 ⟨rfl, hb1⟩
      go_wp2_with fail
      refine (wDivYes _ _ _ H0.out H1.out H2.out H.out _).mono ?_; rintro e w' ⟨rfl, n, rfl⟩
      go_wp2_with fail
      refine (wMul _ _ B1.out H2.out _).mono ?_; rintro e w' ⟨rfl, rfl⟩
      go_wp2_with fail
      go_ret
      exact ⟨rfl, below_drewN hb1 _⟩

/-! ### the row's step -/
set_option maxRecDepth 100000 in
theorem lifted (os : Os) (started : os.Started) (H : Type) (enc : TypeId × Value → H) :
    ReturnsInHanded {} Try.checked os 14 .any (Rows.wideBackSpec.pre6 enc Try.prog Try.f14 Rows.wideBackRow.domain false) (Rows.wideBackSpec.post enc Try.prog Try.f14 false true false false) := by
  refine returnsInHanded_of_change (C := Try.checked) own started (by kernel_rfl) Try.func14
    (ChangeSpec.witness6 (enc := enc) (C := Try.checked) false ⟨#[], #[.int .u64 0, .int .u64 0, .int .u64 0], []⟩ 8 (by kernel_rfl) (by kernel_rfl) (by kernel_rfl) (by kernel_rfl)) ?_
  intro W base args ds gs before hval0 hW hcnd _
  have hval : ∀ (j : Nat) t v, Try.f14.params[j]? = some t → args[j]? = some v → Value.okWide Try.prog W .any base t v := hval0
  have hW' := hW
  obtain ⟨p, q, hA0, hV, rfl, hfz, hnd⟩ := hW
  have hA : DataW.TrodAll enc Try.prog W 0 (fun _ => true) true Try.f14.params.toList args.toList ds p := hA0
  rw [Try.params14] at hA hval
  obtain ⟨v0, vs0, d0, ds0, p0, q0, hargs, rfl, rfl, h0, r0⟩ := trodAll_cons hA
  obtain ⟨v1, vs1, d1, ds1, p1, q1, rfl, rfl, rfl, h1, r1⟩ := trodAll_cons r0
  obtain ⟨v2, vs2, d2, ds2, p2, q2, rfl, rfl, rfl, h2, r2⟩ := trodAll_cons r1
  obtain ⟨rfl, rfl, rfl⟩ := trodAll_nil r2
  obtain rfl : args = #[v0, v1, v2] := by cases args; simp_all
  obtain ⟨rfl, rfl⟩ := trodVars_none hV
  obtain ⟨a0, rfl, rfl, rfl, w0⟩ := open_int Try.underlying22 (hval 0 22 v0 rfl rfl) h0
  obtain ⟨a1, rfl, rfl, rfl, w1⟩ := open_int Try.underlying22 (hval 1 22 v1 rfl rfl) h1
  obtain ⟨a2, rfl, rfl, rfl, w2⟩ := open_int Try.underlying22 (hval 2 22 v2 rfl rfl) h2
  clear hA0 hval0
  refine (walk a0 a1 a2 W (wfU64 w0) (wfU64 w1) (wfU64 w2)).mono fun e W' ⟨he, bel⟩ => ?_
  subst he
  exact ⟨_, rfl, _, _, _, [], _, [], hW', trodAll_mk1 (shut_bool Try.underlying4 _), (trodAll_cons_mk (shut_int Try.underlying22 w0) (trodAll_cons_mk (shut_int Try.underlying22 w1) (trodAll_cons_mk (shut_int Try.underlying22 w2) trodAll_mk0))), rfl, bel.frame _, fun h => by cases h⟩

theorem over : Rows.wideBackRow.holds Try.pinned (OpenSpec.ofChange Rows.wideBackSpec) :=
  OpenClaim.holds_of_wide 14 Try.f14 rfl rfl rfl rfl rfl rfl rfl ⟨rfl, rfl, rfl, rfl, rfl⟩ rfl rfl rfl rfl rfl (by kernel_rfl) Try.func14 (by kernel_rfl)
    (of_decide_eq_true (by kernel_rfl)) (by unfold Func.isWrapper; first | (rw [if_pos (by decide +kernel)]; kernel_rfl) | (rw [if_neg (by decide +kernel)]; exact ⟨rfl, rfl⟩))
    (fun os started H enc _ => lifted os started H enc)

/-- THE STATEMENT -/
theorem proved : Rows.WideBackSaid := over
end Go.Proofs.Ytinbfjkonaohnaa.wideBack
