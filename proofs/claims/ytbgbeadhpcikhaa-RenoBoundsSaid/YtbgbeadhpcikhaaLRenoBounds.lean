/- For all cwnd, thresh, acc, acked (32 bits) and mss (16 bits), RenoBounds returns true: a window and what is counted grow by no more than what was acknowledged. No condition. -/
import Derived.Test.YtbgbeadhpcikhaaBase
import Derived.Test.YtbgbeadhpcikhaaAliveReno
namespace Go.Proofs.Ytbgbeadhpcikhaa.renoBounds
open Go.ChangeShapes Go.WideShapes Go.ChangeAt Go.RowKit Go.Lib
set_option linter.unusedVariables false

theorem bounds (m cw t a ak : Int) (hm : 0 ≤ m ∧ m ≤ 65535) (hcw : 0 ≤ cw ∧ cw ≤ 4294967295) (ha : 0 ≤ a ∧ a ≤ 4294967295) (hk : 0 ≤ ak ∧ ak ≤ 4294967295) :
    growC (m + cw) t a ak m + growA (m + cw) t a ak m ≤ m + cw + a + ak ∧ m + cw ≤ growC (m + cw) t a ak m ∧ growC (m + cw) t a ak m - (m + cw) ≤ 2 * m ∧ 0 ≤ growA (m + cw) t a ak m := by
  unfold growC growA slowI addI mulI
  split
  · omega
  · split <;> omega

set_option maxHeartbeats 1000000 in
theorem walkW (a0 a1 a2 a3 a4 : Int) (w : World) (w0 : 0 ≤ a0 ∧ a0 ≤ 4294967295) (w1 : 0 ≤ a1 ∧ a1 ≤ 4294967295) (w2 : 0 ≤ a2 ∧ a2 ≤ 4294967295) (w3 : 0 ≤ a3 ∧ a3 ≤ 4294967295) (w4 : 0 ≤ a4 ∧ a4 ≤ 65535) :
    Calls Try.prog 5 #[.int .u32 a0, .int .u32 a1, .int .u32 a2, .int .u32 a3, .int .u16 a4] w fun e w' => e = .returned (.bool true) ∧ Gr w w' := by
  obtain ⟨b1, b2, b3, b4⟩ := bounds a4 a0 a1 a2 a3 w4 w0 w2 w3
  obtain ⟨d1, d2⟩ := w0
  obtain ⟨d3, d4⟩ := w1
  obtain ⟨d5, d6⟩ := w2
  obtain ⟨d7, d8⟩ := w3
  obtain ⟨d9, d10⟩ := w4
  have hG : growC (a4 + a0) a1 a2 a3 a4 ≤ 18446744073709551615 := by omega
  have hA : growA (a4 + a0) a1 a2 a3 a4 ≤ 18446744073709551615 := by omega
  go_enter Try.func5, Try.ntmps5
  go_wp2_with fail
  refine (aliveReno _).mono ?_; rintro e' w' ⟨rfl, n1, os1, rfl⟩
  go_wp2_with fail
  refine (nGrow (a4 + a0) a1 a2 0 0 0 0 a3 a4 (Wlit (by omega)) (Wlit (by omega)) (Wlit (by omega)) (Wlit (by omega)) _).mono ?_; rintro e' w' ⟨rfl, n2, os2, rfl⟩
  go_wp2_with fail
  go_ret
  exact ⟨rfl, by repeat (first | exact Gr.refl _ | apply Gr.drewN | apply Gr.drew | apply Gr.gw | apply Gr.alloc)⟩

theorem walk (a0 a1 a2 a3 a4 : Int) (w : World) (w0 : 0 ≤ a0 ∧ a0 ≤ 4294967295) (w1 : 0 ≤ a1 ∧ a1 ≤ 4294967295) (w2 : 0 ≤ a2 ∧ a2 ≤ 4294967295) (w3 : 0 ≤ a3 ∧ a3 ≤ 4294967295) (w4 : 0 ≤ a4 ∧ a4 ≤ 65535) :
    Calls Try.prog 5 #[.int .u32 a0, .int .u32 a1, .int .u32 a2, .int .u32 a3, .int .u16 a4] w fun e w' => e = .returned (.bool true) ∧ Below w.heap.size w w' :=
  (walkW a0 a1 a2 a3 a4 w w0 w1 w2 w3 w4).mono fun _ _ h => ⟨h.1, h.2.below⟩

/-! ### the row's step -/
set_option maxRecDepth 100000 in
theorem lifted (os : Os) (started : os.Started) (H : Type) (enc : TypeId × Value → H) :
    ReturnsInHanded {} Try.checked os 5 .any (Rows.renoBoundsSpec.pre6 enc Try.prog Try.f5 Rows.renoBoundsRow.domain false) (Rows.renoBoundsSpec.post enc Try.prog Try.f5 false true false false) := by
  refine returnsInHanded_of_change (C := Try.checked) own started (by kernel_rfl) Try.func5
    (ChangeSpec.witness6 (enc := enc) (C := Try.checked) false ⟨#[], #[.int .u32 0, .int .u32 0, .int .u32 0, .int .u32 0, .int .u16 0], []⟩ 8 (by kernel_rfl) (by kernel_rfl) (by kernel_rfl) (by kernel_rfl)) ?_
  intro W base args ds gs before hval0 hW hcnd _
  have hval : ∀ (j : Nat) t v, Try.f5.params[j]? = some t → args[j]? = some v → Value.okWide Try.prog W .any base t v := hval0
  have hW' := hW
  obtain ⟨p, q, hA0, hV, rfl, hfz, hnd⟩ := hW
  have hA : DataW.TrodAll enc Try.prog W 0 (fun _ => true) true Try.f5.params.toList args.toList ds p := hA0
  rw [Try.params5] at hA hval
  obtain ⟨v0, vs0, d0, ds0, p0, q0, hargs, rfl, rfl, h0, r0⟩ := trodAll_cons hA
  obtain ⟨v1, vs1, d1, ds1, p1, q1, rfl, rfl, rfl, h1, r1⟩ := trodAll_cons r0
  obtain ⟨v2, vs2, d2, ds2, p2, q2, rfl, rfl, rfl, h2, r2⟩ := trodAll_cons r1
  obtain ⟨v3, vs3, d3, ds3, p3, q3, rfl, rfl, rfl, h3, r3⟩ := trodAll_cons r2
  obtain ⟨v4, vs4, d4, ds4, p4, q4, rfl, rfl, rfl, h4, r4⟩ := trodAll_cons r3
  obtain ⟨rfl, rfl, rfl⟩ := trodAll_nil r4
  obtain rfl : args = #[v0, v1, v2, v3, v4] := by cases args; simp_all
  obtain ⟨rfl, rfl⟩ := trodVars_none hV
  obtain ⟨a0, rfl, rfl, rfl, w0⟩ := open_int Try.underlying28 (hval 0 28 v0 rfl rfl) h0
  obtain ⟨a1, rfl, rfl, rfl, w1⟩ := open_int Try.underlying28 (hval 1 28 v1 rfl rfl) h1
  obtain ⟨a2, rfl, rfl, rfl, w2⟩ := open_int Try.underlying28 (hval 2 28 v2 rfl rfl) h2
  obtain ⟨a3, rfl, rfl, rfl, w3⟩ := open_int Try.underlying28 (hval 3 28 v3 rfl rfl) h3
  obtain ⟨a4, rfl, rfl, rfl, w4⟩ := open_int Try.underlying29 (hval 4 29 v4 rfl rfl) h4
  clear hA0 hval0
  refine (walk a0 a1 a2 a3 a4 W (wfU32 w0) (wfU32 w1) (wfU32 w2) (wfU32 w3) (wfU16 w4)).mono fun e W' ⟨he, bel⟩ => ?_
  subst he
  exact ⟨_, rfl, _, _, _, [], _, [], hW', trodAll_mk1 (shut_bool Try.underlying4 _), (trodAll_cons_mk (shut_int Try.underlying28 w0) (trodAll_cons_mk (shut_int Try.underlying28 w1) (trodAll_cons_mk (shut_int Try.underlying28 w2) (trodAll_cons_mk (shut_int Try.underlying28 w3) (trodAll_cons_mk (shut_int Try.underlying29 w4) trodAll_mk0))))), rfl, bel.frame _, fun h => by cases h⟩

theorem over : Rows.renoBoundsRow.holds Try.pinned (OpenSpec.ofChange Rows.renoBoundsSpec) :=
  OpenClaim.holds_of_wide 5 Try.f5 rfl rfl rfl rfl rfl rfl rfl ⟨rfl, rfl, rfl, rfl, rfl⟩ rfl rfl rfl rfl rfl (by kernel_rfl) Try.func5 (by kernel_rfl)
    (of_decide_eq_true (by kernel_rfl)) (by unfold Func.isWrapper; first | (rw [if_pos (by decide +kernel)]; kernel_rfl) | (rw [if_neg (by decide +kernel)]; exact ⟨rfl, rfl⟩))
    (fun os started H enc _ => lifted os started H enc)

/-- THE STATEMENT -/
theorem proved : Rows.RenoBoundsSaid := over
end Go.Proofs.Ytbgbeadhpcikhaa.renoBounds
