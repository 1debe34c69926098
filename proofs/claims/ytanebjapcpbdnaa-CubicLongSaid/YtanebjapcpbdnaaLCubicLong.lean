/- For all words peak, cwnd, mss, CubicLong returns true: Long agrees with the definition. No condition. -/
import Derived.Test.YtanebjapcpbdnaaBase
import Derived.Test.YtanebjapcpbdnaaAliveCubic
namespace Go.Proofs.Ytanebjapcpbdnaa.cubicLong
open Go.ChangeShapes Go.WideShapes Go.ChangeAt Go.RowKit Go.Lib
set_option linter.unusedVariables false

set_option maxHeartbeats 2000000 in
theorem walkG (p c m : Int) (w : World) (wp : W64 p) (wc : W64 c) (wm : W64 m) :
    Calls Try.prog 7 #[.int .u64 p, .int .u64 c, .int .u64 m] w fun e w' => e = .returned (.bool true) ∧ Gr w w' := by
  have Hp := Lib.hid wp
  have Hc := Lib.hid wc
  have Hm := Lib.hid wm
  clear wp wc wm
  go_enter Try.func7, Try.ntmps7
  go_wp2_with fail
  ((with_reducible refine (aliveCubic _).mono ?_); rintro e' w' ⟨rfl, n1, os1, rfl⟩)
  go_wp2_with fail
  ((with_reducible refine (tLong p c m Hp.out Hc.out Hm.out _).mono ?_); rintro e' w' ⟨rfl, n2, rfl⟩)
  go_wp2_with fail
  ((with_reducible refine (rLong p c m Hp.out Hc.out Hm.out _).mono ?_); rintro e' w' ⟨rfl, n3, os3, rfl⟩)
  go_wp2_with fail
  go_ret
  exact ⟨rfl, by repeat (first | exact Gr.refl _ | apply Gr.drewN | apply Gr.drew | apply Gr.gw | apply Gr.alloc)⟩

theorem walk (p c m : Int) (w : World) (wp : W64 p) (wc : W64 c) (wm : W64 m) :
    Calls Try.prog 7 #[.int .u64 p, .int .u64 c, .int .u64 m] w fun e w' => e = .returned (.bool true) ∧ Below w.heap.size w w' :=
  (walkG p c m w wp wc wm).mono fun _ _ h => ⟨h.1, h.2.below⟩

/-! ### the row's step -/
set_option maxRecDepth 100000 in
theorem lifted (os : Os) (started : os.Started) (H : Type) (enc : TypeId × Value → H) :
    ReturnsInHanded {} Try.checked os 7 .any (Rows.cubicLongSpec.pre6 enc Try.prog Try.f7 Rows.cubicLongRow.domain false) (Rows.cubicLongSpec.post enc Try.prog Try.f7 false true false false) := by
  refine returnsInHanded_of_change (C := Try.checked) own started (by kernel_rfl) Try.func7
    (ChangeSpec.witness6 (enc := enc) (C := Try.checked) false ⟨#[], #[.int .u64 0, .int .u64 0, .int .u64 0], []⟩ 8 (by kernel_rfl) (by kernel_rfl) (by kernel_rfl) (by kernel_rfl)) ?_
  intro W base args ds gs before hval0 hW hcnd _
  have hval : ∀ (j : Nat) t v, Try.f7.params[j]? = some t → args[j]? = some v → Value.okWide Try.prog W .any base t v := hval0
  have hW' := hW
  obtain ⟨p, q, hA0, hV, rfl, hfz, hnd⟩ := hW
  have hA : DataW.TrodAll enc Try.prog W 0 (fun _ => true) true Try.f7.params.toList args.toList ds p := hA0
  rw [Try.params7] at hA hval
  obtain ⟨v0, vs0, d0, ds0, p0, q0, hargs, rfl, rfl, h0, r0⟩ := trodAll_cons hA
  obtain ⟨v1, vs1, d1, ds1, p1, q1, rfl, rfl, rfl, h1, r1⟩ := trodAll_cons r0
  obtain ⟨v2, vs2, d2, ds2, p2, q2, rfl, rfl, rfl, h2, r2⟩ := trodAll_cons r1
  obtain ⟨rfl, rfl, rfl⟩ := trodAll_nil r2
  obtain rfl : args = #[v0, v1, v2] := by cases args; simp_all
  obtain ⟨rfl, rfl⟩ := trodVars_none hV
  obtain ⟨a0, rfl, rfl, rfl, w0⟩ := open_int Try.underlying22 (hval 0 22 v0 rfl rfl) h0
  obtain ⟨a1, rfl, rfl, rfl, w1⟩ := open_int Try.underlying22 (hval 1 22 v1 rfl rfl) h1
  obtain ⟨a2, rfl, rfl, rfl, w2⟩ := open_int Try.underlying22 (hval 2 22 v2 rfl rfl) h2
  clear hA0 hval0
  refine (walk a0 a1 a2 W (wfU64 w0) (wfU64 w1) (wfU64 w2)).mono fun e W' ⟨he, bel⟩ => ?_
  subst he
  exact ⟨_, rfl, _, _, _, [], _, [], hW', trodAll_mk1 (shut_bool Try.underlying4 _), (trodAll_cons_mk (shut_int Try.underlying22 w0) (trodAll_cons_mk (shut_int Try.underlying22 w1) (trodAll_cons_mk (shut_int Try.underlying22 w2) trodAll_mk0))), rfl, bel.frame _, fun h => by cases h⟩

theorem over : Rows.cubicLongRow.holds Try.pinned (OpenSpec.ofChange Rows.cubicLongSpec) :=
  OpenClaim.holds_of_wide 7 Try.f7 rfl rfl rfl rfl rfl rfl rfl ⟨rfl, rfl, rfl, rfl, rfl⟩ rfl rfl rfl rfl rfl (by kernel_rfl) Try.func7 (by kernel_rfl)
    (of_decide_eq_true (by kernel_rfl)) (by unfold Func.isWrapper; first | (rw [if_pos (by decide +kernel)]; kernel_rfl) | (rw [if_neg (by decide +kernel)]; exact ⟨rfl, rfl⟩))
    (fun os started H enc _ => lifted os started H enc)

/-- THE STATEMENT -/
theorem proved : Rows.CubicLongSaid := over
end Go.Proofs.Ytanebjapcpbdnaa.cubicLong
