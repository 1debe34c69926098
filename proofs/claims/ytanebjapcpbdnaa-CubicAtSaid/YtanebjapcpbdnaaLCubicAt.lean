/- For all words peak, k, t, mss, CubicAt returns true: At agrees with the definition. No condition. -/
import Derived.Test.YtanebjapcpbdnaaBase
import Derived.Test.YtanebjapcpbdnaaAliveCubic
namespace Go.Proofs.Ytanebjapcpbdnaa.cubicAt
open Go.ChangeShapes Go.WideShapes Go.ChangeAt Go.RowKit Go.Lib
set_option linter.unusedVariables false

set_option maxHeartbeats 2000000 in
theorem walkG (p k t m : Int) (w : World) (wp : W64 p) (wk : W64 k) (wt : W64 t) (wm : W64 m) :
    Calls Try.prog 8 #[.int .u64 p, .int .u64 k, .int .u64 t, .int .u64 m] w fun e w' => e = .returned (.bool true) ∧ Gr w w' := by
  have Hp := Lib.hid wp
  have Hk := Lib.hid wk
  have Ht := Lib.hid wt
  have Hm := Lib.hid wm
  clear wp wk wt wm
  go_enter Try.func8, Try.ntmps8
  go_wp2_with fail
  ((with_reducible refine (aliveCubic _).mono ?_); rintro e' w' ⟨rfl, n4, os4, rfl⟩)
  go_wp2_with fail
  ((with_reducible refine (tAt p k t m Hp.out Hk.out Ht.out Hm.out _).mono ?_); rintro e' w' ⟨rfl, n5, rfl⟩)
  go_wp2_with fail
  ((with_reducible refine (rAt p k t m Hp.out Hk.out Ht.out Hm.out _).mono ?_); rintro e' w' ⟨rfl, n6, os6, rfl⟩)
  go_wp2_with fail
  go_ret
  exact ⟨rfl, by repeat (first | exact Gr.refl _ | apply Gr.drewN | apply Gr.drew | apply Gr.gw | apply Gr.alloc)⟩

theorem walk (p k t m : Int) (w : World) (wp : W64 p) (wk : W64 k) (wt : W64 t) (wm : W64 m) :
    Calls Try.prog 8 #[.int .u64 p, .int .u64 k, .int .u64 t, .int .u64 m] w fun e w' => e = .returned (.bool true) ∧ Below w.heap.size w w' :=
  (walkG p k t m w wp wk wt wm).mono fun _ _ h => ⟨h.1, h.2.below⟩

/-! ### the row's step -/
set_option maxRecDepth 100000 in
theorem lifted (os : Os) (started : os.Started) (H : Type) (enc : TypeId × Value → H) :
    ReturnsInHanded {} Try.checked os 8 .any (Rows.cubicAtSpec.pre6 enc Try.prog Try.f8 Rows.cubicAtRow.domain false) (Rows.cubicAtSpec.post enc Try.prog Try.f8 false true false false) := by
  refine returnsInHanded_of_change (C := Try.checked) own started (by kernel_rfl) Try.func8
    (ChangeSpec.witness6 (enc := enc) (C := Try.checked) false ⟨#[], #[.int .u64 0, .int .u64 0, .int .u64 0, .int .u64 0], []⟩ 8 (by kernel_rfl) (by kernel_rfl) (by kernel_rfl) (by kernel_rfl)) ?_
  intro W base args ds gs before hval0 hW hcnd _
  have hval : ∀ (j : Nat) t v, Try.f8.params[j]? = some t → args[j]? = some v → Value.okWide Try.prog W .any base t v := hval0
  have hW' := hW
  obtain ⟨p, q, hA0, hV, rfl, hfz, hnd⟩ := hW
  have hA : DataW.TrodAll enc Try.prog W 0 (fun _ => true) true Try.f8.params.toList args.toList ds p := hA0
  rw [Try.params8] at hA hval
  obtain ⟨v0, vs0, d0, ds0, p0, q0, hargs, rfl, rfl, h0, r0⟩ := trodAll_cons hA
  obtain ⟨v1, vs1, d1, ds1, p1, q1, rfl, rfl, rfl, h1, r1⟩ := trodAll_cons r0
  obtain ⟨v2, vs2, d2, ds2, p2, q2, rfl, rfl, rfl, h2, r2⟩ := trodAll_cons r1
  obtain ⟨v3, vs3, d3, ds3, p3, q3, rfl, rfl, rfl, h3, r3⟩ := trodAll_cons r2
  obtain ⟨rfl, rfl, rfl⟩ := trodAll_nil r3
  obtain rfl : args = #[v0, v1, v2, v3] := by cases args; simp_all
  obtain ⟨rfl, rfl⟩ := trodVars_none hV
  obtain ⟨a0, rfl, rfl, rfl, w0⟩ := open_int Try.underlying22 (hval 0 22 v0 rfl rfl) h0
  obtain ⟨a1, rfl, rfl, rfl, w1⟩ := open_int Try.underlying22 (hval 1 22 v1 rfl rfl) h1
  obtain ⟨a2, rfl, rfl, rfl, w2⟩ := open_int Try.underlying22 (hval 2 22 v2 rfl rfl) h2
  obtain ⟨a3, rfl, rfl, rfl, w3⟩ := open_int Try.underlying22 (hval 3 22 v3 rfl rfl) h3
  clear hA0 hval0
  refine (walk a0 a1 a2 a3 W (wfU64 w0) (wfU64 w1) (wfU64 w2) (wfU64 w3)).mono fun e W' ⟨he, bel⟩ => ?_
  subst he
  exact ⟨_, rfl, _, _, _, [], _, [], hW', trodAll_mk1 (shut_bool Try.underlying4 _), (trodAll_cons_mk (shut_int Try.underlying22 w0) (trodAll_cons_mk (shut_int Try.underlying22 w1) (trodAll_cons_mk (shut_int Try.underlying22 w2) (trodAll_cons_mk (shut_int Try.underlying22 w3) trodAll_mk0)))), rfl, bel.frame _, fun h => by cases h⟩

theorem over : Rows.cubicAtRow.holds Try.pinned (OpenSpec.ofChange Rows.cubicAtSpec) :=
  OpenClaim.holds_of_wide 8 Try.f8 rfl rfl rfl rfl rfl rfl rfl ⟨rfl, rfl, rfl, rfl, rfl⟩ rfl rfl rfl rfl rfl (by kernel_rfl) Try.func8 (by kernel_rfl)
    (of_decide_eq_true (by kernel_rfl)) (by unfold Func.isWrapper; first | (rw [if_pos (by decide +kernel)]; kernel_rfl) | (rw [if_neg (by decide +kernel)]; exact ⟨rfl, rfl⟩))
    (fun os started H enc _ => lifted os started H enc)

/-- THE STATEMENT -/
theorem proved : Rows.CubicAtSaid := over
end Go.Proofs.Ytanebjapcpbdnaa.cubicAt
