/- For all words peak, k, t, u, mss, CubicRises returns true: the curve rises with the time, is the peak at its time, and no more ahead of it. No condition. -/
import Derived.Test.YtanebjapcpbdnaaBase
import Derived.Test.YtanebjapcpbdnaaAliveCubic
import Derived.Test.YtanebjapcpbdnaaCurve
namespace Go.Proofs.Ytanebjapcpbdnaa.cubicRises
open Go.ChangeShapes Go.WideShapes Go.ChangeAt Go.RowKit Go.Lib
set_option linter.unusedVariables false

set_option maxHeartbeats 8000000 in
theorem walkYes (p k t u m : Int) (w : World) (h : t ≤ u) (wp : W64 p) (wk : W64 k) (wt : W64 t) (wu : W64 u) (wm : W64 m) :
    Calls Try.prog 10 #[.int .u64 p, .int .u64 k, .int .u64 t, .int .u64 u, .int .u64 m] w fun e w' => e = .returned (.bool true) ∧ Gr w w' := by
  obtain ⟨r1, r2, r3⟩ := atI_rises p k t u m wp wt wu wk h
  have Hpk := Lib.hid (atI_peak p k m wp)
  have hx0 := (atI_W p k t m wp).1
  have hy1 := (atI_W p k u m wp).2
  have R2 := Lib.hid r2
  have R3 := Lib.hid r3
  have hd : decide (u < t) = false := by rw [decide_eq_false_iff_not]; omega
  clear r2 r3
  have Hp := Lib.hid wp
  have Hk := Lib.hid wk
  have Ht := Lib.hid wt
  have Hu := Lib.hid wu
  have Hm := Lib.hid wm
  clear wp wk wt wu wm
  by_cases h1 : k < u
  · by_cases h2 : t < k
    · go_enter Try.func10, Try.ntmps10
      go_wp2_with fail
      ((with_reducible refine (aliveCubic _).mono ?_); rintro e' w' ⟨rfl, n7, os7, rfl⟩)
      go_wp2_with fail
      ((with_reducible refine (tAt p k t m Hp.out Hk.out Ht.out Hm.out _).mono ?_); rintro e' w' ⟨rfl, n8, rfl⟩)
      go_wp2_with fail
      ((with_reducible refine (tAt p k u m Hp.out Hk.out Hu.out Hm.out _).mono ?_); rintro e' w' ⟨rfl, n9, rfl⟩)
      go_wp2_with fail
      ((with_reducible refine (tAt p k k m Hp.out Hk.out Hk.out Hm.out _).mono ?_); rintro e' w' ⟨rfl, n10, rfl⟩)
      rw [Hpk.out]
      go_wp2_with fail
      go_ret
      exact ⟨rfl, by repeat (first | exact Gr.refl _ | apply Gr.drewN | apply Gr.drew | apply Gr.gw | apply Gr.alloc)⟩
    · have h2x : k ≤ t := by omega
      have h3 := R3.out h2x
      clear h2
      go_enter Try.func10, Try.ntmps10
      go_wp2_with fail
      ((with_reducible refine (aliveCubic _).mono ?_); rintro e' w' ⟨rfl, n11, os11, rfl⟩)
      go_wp2_with fail
      ((with_reducible refine (tAt p k t m Hp.out Hk.out Ht.out Hm.out _).mono ?_); rintro e' w' ⟨rfl, n12, rfl⟩)
      go_wp2_with fail
      ((with_reducible refine (tAt p k u m Hp.out Hk.out Hu.out Hm.out _).mono ?_); rintro e' w' ⟨rfl, n13, rfl⟩)
      go_wp2_with fail
      ((with_reducible refine (tAt p k k m Hp.out Hk.out Hk.out Hm.out _).mono ?_); rintro e' w' ⟨rfl, n14, rfl⟩)
      rw [Hpk.out]
      go_wp2_with fail
      go_ret
      exact ⟨rfl, by repeat (first | exact Gr.refl _ | apply Gr.drewN | apply Gr.drew | apply Gr.gw | apply Gr.alloc)⟩
  · have h1x : u ≤ k := by omega
    have h3 := R2.out h1x
    clear h1
    by_cases h2 : t < k
    · go_enter Try.func10, Try.ntmps10
      go_wp2_with fail
      ((with_reducible refine (aliveCubic _).mono ?_); rintro e' w' ⟨rfl, n15, os15, rfl⟩)
      go_wp2_with fail
      ((with_reducible refine (tAt p k t m Hp.out Hk.out Ht.out Hm.out _).mono ?_); rintro e' w' ⟨rfl, n16, rfl⟩)
      go_wp2_with fail
      ((with_reducible refine (tAt p k u m Hp.out Hk.out Hu.out Hm.out _).mono ?_); rintro e' w' ⟨rfl, n17, rfl⟩)
      go_wp2_with fail
      ((with_reducible refine (tAt p k k m Hp.out Hk.out Hk.out Hm.out _).mono ?_); rintro e' w' ⟨rfl, n18, rfl⟩)
      rw [Hpk.out]
      go_wp2_with fail
      go_ret
      exact ⟨rfl, by repeat (first | exact Gr.refl _ | apply Gr.drewN | apply Gr.drew | apply Gr.gw | apply Gr.alloc)⟩
    · have h2x : k ≤ t := by omega
      have h4 := R3.out h2x
      clear h2
      go_enter Try.func10, Try.ntmps10
      go_wp2_with fail
      ((with_reducible refine (aliveCubic _).mono ?_); rintro e' w' ⟨rfl, n19, os19, rfl⟩)
      go_wp2_with fail
      ((with_reducible refine (tAt p k t m Hp.out Hk.out Ht.out Hm.out _).mono ?_); rintro e' w' ⟨rfl, n20, rfl⟩)
      go_wp2_with fail
      ((with_reducible refine (tAt p k u m Hp.out Hk.out Hu.out Hm.out _).mono ?_); rintro e' w' ⟨rfl, n21, rfl⟩)
      go_wp2_with fail
      ((with_reducible refine (tAt p k k m Hp.out Hk.out Hk.out Hm.out _).mono ?_); rintro e' w' ⟨rfl, n22, rfl⟩)
      rw [Hpk.out]
      go_wp2_with fail
      go_ret
      exact ⟨rfl, by repeat (first | exact Gr.refl _ | apply Gr.drewN | apply Gr.drew | apply Gr.gw | apply Gr.alloc)⟩

set_option maxHeartbeats 2000000 in
theorem walkG (p k t u m : Int) (w : World) (wp : W64 p) (wk : W64 k) (wt : W64 t) (wu : W64 u) (wm : W64 m) :
    Calls Try.prog 10 #[.int .u64 p, .int .u64 k, .int .u64 t, .int .u64 u, .int .u64 m] w fun e w' => e = .returned (.bool true) ∧ Gr w w' := by
  by_cases h : t ≤ u
  · exact walkYes p k t u m w h wp wk wt wu wm
  · have h' : u < t := by omega
    clear h
    have Hp := Lib.hid wp
    have Hk := Lib.hid wk
    have Ht := Lib.hid wt
    have Hu := Lib.hid wu
    have Hm := Lib.hid wm
    clear wp wk wt wu wm
    go_enter Try.func10, Try.ntmps10
    go_wp2_with fail
    ((with_reducible refine (aliveCubic _).mono ?_); rintro e' w' ⟨rfl, n23, os23, rfl⟩)
    go_wp2_with fail
    ((with_reducible refine (aliveCubic _).mono ?_); rintro e' w' ⟨rfl, n24, os24, rfl⟩)
    go_wp2_with fail
    go_ret
    exact ⟨rfl, by repeat (first | exact Gr.refl _ | apply Gr.drewN | apply Gr.drew | apply Gr.gw | apply Gr.alloc)⟩

theorem walk (p k t u m : Int) (w : World) (wp : W64 p) (wk : W64 k) (wt : W64 t) (wu : W64 u) (wm : W64 m) :
    Calls Try.prog 10 #[.int .u64 p, .int .u64 k, .int .u64 t, .int .u64 u, .int .u64 m] w fun e w' => e = .returned (.bool true) ∧ Below w.heap.size w w' :=
  (walkG p k t u m w wp wk wt wu wm).mono fun _ _ h => ⟨h.1, h.2.below⟩

/-! ### the row's step -/
set_option maxRecDepth 100000 in
theorem lifted (os : Os) (started : os.Started) (H : Type) (enc : TypeId × Value → H) :
    ReturnsInHanded {} Try.checked os 10 .any (Rows.cubicRisesSpec.pre6 enc Try.prog Try.f10 Rows.cubicRisesRow.domain false) (Rows.cubicRisesSpec.post enc Try.prog Try.f10 false true false false) := by
  refine returnsInHanded_of_change (C := Try.checked) own started (by kernel_rfl) Try.func10
    (ChangeSpec.witness6 (enc := enc) (C := Try.checked) false ⟨#[], #[.int .u64 0, .int .u64 0, .int .u64 0, .int .u64 0, .int .u64 0], []⟩ 8 (by kernel_rfl) (by kernel_rfl) (by kernel_rfl) (by kernel_rfl)) ?_
  intro W base args ds gs before hval0 hW hcnd _
  have hval : ∀ (j : Nat) t v, Try.f10.params[j]? = some t → args[j]? = some v → Value.okWide Try.prog W .any base t v := hval0
  have hW' := hW
  obtain ⟨p, q, hA0, hV, rfl, hfz, hnd⟩ := hW
  have hA : DataW.TrodAll enc Try.prog W 0 (fun _ => true) true Try.f10.params.toList args.toList ds p := hA0
  rw [Try.params10] at hA hval
  obtain ⟨v0, vs0, d0, ds0, p0, q0, hargs, rfl, rfl, h0, r0⟩ := trodAll_cons hA
  obtain ⟨v1, vs1, d1, ds1, p1, q1, rfl, rfl, rfl, h1, r1⟩ := trodAll_cons r0
  obtain ⟨v2, vs2, d2, ds2, p2, q2, rfl, rfl, rfl, h2, r2⟩ := trodAll_cons r1
  obtain ⟨v3, vs3, d3, ds3, p3, q3, rfl, rfl, rfl, h3, r3⟩ := trodAll_cons r2
  obtain ⟨v4, vs4, d4, ds4, p4, q4, rfl, rfl, rfl, h4, r4⟩ := trodAll_cons r3
  obtain ⟨rfl, rfl, rfl⟩ := trodAll_nil r4
  obtain rfl : args = #[v0, v1, v2, v3, v4] := by cases args; simp_all
  obtain ⟨rfl, rfl⟩ := trodVars_none hV
  obtain ⟨a0, rfl, rfl, rfl, w0⟩ := open_int Try.underlying22 (hval 0 22 v0 rfl rfl) h0
  obtain ⟨a1, rfl, rfl, rfl, w1⟩ := open_int Try.underlying22 (hval 1 22 v1 rfl rfl) h1
  obtain ⟨a2, rfl, rfl, rfl, w2⟩ := open_int Try.underlying22 (hval 2 22 v2 rfl rfl) h2
  obtain ⟨a3, rfl, rfl, rfl, w3⟩ := open_int Try.underlying22 (hval 3 22 v3 rfl rfl) h3
  obtain ⟨a4, rfl, rfl, rfl, w4⟩ := open_int Try.underlying22 (hval 4 22 v4 rfl rfl) h4
  clear hA0 hval0
  refine (walk a0 a1 a2 a3 a4 W (wfU64 w0) (wfU64 w1) (wfU64 w2) (wfU64 w3) (wfU64 w4)).mono fun e W' ⟨he, bel⟩ => ?_
  subst he
  exact ⟨_, rfl, _, _, _, [], _, [], hW', trodAll_mk1 (shut_bool Try.underlying4 _), (trodAll_cons_mk (shut_int Try.underlying22 w0) (trodAll_cons_mk (shut_int Try.underlying22 w1) (trodAll_cons_mk (shut_int Try.underlying22 w2) (trodAll_cons_mk (shut_int Try.underlying22 w3) (trodAll_cons_mk (shut_int Try.underlying22 w4) trodAll_mk0))))), rfl, bel.frame _, fun h => by cases h⟩

theorem over : Rows.cubicRisesRow.holds Try.pinned (OpenSpec.ofChange Rows.cubicRisesSpec) :=
  OpenClaim.holds_of_wide 10 Try.f10 rfl rfl rfl rfl rfl rfl rfl ⟨rfl, rfl, rfl, rfl, rfl⟩ rfl rfl rfl rfl rfl (by kernel_rfl) Try.func10 (by kernel_rfl)
    (of_decide_eq_true (by kernel_rfl)) (by unfold Func.isWrapper; first | (rw [if_pos (by decide +kernel)]; kernel_rfl) | (rw [if_neg (by decide +kernel)]; exact ⟨rfl, rfl⟩))
    (fun os started H enc _ => lifted os started H enc)

/-- THE STATEMENT -/
theorem proved : Rows.CubicRisesSaid := over
end Go.Proofs.Ytanebjapcpbdnaa.cubicRises
