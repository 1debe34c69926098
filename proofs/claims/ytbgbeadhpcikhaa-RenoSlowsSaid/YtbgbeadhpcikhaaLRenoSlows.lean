/- For all windows w and words acked, mss, RenoSlows returns true: below the threshold a window grows by what was acknowledged, two packets at most. No condition. -/
import Derived.Test.YtbgbeadhpcikhaaBase
import Derived.Test.YtbgbeadhpcikhaaAliveReno
namespace Go.Proofs.Ytbgbeadhpcikhaa.renoSlows
open Go.ChangeShapes Go.WideShapes Go.ChangeAt Go.RowKit Go.Lib
set_option linter.unusedVariables false

theorem mulI_comm (a b : Int) : mulI a b = mulI b a := by
  unfold mulI
  rw [Int.mul_comm]

set_option maxHeartbeats 1000000 in
theorem walkW (c t a p e k f a1 a2 : Int) (w : World) (hc : W64 c) (ha : W64 a) (w1 : W64 a1) (w2 : W64 a2) :
    Calls Try.prog 8 #[.agg #[.int .u64 c, .int .u64 t, .int .u64 a, .int .u64 p, .int .u64 e, .int .u64 k, .int .u64 f], .int .u64 a1, .int .u64 a2] w fun e w' => e = .returned (.bool true) ∧ Gr w w' := by
  have Hc := Lib.hid hc
  have Ha := Lib.hid ha
  have H1 := Lib.hid w1
  have H2 := Lib.hid w2
  by_cases h : t ≤ c
  · clear hc ha w1 w2
    go_enter Try.func8, Try.ntmps8
    go_wp2_with fail
    first
      | refine (aliveReno _).mono ?_; rintro e' w' ⟨rfl, n1, os1, rfl⟩
        go_wp2_with fail
        refine (aliveReno _).mono ?_; rintro e' w' ⟨rfl, n2, os2, rfl⟩
        go_wp2_with fail
        go_ret
        exact ⟨rfl, by repeat (first | exact Gr.refl _ | apply Gr.drewN | apply Gr.drew | apply Gr.gw | apply Gr.alloc)⟩
      | go_region_held3 (fun w' => w'.cell? ⟨w.heap.size, 0, none⟩ = some (.int .u64 c) ∧ w'.cell? ⟨w.heap.size, 1, none⟩ = some (.int .u64 t)) (go_keep)
          (first | (go_at_call 14; refine (aliveReno _).mono ?_; rintro e' w' ⟨rfl, n1, os1, rfl⟩))
        go_wp2_with fail
        refine (aliveReno _).mono ?_; rintro e' w' ⟨rfl, n2, os2, rfl⟩
        go_wp2_with fail
        go_ret
        exact ⟨rfl, by repeat (first | exact Gr.refl _ | apply Gr.drewN | apply Gr.drew | apply Gr.gw | apply Gr.alloc)⟩
  · have h' : c < t := by omega
    have M1 := Lib.hid (mulI_W 2 a2 ⟨by omega, by omega⟩ w2)
    have M := Lib.hid (show W64 (min a1 (mulI 2 a2)) from by have := M1.out; unfold W64 at *; omega)
    have e1 : mulI a2 2 = mulI 2 a2 := mulI_comm a2 2
    have e2 : growC c t a a1 a2 = addI c (min a1 (mulI 2 a2)) := by unfold growC slowI; rw [if_pos h']
    have e3 : growA c t a a1 a2 = a := by unfold growA; rw [if_pos h']
    clear hc ha w1 w2 h
    go_enter Try.func8, Try.ntmps8
    go_wp2_with fail
    first
      | refine (aliveReno _).mono ?_; rintro e' w' ⟨rfl, n1, os1, rfl⟩
        go_wp2_with fail
      | go_region_held3 (fun w' => w'.cell? ⟨w.heap.size, 0, none⟩ = some (.int .u64 c) ∧ w'.cell? ⟨w.heap.size, 1, none⟩ = some (.int .u64 t)) (go_keep)
          (first | (go_at_call 14; refine (aliveReno _).mono ?_; rintro e' w' ⟨rfl, n1, os1, rfl⟩))
        go_wp2_with fail
    refine (nGrow _ _ _ _ _ _ _ _ _ Hc.out Ha.out H1.out H2.out _).mono ?_; rintro e' w' ⟨rfl, n2, os2, rfl⟩
    go_wp2_with fail
    refine region_tail 8 (by kernel_rfl) (by kernel_rfl) ?_
    simp only [List.take_succ_cons, List.take_zero, List.drop_succ_cons, List.drop_zero]
    repeat still_step
    still_call (turn (rMul _ _ H2.out (Wlit (by omega)) _))
    repeat still_step
    still_call (turn (rAdd _ _ Hc.out M.out _))
    repeat still_step
    refine wpStill_nil ?_
    go_wp2_with fail
    go_ret
    exact ⟨rfl, by repeat (first | exact Gr.refl _ | apply Gr.drewN | apply Gr.drew | apply Gr.gw | apply Gr.alloc)⟩

theorem walk (cs0 : Array Value) (a1 a2 : Int) (w : World) (w0 : Fits [some .u64, some .u64, some .u64, some .u64, some .u64, some .u64, some .u64] cs0.toList) (w1 : W64 a1) (w2 : W64 a2) :
    Calls Try.prog 8 #[.agg cs0, .int .u64 a1, .int .u64 a2] w fun e w' => e = .returned (.bool true) ∧ Below w.heap.size w w' := by
  obtain ⟨c, t, a, p, e, k, f, rfl, hc, ht, ha, hp, he, hk, hf⟩ := openWin w0
  exact (walkW c t a p e k f a1 a2 w hc ha w1 w2).mono fun _ _ h => ⟨h.1, h.2.below⟩

/-! ### the row's step -/
set_option maxRecDepth 100000 in
theorem lifted (os : Os) (started : os.Started) (H : Type) (enc : TypeId × Value → H) :
    ReturnsInHanded {} Try.checked os 8 .any (Rows.renoSlowsSpec.pre6 enc Try.prog Try.f8 Rows.renoSlowsRow.domain false) (Rows.renoSlowsSpec.post enc Try.prog Try.f8 false true false false) := by
  refine returnsInHanded_of_change (C := Try.checked) own started (by kernel_rfl) Try.func8
    (ChangeSpec.witness6 (enc := enc) (C := Try.checked) false ⟨#[], #[.agg #[.int .u64 0, .int .u64 0, .int .u64 0, .int .u64 0, .int .u64 0, .int .u64 0, .int .u64 0], .int .u64 0, .int .u64 0], []⟩ 8 (by kernel_rfl) (by kernel_rfl) (by kernel_rfl) (by kernel_rfl)) ?_
  intro W base args ds gs before hval0 hW hcnd _
  have hval : ∀ (j : Nat) t v, Try.f8.params[j]? = some t → args[j]? = some v → Value.okWide Try.prog W .any base t v := hval0
  have hW' := hW
  obtain ⟨p, q, hA0, hV, rfl, hfz, hnd⟩ := hW
  have hA : DataW.TrodAll enc Try.prog W 0 (fun _ => true) true Try.f8.params.toList args.toList ds p := hA0
  rw [Try.params8] at hA hval
  obtain ⟨v0, vs0, d0, ds0, p0, q0, hargs, rfl, rfl, h0, r0⟩ := trodAll_cons hA
  obtain ⟨v1, vs1, d1, ds1, p1, q1, rfl, rfl, rfl, h1, r1⟩ := trodAll_cons r0
  obtain ⟨v2, vs2, d2, ds2, p2, q2, rfl, rfl, rfl, h2, r2⟩ := trodAll_cons r1
  obtain ⟨rfl, rfl, rfl⟩ := trodAll_nil r2
  obtain rfl : args = #[v0, v1, v2] := by cases args; simp_all
  obtain ⟨rfl, rfl⟩ := trodVars_none hV
  obtain ⟨cs0, rfl, hsz0⟩ := okWide_struct Try.underlying24 (hval 0 24 v0 rfl rfl)
  have k0 := h0
  have lt0 : ∀ x ∈ p0, x.block < W.heap.size := by obtain ⟨m, hm⟩ := k0; exact DataW.trod_lt m _ _ _ hm
  have w0 : Fits [some .u64, some .u64, some .u64, some .u64, some .u64, some .u64, some .u64] cs0.toList := by
    obtain ⟨fuel, hf⟩ := h0
    exact fits_of_trod 8 24 _ fuel _ _ (by kernel_rfl) (by simpa [Value.cells] using hf)
  obtain ⟨a1, rfl, rfl, rfl, w1⟩ := open_int Try.underlying22 (hval 1 22 v1 rfl rfl) h1
  obtain ⟨a2, rfl, rfl, rfl, w2⟩ := open_int Try.underlying22 (hval 2 22 v2 rfl rfl) h2
  clear hA0 hval0
  refine (walk cs0 a1 a2 W w0 (wfU64 w1) (wfU64 w2)).mono fun e W' ⟨he, bel⟩ => ?_
  subst he
  exact ⟨_, rfl, _, _, _, [], _, [], hW', trodAll_mk1 (shut_bool Try.underlying4 _), (trodAll_cons_mk (Below.trod laidOut (by kernel_rfl) (of_decide_eq_true (by kernel_rfl)) k0 bel lt0) (trodAll_cons_mk (shut_int Try.underlying22 w1) (trodAll_cons_mk (shut_int Try.underlying22 w2) trodAll_mk0))), rfl, bel.frame _, fun h => by cases h⟩

theorem over : Rows.renoSlowsRow.holds Try.pinned (OpenSpec.ofChange Rows.renoSlowsSpec) :=
  OpenClaim.holds_of_wide 8 Try.f8 rfl rfl rfl rfl rfl rfl rfl ⟨rfl, rfl, rfl, rfl, rfl⟩ rfl rfl rfl rfl rfl (by kernel_rfl) Try.func8 (by kernel_rfl)
    (of_decide_eq_true (by kernel_rfl)) (by unfold Func.isWrapper; first | (rw [if_pos (by decide +kernel)]; kernel_rfl) | (rw [if_neg (by decide +kernel)]; exact ⟨rfl, rfl⟩))
    (fun os started H enc _ => lifted os started H enc)

/-- THE STATEMENT -/
theorem proved : Rows.RenoSlowsSaid := over
end Go.Proofs.Ytbgbeadhpcikhaa.renoSlows
