/- For all estimates r and words first, grain, RttTimes returns true: Timeout and Window agree with the definition. No condition. -/
import Derived.Test.YtbgbeadhpcikhaaBase
import Derived.Test.YtbgbeadhpcikhaaAliveRtt
namespace Go.Proofs.Ytbgbeadhpcikhaa.rttTimes
open Go.ChangeShapes Go.WideShapes Go.ChangeAt Go.RowKit Go.Lib
set_option linter.unusedVariables false

set_option maxHeartbeats 2000000 in
theorem walkR (b : Bool) (l s v m f g : Int) (w : World) (hl : W64 l) (hs : W64 s) (hv : W64 v) (hf : W64 f) (hg : W64 g) :
    Calls Try.prog 10 #[.agg #[.bool b, .int .u64 l, .int .u64 s, .int .u64 v, .int .u64 m], .int .u64 f, .int .u64 g] w fun e w' => e = .returned (.bool true) ∧ Gr w w' := by
  have Hl := Lib.hid hl
  have Hs := Lib.hid hs
  have Hv := Lib.hid hv
  have Hf := Lib.hid hf
  have Hg := Lib.hid hg
  clear hl hs hv hf hg
  cases b with
  | false =>
    go_enter Try.func10, Try.ntmps10
    go_wp2_with fail
    refine (aliveRtt _).mono ?_; rintro e' w' ⟨rfl, n1, os1, rfl⟩
    go_wp2_with fail
    go_region_held3 (fun w' => w'.cell? ⟨w.heap.size, 0, none⟩ = some (.bool false) ∧ w'.cell? ⟨w.heap.size, 1, none⟩ = some (.int .u64 l) ∧ w'.cell? ⟨w.heap.size, 2, none⟩ = some (.int .u64 s) ∧ w'.cell? ⟨w.heap.size, 3, none⟩ = some (.int .u64 v) ∧ w'.cell? ⟨w.heap.size, 4, none⟩ = some (.int .u64 m)) (first | go_simp | go_keep)
      (first
        | (go_at_call 27; refine (tTimeoutNo _ _ _ _ _ _ Hf.out Hg.out _).mono ?_; rintro e' w' ⟨rfl, n2, os2, rfl⟩)
        | (go_at_call 28; refine (qTimeoutNo _ _ _ _ _ _ Hf.out Hg.out _).mono ?_; rintro e' w' ⟨rfl, n3, os3, rfl⟩)
        | (go_at_call 29; refine (tWindowNo _ _ _ _ _ _ Hf.out _).mono ?_; rintro e' w' ⟨rfl, n4, os4, rfl⟩)
        | (go_at_call 30; refine (qWindowNo _ _ _ _ _ _ Hf.out _).mono ?_; rintro e' w' ⟨rfl, n5, os5, rfl⟩))
    all_goals
      go_wp2_with fail
      go_ret
      exact ⟨rfl, by repeat (first | exact Gr.refl _ | apply Gr.drewN | apply Gr.drew | apply Gr.gw | apply Gr.alloc)⟩
  | true =>
    go_enter Try.func10, Try.ntmps10
    go_wp2_with fail
    refine (aliveRtt _).mono ?_; rintro e' w' ⟨rfl, n1, os1, rfl⟩
    go_wp2_with fail
    go_region_held3 (fun w' => w'.cell? ⟨w.heap.size, 0, none⟩ = some (.bool true) ∧ w'.cell? ⟨w.heap.size, 1, none⟩ = some (.int .u64 l) ∧ w'.cell? ⟨w.heap.size, 2, none⟩ = some (.int .u64 s) ∧ w'.cell? ⟨w.heap.size, 3, none⟩ = some (.int .u64 v) ∧ w'.cell? ⟨w.heap.size, 4, none⟩ = some (.int .u64 m)) (first | go_simp | go_keep)
      (first
        | (go_at_call 27; refine (tTimeoutYes _ _ _ _ _ _ Hs.out Hv.out Hg.out _).mono ?_; rintro e' w' ⟨rfl, n2, os2, rfl⟩)
        | (go_at_call 28; refine (qTimeoutYes _ _ _ _ _ _ Hs.out Hv.out Hg.out _).mono ?_; rintro e' w' ⟨rfl, n3, os3, rfl⟩)
        | (go_at_call 29; refine (tWindowYes _ _ _ _ _ _ Hs.out Hl.out _).mono ?_; rintro e' w' ⟨rfl, n4, os4, rfl⟩)
        | (go_at_call 30; refine (qWindowYes _ _ _ _ _ _ Hs.out Hl.out _).mono ?_; rintro e' w' ⟨rfl, n5, os5, rfl⟩))
    all_goals
      go_wp2_with fail
      go_ret
      exact ⟨rfl, by repeat (first | exact Gr.refl _ | apply Gr.drewN | apply Gr.drew | apply Gr.gw | apply Gr.alloc)⟩

theorem walk (cs0 : Array Value) (a1 a2 : Int) (w : World) (w0 : Fits [none, some .u64, some .u64, some .u64, some .u64] cs0.toList) (w1 : W64 a1) (w2 : W64 a2) :
    Calls Try.prog 10 #[.agg cs0, .int .u64 a1, .int .u64 a2] w fun e w' => e = .returned (.bool true) ∧ Below w.heap.size w w' := by
  obtain ⟨b, l, s, v, m, rfl, hl, hs, hv, hm⟩ := openRtt w0
  exact (walkR b l s v m a1 a2 w hl hs hv w1 w2).mono fun _ _ h => ⟨h.1, h.2.below⟩

/-! ### the row's step -/
set_option maxRecDepth 100000 in
theorem lifted (os : Os) (started : os.Started) (H : Type) (enc : TypeId × Value → H) :
    ReturnsInHanded {} Try.checked os 10 .any (Rows.rttTimesSpec.pre6 enc Try.prog Try.f10 Rows.rttTimesRow.domain false) (Rows.rttTimesSpec.post enc Try.prog Try.f10 false true false false) := by
  refine returnsInHanded_of_change (C := Try.checked) own started (by kernel_rfl) Try.func10
    (ChangeSpec.witness6 (enc := enc) (C := Try.checked) false ⟨#[], #[.agg #[.bool false, .int .u64 0, .int .u64 0, .int .u64 0, .int .u64 0], .int .u64 0, .int .u64 0], []⟩ 8 (by kernel_rfl) (by kernel_rfl) (by kernel_rfl) (by kernel_rfl)) ?_
  intro W base args ds gs before hval0 hW hcnd _
  have hval : ∀ (j : Nat) t v, Try.f10.params[j]? = some t → args[j]? = some v → Value.okWide Try.prog W .any base t v := hval0
  have hW' := hW
  obtain ⟨p, q, hA0, hV, rfl, hfz, hnd⟩ := hW
  have hA : DataW.TrodAll enc Try.prog W 0 (fun _ => true) true Try.f10.params.toList args.toList ds p := hA0
  rw [Try.params10] at hA hval
  obtain ⟨v0, vs0, d0, ds0, p0, q0, hargs, rfl, rfl, h0, r0⟩ := trodAll_cons hA
  obtain ⟨v1, vs1, d1, ds1, p1, q1, rfl, rfl, rfl, h1, r1⟩ := trodAll_cons r0
  obtain ⟨v2, vs2, d2, ds2, p2, q2, rfl, rfl, rfl, h2, r2⟩ := trodAll_cons r1
  obtain ⟨rfl, rfl, rfl⟩ := trodAll_nil r2
  obtain rfl : args = #[v0, v1, v2] := by cases args; simp_all
  obtain ⟨rfl, rfl⟩ := trodVars_none hV
  obtain ⟨cs0, rfl, hsz0⟩ := okWide_struct Try.underlying37 (hval 0 37 v0 rfl rfl)
  have k0 := h0
  have lt0 : ∀ x ∈ p0, x.block < W.heap.size := by obtain ⟨m, hm⟩ := k0; exact DataW.trod_lt m _ _ _ hm
  have w0 : Fits [none, some .u64, some .u64, some .u64, some .u64] cs0.toList := by
    obtain ⟨fuel, hf⟩ := h0
    exact fits_of_trod 8 37 _ fuel _ _ (by kernel_rfl) (by simpa [Value.cells] using hf)
  obtain ⟨a1, rfl, rfl, rfl, w1⟩ := open_int Try.underlying22 (hval 1 22 v1 rfl rfl) h1
  obtain ⟨a2, rfl, rfl, rfl, w2⟩ := open_int Try.underlying22 (hval 2 22 v2 rfl rfl) h2
  clear hA0 hval0
  refine (walk cs0 a1 a2 W w0 (wfU64 w1) (wfU64 w2)).mono fun e W' ⟨he, bel⟩ => ?_
  subst he
  exact ⟨_, rfl, _, _, _, [], _, [], hW', trodAll_mk1 (shut_bool Try.underlying4 _), (trodAll_cons_mk (Below.trod laidOut (by kernel_rfl) (of_decide_eq_true (by kernel_rfl)) k0 bel lt0) (trodAll_cons_mk (shut_int Try.underlying22 w1) (trodAll_cons_mk (shut_int Try.underlying22 w2) trodAll_mk0))), rfl, bel.frame _, fun h => by cases h⟩

theorem over : Rows.rttTimesRow.holds Try.pinned (OpenSpec.ofChange Rows.rttTimesSpec) :=
  OpenClaim.holds_of_wide 10 Try.f10 rfl rfl rfl rfl rfl rfl rfl ⟨rfl, rfl, rfl, rfl, rfl⟩ rfl rfl rfl rfl rfl (by kernel_rfl) Try.func10 (by kernel_rfl)
    (of_decide_eq_true (by kernel_rfl)) (by unfold Func.isWrapper; first | (rw [if_pos (by decide +kernel)]; kernel_rfl) | (rw [if_neg (by decide +kernel)]; exact ⟨rfl, rfl⟩))
    (fun os started H enc _ => lifted os started H enc)

/-- THE STATEMENT -/
theorem proved : Rows.RttTimesSaid := over
end Go.Proofs.Ytbgbeadhpcikhaa.rttTimes
