/- For all 32-bit smooth, dev, latest, first, grain, more and both values of has, RttOver returns true. No condition. -/
import Derived.Test.YtbgbeadhpcikhaaBase
import Derived.Test.YtbgbeadhpcikhaaAliveRtt
namespace Go.Proofs.Ytbgbeadhpcikhaa.rttOver
open Go.ChangeShapes Go.WideShapes Go.ChangeAt Go.RowKit Go.Lib
set_option linter.unusedVariables false

theorem overL (base x A B g m : Int) (hx : 0 ≤ x ∧ x ≤ 4294967295) (hg : 0 ≤ g ∧ g ≤ 4294967295) (hm : 0 ≤ m ∧ m ≤ 4294967295) (hb : 0 ≤ base ∧ base ≤ x)
    (h : base + g ≤ A ∧ A ≤ B ∧ B ≤ A + m ∧ B ≤ 1000000000000) :
    base + g ≤ A ∧ A ≤ B ∧ B ≤ A + m ∧ B ≤ 1000000000000 ∧ g ≤ max (downI x 9 8) g ∧ max (downI x 9 8) g ≤ max (downI x 9 8) (g + m) ∧ base ≤ max (downI x 9 8) g ∧ max (downI x 9 8) (g + m) ≤ max (downI x 9 8) g + m ∧ max (downI x 9 8) g ≤ 1000000000000 := by
  obtain ⟨h1, h2, h3, h4⟩ := h
  have e : downI x 9 8 = x * 9 / 8 := by
    obtain ⟨n, rfl⟩ := Int.eq_ofNat_of_zero_le hx.1
    unfold downI nDown
    rw [if_neg (by decide), Nat.min_eq_left]
    · simp only [Int.toNat_natCast]
      show ((n * 9 / 8 : Nat) : Int) = _
      omega
    · show n * 9 / 8 ≤ _
      omega
  rw [e]
  exact ⟨h1, h2, h3, h4, by omega, by omega, by omega, by omega, by omega⟩

set_option maxHeartbeats 2000000 in
theorem walkR (a0 a1 a2 a3 a4 a5 : Int) (b : Bool) (w : World) (w0 : 0 ≤ a0 ∧ a0 ≤ 4294967295) (w1 : 0 ≤ a1 ∧ a1 ≤ 4294967295) (w2 : 0 ≤ a2 ∧ a2 ≤ 4294967295) (w3 : 0 ≤ a3 ∧ a3 ≤ 4294967295) (w4 : 0 ≤ a4 ∧ a4 ≤ 4294967295) (w5 : 0 ≤ a5 ∧ a5 ≤ 4294967295) :
    Calls Try.prog 13 #[.int .u32 a0, .int .u32 a1, .int .u32 a2, .int .u32 a3, .int .u32 a4, .int .u32 a5, .bool b] w fun e w' => e = .returned (.bool true) ∧ Gr w w' := by
  have hsum : IntKind.u64.wrap (a4 + a5) = a4 + a5 := by rw [IntKind.wrap_u64]; omega
  have hw0 : IntKind.u64.wrap a0 = a0 := by rw [IntKind.wrap_u64]; omega
  have hw1 : IntKind.u64.wrap a1 = a1 := by rw [IntKind.wrap_u64]; omega
  have hw2 : IntKind.u64.wrap a2 = a2 := by rw [IntKind.wrap_u64]; omega
  have hw3 : IntKind.u64.wrap a3 = a3 := by rw [IntKind.wrap_u64]; omega
  have hw4 : IntKind.u64.wrap a4 = a4 := by rw [IntKind.wrap_u64]; omega
  have hw5 : IntKind.u64.wrap a5 = a5 := by rw [IntKind.wrap_u64]; omega
  obtain ⟨u0, v0⟩ := w0
  obtain ⟨u1, v1⟩ := w1
  obtain ⟨u2, v2⟩ := w2
  obtain ⟨u3, v3⟩ := w3
  obtain ⟨u4, v4⟩ := w4
  obtain ⟨u5, v5⟩ := w5
  cases b with
  | false =>
    have g := overL a3 a3 (addI a3 (max (mulI 2 a3) a4)) (addI a3 (max (mulI 2 a3) (a4 + a5))) a4 a5 (by omega) (by omega) (by omega) (by omega) (by unfold addI mulI; omega)
    obtain ⟨g1, g2, g3, g4, g5, g6, g7, g8, g9⟩ := g
    go_enter Try.func13, Try.ntmps13
    go_wp2_with fail
    refine (aliveRtt _).mono ?_; rintro e' w' ⟨rfl, n1, os1, rfl⟩
    go_wp2_with fail
    go_region_held3 (fun w' => w'.cell? ⟨w.heap.size + os1.size, 0, none⟩ = some (.bool false) ∧ w'.cell? ⟨w.heap.size + os1.size, 1, none⟩ = some (.int .u64 a2) ∧ w'.cell? ⟨w.heap.size + os1.size, 2, none⟩ = some (.int .u64 a0) ∧ w'.cell? ⟨w.heap.size + os1.size, 3, none⟩ = some (.int .u64 a1) ∧ w'.cell? ⟨w.heap.size + os1.size, 4, none⟩ = some (.int .u64 0)) (first | go_simp | go_keep)
      (first
        | (go_at_call 27; ((with_reducible refine (tTimeoutNo a2 a0 a1 0 a3 a4 (Wlit (by omega)) (Wlit (by omega)) _).mono ?_); rintro e' w' ⟨rfl, n2, os2, rfl⟩)) | (go_at_call 27; ((with_reducible refine (tTimeoutNo a2 a0 a1 0 a3 (a4 + a5) (Wlit (by omega)) (Wlit (by omega)) _).mono ?_); rintro e' w' ⟨rfl, n2, os2, rfl⟩)))
    all_goals
      go_wp2_with fail
      go_region_held3 (fun w' => w'.cell? ⟨w.heap.size + os1.size, 0, none⟩ = some (.bool false) ∧ w'.cell? ⟨w.heap.size + os1.size, 1, none⟩ = some (.int .u64 a2) ∧ w'.cell? ⟨w.heap.size + os1.size, 2, none⟩ = some (.int .u64 a0) ∧ w'.cell? ⟨w.heap.size + os1.size, 3, none⟩ = some (.int .u64 a1) ∧ w'.cell? ⟨w.heap.size + os1.size, 4, none⟩ = some (.int .u64 0)) (first | go_simp | go_keep)
        (first
          | (go_at_call 29; ((with_reducible refine (tWindowNo a2 a0 a1 0 a3 a4 (Wlit (by omega)) _).mono ?_); rintro e' w' ⟨rfl, n3, os3, rfl⟩)) | (go_at_call 29; ((with_reducible refine (tWindowNo a2 a0 a1 0 a3 (a4 + a5) (Wlit (by omega)) _).mono ?_); rintro e' w' ⟨rfl, n3, os3, rfl⟩)))
      all_goals
        go_wp2_with fail
        go_ret
        exact ⟨rfl, by repeat (first | exact Gr.refl _ | apply Gr.drewN | apply Gr.drew | apply Gr.gw | apply Gr.alloc)⟩
  | true =>
    have g := overL a0 (max a0 a2) (addI a0 (max (mulI 4 a1) a4)) (addI a0 (max (mulI 4 a1) (a4 + a5))) a4 a5 (by omega) (by omega) (by omega) (by omega) (by unfold addI mulI; omega)
    obtain ⟨g1, g2, g3, g4, g5, g6, g7, g8, g9⟩ := g
    go_enter Try.func13, Try.ntmps13
    go_wp2_with fail
    refine (aliveRtt _).mono ?_; rintro e' w' ⟨rfl, n1, os1, rfl⟩
    go_wp2_with fail
    go_region_held3 (fun w' => w'.cell? ⟨w.heap.size + os1.size, 0, none⟩ = some (.bool true) ∧ w'.cell? ⟨w.heap.size + os1.size, 1, none⟩ = some (.int .u64 a2) ∧ w'.cell? ⟨w.heap.size + os1.size, 2, none⟩ = some (.int .u64 a0) ∧ w'.cell? ⟨w.heap.size + os1.size, 3, none⟩ = some (.int .u64 a1) ∧ w'.cell? ⟨w.heap.size + os1.size, 4, none⟩ = some (.int .u64 0)) (first | go_simp | go_keep)
      (first
        | (go_at_call 27; ((with_reducible refine (tTimeoutYes a2 a0 a1 0 a3 a4 (Wlit (by omega)) (Wlit (by omega)) (Wlit (by omega)) _).mono ?_); rintro e' w' ⟨rfl, n2, os2, rfl⟩)) | (go_at_call 27; ((with_reducible refine (tTimeoutYes a2 a0 a1 0 a3 (a4 + a5) (Wlit (by omega)) (Wlit (by omega)) (Wlit (by omega)) _).mono ?_); rintro e' w' ⟨rfl, n2, os2, rfl⟩)))
    all_goals
      go_wp2_with fail
      go_region_held3 (fun w' => w'.cell? ⟨w.heap.size + os1.size, 0, none⟩ = some (.bool true) ∧ w'.cell? ⟨w.heap.size + os1.size, 1, none⟩ = some (.int .u64 a2) ∧ w'.cell? ⟨w.heap.size + os1.size, 2, none⟩ = some (.int .u64 a0) ∧ w'.cell? ⟨w.heap.size + os1.size, 3, none⟩ = some (.int .u64 a1) ∧ w'.cell? ⟨w.heap.size + os1.size, 4, none⟩ = some (.int .u64 0)) (first | go_simp | go_keep)
        (first
          | (go_at_call 29; ((with_reducible refine (tWindowYes a2 a0 a1 0 a3 a4 (Wlit (by omega)) (Wlit (by omega)) _).mono ?_); rintro e' w' ⟨rfl, n3, os3, rfl⟩)) | (go_at_call 29; ((with_reducible refine (tWindowYes a2 a0 a1 0 a3 (a4 + a5) (Wlit (by omega)) (Wlit (by omega)) _).mono ?_); rintro e' w' ⟨rfl, n3, os3, rfl⟩)))
      all_goals
        go_wp2_with fail
        go_ret
        exact ⟨rfl, by repeat (first | exact Gr.refl _ | apply Gr.drewN | apply Gr.drew | apply Gr.gw | apply Gr.alloc)⟩

theorem walk (a0 a1 a2 a3 a4 a5 : Int) (b : Bool) (w : World) (w0 : 0 ≤ a0 ∧ a0 ≤ 4294967295) (w1 : 0 ≤ a1 ∧ a1 ≤ 4294967295) (w2 : 0 ≤ a2 ∧ a2 ≤ 4294967295) (w3 : 0 ≤ a3 ∧ a3 ≤ 4294967295) (w4 : 0 ≤ a4 ∧ a4 ≤ 4294967295) (w5 : 0 ≤ a5 ∧ a5 ≤ 4294967295) :
    Calls Try.prog 13 #[.int .u32 a0, .int .u32 a1, .int .u32 a2, .int .u32 a3, .int .u32 a4, .int .u32 a5, .bool b] w fun e w' => e = .returned (.bool true) ∧ Below w.heap.size w w' :=
  (walkR a0 a1 a2 a3 a4 a5 b w w0 w1 w2 w3 w4 w5).mono fun _ _ h => ⟨h.1, h.2.below⟩

/-! ### the row's step -/
set_option maxRecDepth 100000 in
theorem lifted (os : Os) (started : os.Started) (H : Type) (enc : TypeId × Value → H) :
    ReturnsInHanded {} Try.checked os 13 .any (Rows.rttOverSpec.pre6 enc Try.prog Try.f13 Rows.rttOverRow.domain false) (Rows.rttOverSpec.post enc Try.prog Try.f13 false true false false) := by
  refine returnsInHanded_of_change (C := Try.checked) own started (by kernel_rfl) Try.func13
    (ChangeSpec.witness6 (enc := enc) (C := Try.checked) false ⟨#[], #[.int .u32 0, .int .u32 0, .int .u32 0, .int .u32 0, .int .u32 0, .int .u32 0, .bool false], []⟩ 8 (by kernel_rfl) (by kernel_rfl) (by kernel_rfl) (by kernel_rfl)) ?_
  intro W base args ds gs before hval0 hW hcnd _
  have hval : ∀ (j : Nat) t v, Try.f13.params[j]? = some t → args[j]? = some v → Value.okWide Try.prog W .any base t v := hval0
  have hW' := hW
  obtain ⟨p, q, hA0, hV, rfl, hfz, hnd⟩ := hW
  have hA : DataW.TrodAll enc Try.prog W 0 (fun _ => true) true Try.f13.params.toList args.toList ds p := hA0
  rw [Try.params13] at hA hval
  obtain ⟨v0, vs0, d0, ds0, p0, q0, hargs, rfl, rfl, h0, r0⟩ := trodAll_cons hA
  obtain ⟨v1, vs1, d1, ds1, p1, q1, rfl, rfl, rfl, h1, r1⟩ := trodAll_cons r0
  obtain ⟨v2, vs2, d2, ds2, p2, q2, rfl, rfl, rfl, h2, r2⟩ := trodAll_cons r1
  obtain ⟨v3, vs3, d3, ds3, p3, q3, rfl, rfl, rfl, h3, r3⟩ := trodAll_cons r2
  obtain ⟨v4, vs4, d4, ds4, p4, q4, rfl, rfl, rfl, h4, r4⟩ := trodAll_cons r3
  obtain ⟨v5, vs5, d5, ds5, p5, q5, rfl, rfl, rfl, h5, r5⟩ := trodAll_cons r4
  obtain ⟨v6, vs6, d6, ds6, p6, q6, rfl, rfl, rfl, h6, r6⟩ := trodAll_cons r5
  obtain ⟨rfl, rfl, rfl⟩ := trodAll_nil r6
  obtain rfl : args = #[v0, v1, v2, v3, v4, v5, v6] := by cases args; simp_all
  obtain ⟨rfl, rfl⟩ := trodVars_none hV
  obtain ⟨a0, rfl, rfl, rfl, w0⟩ := open_int Try.underlying28 (hval 0 28 v0 rfl rfl) h0
  obtain ⟨a1, rfl, rfl, rfl, w1⟩ := open_int Try.underlying28 (hval 1 28 v1 rfl rfl) h1
  obtain ⟨a2, rfl, rfl, rfl, w2⟩ := open_int Try.underlying28 (hval 2 28 v2 rfl rfl) h2
  obtain ⟨a3, rfl, rfl, rfl, w3⟩ := open_int Try.underlying28 (hval 3 28 v3 rfl rfl) h3
  obtain ⟨a4, rfl, rfl, rfl, w4⟩ := open_int Try.underlying28 (hval 4 28 v4 rfl rfl) h4
  obtain ⟨a5, rfl, rfl, rfl, w5⟩ := open_int Try.underlying28 (hval 5 28 v5 rfl rfl) h5
  obtain ⟨a6, rfl, rfl, rfl⟩ := open_bool Try.underlying4 (hval 6 4 v6 rfl rfl) h6
  clear hA0 hval0
  refine (walk a0 a1 a2 a3 a4 a5 a6 W (wfU32 w0) (wfU32 w1) (wfU32 w2) (wfU32 w3) (wfU32 w4) (wfU32 w5)).mono fun e W' ⟨he, bel⟩ => ?_
  subst he
  exact ⟨_, rfl, _, _, _, [], _, [], hW', trodAll_mk1 (shut_bool Try.underlying4 _), (trodAll_cons_mk (shut_int Try.underlying28 w0) (trodAll_cons_mk (shut_int Try.underlying28 w1) (trodAll_cons_mk (shut_int Try.underlying28 w2) (trodAll_cons_mk (shut_int Try.underlying28 w3) (trodAll_cons_mk (shut_int Try.underlying28 w4) (trodAll_cons_mk (shut_int Try.underlying28 w5) (trodAll_cons_mk (shut_bool Try.underlying4 _) trodAll_mk0))))))), rfl, bel.frame _, fun h => by cases h⟩

theorem over : Rows.rttOverRow.holds Try.pinned (OpenSpec.ofChange Rows.rttOverSpec) :=
  OpenClaim.holds_of_wide 13 Try.f13 rfl rfl rfl rfl rfl rfl rfl ⟨rfl, rfl, rfl, rfl, rfl⟩ rfl rfl rfl rfl rfl (by kernel_rfl) Try.func13 (by kernel_rfl)
    (of_decide_eq_true (by kernel_rfl)) (by unfold Func.isWrapper; first | (rw [if_pos (by decide +kernel)]; kernel_rfl) | (rw [if_neg (by decide +kernel)]; exact ⟨rfl, rfl⟩))
    (fun os started H enc _ => lifted os started H enc)

/-- THE STATEMENT -/
theorem proved : Rows.RttOverSaid := over
end Go.Proofs.Ytbgbeadhpcikhaa.rttOver
