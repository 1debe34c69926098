/- For all words a, b, c, d, WideBetween returns true: both roundings are at most one apart, symmetric and monotonic. No condition. -/
import Derived.Test.YtinbfjkonaohnaaBase
import Derived.Test.YtinbfjkonaohnaaAliveWide
namespace Go.Proofs.Ytinbfjkonaohnaa.wideBetween
open Go.ChangeShapes Go.WideShapes Go.ChangeAt Go.RowKit Go.Lib
set_option linter.unusedVariables false

theorem nle {a b : Nat} (h : a ≤ b) : (a : Int) ≤ (b : Int) := by omega
theorem min_le_min_right (a b t : Nat) (h : a ≤ b) : min a t ≤ min b t := by omega

theorem down_le_up (a b d : Int) : downI a b d ≤ upI a b d ∧ upI a b d - downI a b d ≤ 1 := by
  unfold downI upI nDown nUp
  generalize a.toNat * b.toNat = p
  generalize d.toNat = z
  by_cases hz : z = 0
  · rw [if_pos hz, if_pos hz]
    omega
  · rw [if_neg hz, if_neg hz, ceil_div p z (by omega)]
    generalize p / z = q
    split <;> omega
theorem down_comm (a b d : Int) : downI b a d = downI a b d := by
  unfold downI nDown
  rw [Nat.mul_comm]
theorem up_comm (a b d : Int) : upI b a d = upI a b d := by
  unfold upI nUp
  rw [Nat.mul_comm]
theorem down_mono (a b c d : Int) (h : a ≤ c) : downI a b d ≤ downI c b d := by
  unfold downI nDown
  have h1 : a.toNat * b.toNat ≤ c.toNat * b.toNat := Nat.mul_le_mul_right _ (Int.toNat_le_toNat h)
  by_cases hz : d.toNat = 0
  · rw [if_pos hz, if_pos hz]
    exact Int.le_refl _
  · rw [if_neg hz, if_neg hz]
    exact nle (min_le_min_right _ _ _ (Nat.div_le_div_right h1))
theorem up_mono (a b c d : Int) (h : a ≤ c) : upI a b d ≤ upI c b d := by
  unfold upI nUp
  have h1 : a.toNat * b.toNat ≤ c.toNat * b.toNat := Nat.mul_le_mul_right _ (Int.toNat_le_toNat h)
  by_cases hz : d.toNat = 0
  · rw [if_pos hz, if_pos hz]
    exact Int.le_refl _
  · rw [if_neg hz, if_neg hz]
    exact nle (min_le_min_right _ _ _ (Nat.div_le_div_right (Nat.add_le_add_right h1 _)))

set_option maxHeartbeats 800000 in
theorem walk (a0 a1 a2 a3 : Int) (w : World) (w0 : W64 a0) (w1 : W64 a1) (w2 : W64 a2) (w3 : W64 a3) :
    Calls Try.prog 17 #[.int .u64 a0, .int .u64 a1, .int .u64 a2, .int .u64 a3] w fun e w' => e = .returned (.bool true) ∧ Below w.heap.size w w' := by
  have H0 := Lib.hid w0
  have H1 := Lib.hid w1
  have H2 := Lib.hid w2
  have H3 := Lib.hid w3
  clear w0 w1 w2 w3
  obtain ⟨f1, f2⟩ := down_le_up a0 a1 a3
  have f3 := down_comm a0 a1 a3
  have f4 := up_comm a0 a1 a3
  have f5 := (downI_W a0 a1 a3).1
  have f6 := (upI_W a0 a1 a3).2
  by_cases h : a0 ≤ a2
  · have f7 := down_mono a0 a1 a2 a3 h
    have f8 := up_mono a0 a1 a2 a3 h
    go_enter Try.func17, Try.ntmps17
    go_wp2_with fail
    refine (aliveWide _).mono ?_; rintro e w1 ⟨rfl, hb1⟩
    go_wp2_with fail
    refine (wDown _ _ _ H0.out H1.out H3.out _).mono ?_; rintro e w' ⟨rfl, n1, rfl⟩
    go_wp2_with fail
    refine (wUp _ _ _ H0.out H1.out H3.out _).mono ?_; rintro e w' ⟨rfl, n2, rfl⟩
    go_wp2_with fail
    refine (wDown _ _ _ H1.out H0.out H3.out _).mono ?_; rintro e w' ⟨rfl, n3, rfl⟩
    go_wp2_with fail
    refine (wUp _ _ _ H1.out H0.out H3.out _).mono ?_; rintro e w' ⟨rfl, n4, rfl⟩
    go_wp2_with fail
    refine (wDown _ _ _ H2.out H1.out H3.out _).mono ?_; rintro e w' ⟨rfl, n5, rfl⟩
    go_wp2_with fail
    refine (wUp _ _ _ H2.out H1.out H3.out _).mono ?_; rintro e w' ⟨rfl, n6, rfl⟩
    go_wp2_with fail
    go_ret
    exact ⟨rfl, below_drewN hb1 _⟩
  · have f7 := down_mono a2 a1 a0 a3 (by omega)
    have f8 := up_mono a2 a1 a0 a3 (by omega)
    go_enter Try.func17, Try.ntmps17
    go_wp2_with fail
    refine (aliveWide _).mono ?_; rintro e w1 ⟨rfl, hb1⟩
    go_wp2_with fail
    refine (wDown _ _ _ H0.out H1.out H3.out _).mono ?_; rintro e w' ⟨rfl, n1, rfl⟩
    go_wp2_with fail
    refine (wUp _ _ _ H0.out H1.out H3.out _).mono ?_; rintro e w' ⟨rfl, n2, rfl⟩
    go_wp2_with fail
    refine (wDown _ _ _ H1.out H0.out H3.out _).mono ?_; rintro e w' ⟨rfl, n3, rfl⟩
    go_wp2_with fail
    refine (wUp _ _ _ H1.out H0.out H3.out _).mono ?_; rintro e w' ⟨rfl, n4, rfl⟩
    go_wp2_with fail
    refine (wDown _ _ _ H2.out H1.out H3.out _).mono ?_; rintro e w' ⟨rfl, n5, rfl⟩
    go_wp2_with fail
    refine (wUp _ _ _ H2.out H1.out H3.out _).mono ?_; rintro e w' ⟨rfl, n6, rfl⟩
    go_wp2_with fail
    go_ret
    exact ⟨rfl, below_drewN hb1 _⟩

/-! ### the row's step -/
set_option maxRecDepth 100000 in
theorem lifted (os : Os) (started : os.Started) (H : Type) (enc : TypeId × Value → H) :
    ReturnsInHanded {} Try.checked os 17 .any (Rows.wideBetweenSpec.pre6 enc Try.prog Try.f17 Rows.wideBetweenRow.domain false) (Rows.wideBetweenSpec.post enc Try.prog Try.f17 false true false false) := by
  refine returnsInHanded_of_change (C := Try.checked) own started (by kernel_rfl) Try.func17
    (ChangeSpec.witness6 (enc := enc) (C := Try.checked) false ⟨#[], #[.int .u64 0, .int .u64 0, .int .u64 0, .int .u64 0], []⟩ 8 (by kernel_rfl) (by kernel_rfl) (by kernel_rfl) (by kernel_rfl)) ?_
  intro W base args ds gs before hval0 hW hcnd _
  have hval : ∀ (j : Nat) t v, Try.f17.params[j]? = some t → args[j]? = some v → Value.okWide Try.prog W .any base t v := hval0
  have hW' := hW
  obtain ⟨p, q, hA0, hV, rfl, hfz, hnd⟩ := hW
  have hA : DataW.TrodAll enc Try.prog W 0 (fun _ => true) true Try.f17.params.toList args.toList ds p := hA0
  rw [Try.params17] at hA hval
  obtain ⟨v0, vs0, d0, ds0, p0, q0, hargs, rfl, rfl, h0, r0⟩ := trodAll_cons hA
  obtain ⟨v1, vs1, d1, ds1, p1, q1, rfl, rfl, rfl, h1, r1⟩ := trodAll_cons r0
  obtain ⟨v2, vs2, d2, ds2, p2, q2, rfl, rfl, rfl, h2, r2⟩ := trodAll_cons r1
  obtain ⟨v3, vs3, d3, ds3, p3, q3, rfl, rfl, rfl, h3, r3⟩ := trodAll_cons r2
  obtain ⟨rfl, rfl, rfl⟩ := trodAll_nil r3
  obtain rfl : args = #[v0, v1, v2, v3] := by cases args; simp_all
  obtain ⟨rfl, rfl⟩ := trodVars_none hV
  obtain ⟨a0, rfl, rfl, rfl, w0⟩ := open_int Try.underlying22 (hval 0 22 v0 rfl rfl) h0
  obtain ⟨a1, rfl, rfl, rfl, w1⟩ := open_int Try.underlying22 (hval 1 22 v1 rfl rfl) h1
  obtain ⟨a2, rfl, rfl, rfl, w2⟩ := open_int Try.underlying22 (hval 2 22 v2 rfl rfl) h2
  obtain ⟨a3, rfl, rfl, rfl, w3⟩ := open_int Try.underlying22 (hval 3 22 v3 rfl rfl) h3
  clear hA0 hval0
  refine (walk a0 a1 a2 a3 W (wfU64 w0) (wfU64 w1) (wfU64 w2) (wfU64 w3)).mono fun e W' ⟨he, bel⟩ => ?_
  subst he
  exact ⟨_, rfl, _, _, _, [], _, [], hW', trodAll_mk1 (shut_bool Try.underlying4 _), (trodAll_cons_mk (shut_int Try.underlying22 w0) (trodAll_cons_mk (shut_int Try.underlying22 w1) (trodAll_cons_mk (shut_int Try.underlying22 w2) (trodAll_cons_mk (shut_int Try.underlying22 w3) trodAll_mk0)))), rfl, bel.frame _, fun h => by cases h⟩

theorem over : Rows.wideBetweenRow.holds Try.pinned (OpenSpec.ofChange Rows.wideBetweenSpec) :=
  OpenClaim.holds_of_wide 17 Try.f17 rfl rfl rfl rfl rfl rfl rfl ⟨rfl, rfl, rfl, rfl, rfl⟩ rfl rfl rfl rfl rfl (by kernel_rfl) Try.func17 (by kernel_rfl)
    (of_decide_eq_true (by kernel_rfl)) (by unfold Func.isWrapper; first | (rw [if_pos (by decide +kernel)]; kernel_rfl) | (rw [if_neg (by decide +kernel)]; exact ⟨rfl, rfl⟩))
    (fun os started H enc _ => lifted os started H enc)

/-- THE STATEMENT -/
theorem proved : Rows.WideBetweenSaid := over
end Go.Proofs.Ytinbfjkonaohnaa.wideBetween
