/- For all words a, b, c, WideShares returns true: the product with a sum is the sum of the products. No condition. -/
import Derived.Test.YtinbfjkonaohnaaBase
import Derived.Test.YtinbfjkonaohnaaAliveWide
namespace Go.Proofs.Ytinbfjkonaohnaa.wideShares
open Go.ChangeShapes Go.WideShapes Go.ChangeAt Go.RowKit Go.Lib
set_option linter.unusedVariables false

theorem shares (a b c : Int) (ha : W64 a) (hb : W64 b) (hc : W64 c) (h : b ≤ 18446744073709551615 - c) :
    IntKind.u64.wrap (mulLo a b + mulLo a c) = mulLo a (b + c) ∧
      ((mulLo a (b + c) < mulLo a b ∧ IntKind.u64.wrap (IntKind.u64.wrap (mulHi a b + 1) + mulHi a c) = mulHi a (b + c)) ∨ (mulLo a b ≤ mulLo a (b + c) ∧ IntKind.u64.wrap (mulHi a b + mulHi a c) = mulHi a (b + c))) := by
  have e1 := parts a (b + c)
  have e2 := parts a b
  have e3 := parts a c
  have h1 := mulLo_W a (b + c)
  have h2 := mulLo_W a b
  have h3 := mulLo_W a c
  have k1 := mulHi_W a (b + c) ha (by unfold W64 at *; omega)
  have k2 := mulHi_W a b ha hb
  have k3 := mulHi_W a c ha hc
  rw [Int.mul_add, ← e2, ← e3] at e1
  unfold W64 at *
  simp only [IntKind.wrap_u64]
  constructor
  · omega
  · omega

set_option maxHeartbeats 400000 in
theorem walk (a0 a1 a2 : Int) (w : World) (w0 : W64 a0) (w1 : W64 a1) (w2 : W64 a2) :
    Calls Try.prog 15 #[.int .u64 a0, .int .u64 a1, .int .u64 a2] w fun e w' => e = .returned (.bool true) ∧ Below w.heap.size w w' := by
  have H0 := Lib.hid w0
  have H1 := Lib.hid w1
  have H2 := Lib.hid w2
  have b1 := w1.1
  have b2 := w1.2
  have b3 := w2.1
  have b4 := w2.2
  by_cases h : 18446744073709551615 - a2 < a1
  · clear w0 w1 w2
    go_enter Try.func15, Try.ntmps15
    go_wp2_with fail
    refine (aliveWide _).mono ?_; rintro e w1 ⟨rfl, hb1⟩
    go_wp2_with fail
    refine (aliveWide _).mono ?_; rintro e w2 ⟨rfl, hb2⟩
    go_wp2_with fail
    go_ret
    exact ⟨rfl, hb1.trans (hb2.mono hb1.size)⟩
  · have hs := shares a0 a1 a2 w0 w1 w2 (by omega)
    have B := Lib.hid (show W64 (a1 + a2) from ⟨by omega, by omega⟩)
    have hsum : a1 + a2 ≤ 18446744073709551615 := by omega
    clear w0 w1 w2
    obtain ⟨s1, s2⟩ := hs
    rcases s2 with ⟨c1, c2⟩ | ⟨c1, c2⟩
    all_goals
      go_enter Try.func15, Try.ntmps15
      go_wp2_with fail
      refine (aliveWide _).mono ?_; rintro e w1 ⟨rfl, hb1⟩
      go_wp2_with fail
      refine (wMul _ _ H0.out B.out _).mono ?_; rintro e w' ⟨rfl, rfl⟩
      go_wp2_with fail
      refine (wMul _ _ H0.out H1.out _).mono ?_; rintro e w' ⟨rfl, rfl⟩
      go_wp2_with fail
      refine (wMul _ _ H0.out H2.out _).mono ?_; rintro e w' ⟨rfl, rfl⟩
      go_wp2_with fail
      go_ret
      exact ⟨rfl, hb1⟩

/-! ### the row's step -/
set_option maxRecDepth 100000 in
theorem lifted (os : Os) (started : os.Started) (H : Type) (enc : TypeId × Value → H) :
    ReturnsInHanded {} Try.checked os 15 .any (Rows.wideSharesSpec.pre6 enc Try.prog Try.f15 Rows.wideSharesRow.domain false) (Rows.wideSharesSpec.post enc Try.prog Try.f15 false true false false) := by
  refine returnsInHanded_of_change (C := Try.checked) own started (by kernel_rfl) Try.func15
    (ChangeSpec.witness6 (enc := enc) (C := Try.checked) false ⟨#[], #[.int .u64 0, .int .u64 0, .int .u64 0], []⟩ 8 (by kernel_rfl) (by kernel_rfl) (by kernel_rfl) (by kernel_rfl)) ?_
  intro W base args ds gs before hval0 hW hcnd _
  have hval : ∀ (j : Nat) t v, Try.f15.params[j]? = some t → args[j]? = some v → Value.okWide Try.prog W .any base t v := hval0
  have hW' := hW
  obtain ⟨p, q, hA0, hV, rfl, hfz, hnd⟩ := hW
  have hA : DataW.TrodAll enc Try.prog W 0 (fun _ => true) true Try.f15.params.toList args.toList ds p := hA0
  rw [Try.params15] at hA hval
  obtain ⟨v0, vs0, d0, ds0, p0, q0, hargs, rfl, rfl, h0, r0⟩ := trodAll_cons hA
  obtain ⟨v1, vs1, d1, ds1, p1, q1, rfl, rfl, rfl, h1, r1⟩ := trodAll_cons r0
  obtain ⟨v2, vs2, d2, ds2, p2, q2, rfl, rfl, rfl, h2, r2⟩ := trodAll_cons r1
  obtain ⟨rfl, rfl, rfl⟩ := trodAll_nil r2
  obtain rfl : args = #[v0, v1, v2] := by cases args; simp_all
  obtain ⟨rfl, rfl⟩ := trodVars_none hV
  obtain ⟨a0, rfl, rfl, rfl, w0⟩ := open_int Try.underlying22 (hval 0 22 v0 rfl rfl) h0
  obtain ⟨a1, rfl, rfl, rfl, w1⟩ := open_int Try.underlying22 (hval 1 22 v1 rfl rfl) h1
  obtain ⟨a2, rfl, rfl, rfl, w2⟩ := open_int Try.underlying22 (hval 2 22 v2 rfl rfl) h2
  clear hA0 hval0
  refine (walk a0 a1 a2 W (wfU64 w0) (wfU64 w1) (wfU64 w2)).mono fun e W' ⟨he, bel⟩ => ?_
  subst he
  exact ⟨_, rfl, _, _, _, [], _, [], hW', trodAll_mk1 (shut_bool Try.underlying4 _), (trodAll_cons_mk (shut_int Try.underlying22 w0) (trodAll_cons_mk (shut_int Try.underlying22 w1) (trodAll_cons_mk (shut_int Try.underlying22 w2) trodAll_mk0))), rfl, bel.frame _, fun h => by cases h⟩

theorem over : Rows.wideSharesRow.holds Try.pinned (OpenSpec.ofChange Rows.wideSharesSpec) :=
  OpenClaim.holds_of_wide 15 Try.f15 rfl rfl rfl rfl rfl rfl rfl ⟨rfl, rfl, rfl, rfl, rfl⟩ rfl rfl rfl rfl rfl (by kernel_rfl) Try.func15 (by kernel_rfl)
    (of_decide_eq_true (by kernel_rfl)) (by unfold Func.isWrapper; first | (rw [if_pos (by decide +kernel)]; kernel_rfl) | (rw [if_neg (by decide +kernel)]; exact ⟨rfl, rfl⟩))
    (fun os started H enc _ => lifted os started H enc)

/-- THE STATEMENT -/
theorem proved : Rows.WideSharesSaid := over
end Go.Proofs.Ytinbfjkonaohnaa.wideShares
