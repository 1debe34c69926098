/- For all 32-bit peak, cwnd, mss, CubicBack returns true: a window that comes back to its peak begins no lower than it was cut to. No condition. -/
import Derived.Test.YtanebjapcpbdnaaBase
import Derived.Test.YtanebjapcpbdnaaAliveCubic
import Derived.Test.YtanebjapcpbdnaaCurve
namespace Go.Proofs.Ytanebjapcpbdnaa.cubicBack
open Go.ChangeShapes Go.WideShapes Go.ChangeAt Go.RowKit Go.Lib
set_option linter.unusedVariables false

theorem back (p c m : Int) (hp : W64 p) (hc : W64 c) (hm : 0 < m) (hm2 : W64 m) (h : c ≤ p) :
    c ≤ atI p (longI p c m) 0 m ∧ atI p (longI p c m) 0 m ≤ p ∧ (c < p ∨ longI p c m = 0) := by
  have k0 := longI_W p c m
  obtain ⟨r1, r2, r3⟩ := atI_rises p (longI p c m) 0 0 m hp ⟨by omega, by omega⟩ ⟨by omega, by omega⟩ ⟨by omega, by omega⟩ (Int.le_refl _)
  rcases Int.lt_or_le c p with h1 | h1
  · refine ⟨?_, r2 k0.1, .inl h1⟩
    have hz := curve_back p c m hp hc hm hm2 h1
    unfold atI
    split
    · have := (curveZ_W (longI p c m) 0 m).1
      unfold addI W64 at *
      omega
    · unfold subI
      omega
  · obtain rfl : c = p := by omega
    have e : longI c c m = 0 := by unfold longI; rw [if_pos (.inl (Int.le_refl _))]
    refine ⟨r3 (by omega), r2 k0.1, .inr e⟩

set_option maxHeartbeats 8000000 in
theorem walkYes (x y z : Int) (w : World) (wx : 0 ≤ x ∧ x ≤ 4294967295) (wy : 0 ≤ y ∧ y ≤ 4294967295) (wz : 0 ≤ z ∧ z ≤ 4294967295) (h : (y % 1073741824) ≤ (x % 1073741824)) :
    Calls Try.prog 11 #[.int .u32 x, .int .u32 y, .int .u32 z] w fun e w' => e = .returned (.bool true) ∧ Gr w w' := by
  obtain ⟨x0, x1⟩ := wx
  obtain ⟨y0, y1⟩ := wy
  obtain ⟨z0, z1⟩ := wz
  have hp0 : 0 ≤ x % 1073741824 := Int.emod_nonneg _ (by omega)
  have hp1 : x % 1073741824 < 1073741824 := Int.emod_lt_of_pos _ (by omega)
  have hc0 : 0 ≤ y % 1073741824 := Int.emod_nonneg _ (by omega)
  have hc1 : y % 1073741824 < 1073741824 := Int.emod_lt_of_pos _ (by omega)
  have hm0 : 0 ≤ z % 1500 := Int.emod_nonneg _ (by omega)
  have hm1 : z % 1500 < 1500 := Int.emod_lt_of_pos _ (by omega)
  have HP := Lib.hid (show W64 (x % 1073741824) from Wlit (by omega))
  have HC := Lib.hid (show W64 (y % 1073741824) from Wlit (by omega))
  have HM := Lib.hid (show W64 (z % 1500 + 1) from Wlit (by omega))
  obtain ⟨b1, b2, b3⟩ := back (x % 1073741824) (y % 1073741824) (z % 1500 + 1) HP.out HC.out (by omega) HM.out h
  have HE := Lib.hid (atI_peak (x % 1073741824) (longI (x % 1073741824) (y % 1073741824) (z % 1500 + 1)) (z % 1500 + 1) HP.out)
  have k0 := longI_W (x % 1073741824) (y % 1073741824) (z % 1500 + 1)
  have HK := Lib.hid (show W64 (longI (x % 1073741824) (y % 1073741824) (z % 1500 + 1)) from Wlit (by omega))
  have B3 := Lib.hid b3
  have hd : decide ((x % 1073741824) < (y % 1073741824)) = false := by rw [decide_eq_false_iff_not]; omega
  clear b3 k0
  by_cases b4 : (y % 1073741824) < (x % 1073741824)
  · go_enter Try.func11, Try.ntmps11
    go_wp2_with fail
    ((with_reducible refine (aliveCubic _).mono ?_); rintro e' w' ⟨rfl, n26, os26, rfl⟩)
    go_wp2_with fail
    ((with_reducible refine (tLong (x % 1073741824) (y % 1073741824) (z % 1500 + 1) HP.out HC.out HM.out _).mono ?_); rintro e' w' ⟨rfl, n27, rfl⟩)
    go_wp2_with fail
    ((with_reducible refine (tAt (x % 1073741824) (longI (x % 1073741824) (y % 1073741824) (z % 1500 + 1)) 0 (z % 1500 + 1) HP.out HK.out (Wlit (by omega)) HM.out _).mono ?_); rintro e' w' ⟨rfl, n28, rfl⟩)
    go_wp2_with fail
    ((with_reducible refine (tAt (x % 1073741824) (longI (x % 1073741824) (y % 1073741824) (z % 1500 + 1)) (longI (x % 1073741824) (y % 1073741824) (z % 1500 + 1)) (z % 1500 + 1) HP.out HK.out HK.out HM.out _).mono ?_); rintro e' w' ⟨rfl, n29, rfl⟩)
    rw [HE.out]
    go_wp2_with fail
    go_ret
    exact ⟨rfl, by repeat (first | exact Gr.refl _ | apply Gr.drewN | apply Gr.drew | apply Gr.gw | apply Gr.alloc)⟩
  · have b4x := Lib.hid b4
    have B4 := Lib.hid (B3.out.resolve_left b4)
    clear b4
    have hle : x % 1073741824 ≤ y % 1073741824 := by have := b4x.out; omega
    have hk0 : (longI (x % 1073741824) (y % 1073741824) (z % 1500 + 1) == 0) = true := by rw [beq_iff_eq]; exact B4.out
    go_enter Try.func11, Try.ntmps11
    go_wp2_with fail
    ((with_reducible refine (aliveCubic _).mono ?_); rintro e' w' ⟨rfl, n30, os30, rfl⟩)
    go_wp2_with fail
    ((with_reducible refine (tLong (x % 1073741824) (y % 1073741824) (z % 1500 + 1) HP.out HC.out HM.out _).mono ?_); rintro e' w' ⟨rfl, n31, rfl⟩)
    go_wp2_with fail
    ((with_reducible refine (tAt (x % 1073741824) (longI (x % 1073741824) (y % 1073741824) (z % 1500 + 1)) 0 (z % 1500 + 1) HP.out HK.out (Wlit (by omega)) HM.out _).mono ?_); rintro e' w' ⟨rfl, n32, rfl⟩)
    go_wp2_with fail
    ((with_reducible refine (tAt (x % 1073741824) (longI (x % 1073741824) (y % 1073741824) (z % 1500 + 1)) (longI (x % 1073741824) (y % 1073741824) (z % 1500 + 1)) (z % 1500 + 1) HP.out HK.out HK.out HM.out _).mono ?_); rintro e' w' ⟨rfl, n33, rfl⟩)
    rw [HE.out]
    go_wp2_with fail
    go_ret
    exact ⟨rfl, by repeat (first | exact Gr.refl _ | apply Gr.drewN | apply Gr.drew | apply Gr.gw | apply Gr.alloc)⟩

set_option maxHeartbeats 2000000 in
theorem walkG (x y z : Int) (w : World) (wx : 0 ≤ x ∧ x ≤ 4294967295) (wy : 0 ≤ y ∧ y ≤ 4294967295) (wz : 0 ≤ z ∧ z ≤ 4294967295) :
    Calls Try.prog 11 #[.int .u32 x, .int .u32 y, .int .u32 z] w fun e w' => e = .returned (.bool true) ∧ Gr w w' := by
  by_cases h : (y % 1073741824) ≤ (x % 1073741824)
  · exact walkYes x y z w wx wy wz h
  · have h' : (x % 1073741824) < (y % 1073741824) := by omega
    clear h
    obtain ⟨x0, x1⟩ := wx
    obtain ⟨y0, y1⟩ := wy
    obtain ⟨z0, z1⟩ := wz
    go_enter Try.func11, Try.ntmps11
    go_wp2_with fail
    ((with_reducible refine (aliveCubic _).mono ?_); rintro e' w' ⟨rfl, n34, os34, rfl⟩)
    go_wp2_with fail
    ((with_reducible refine (aliveCubic _).mono ?_); rintro e' w' ⟨rfl, n35, os35, rfl⟩)
    go_wp2_with fail
    go_ret
    exact ⟨rfl, by repeat (first | exact Gr.refl _ | apply Gr.drewN | apply Gr.drew | apply Gr.gw | apply Gr.alloc)⟩

theorem walk (x y z : Int) (w : World) (wx : 0 ≤ x ∧ x ≤ 4294967295) (wy : 0 ≤ y ∧ y ≤ 4294967295) (wz : 0 ≤ z ∧ z ≤ 4294967295) :
    Calls Try.prog 11 #[.int .u32 x, .int .u32 y, .int .u32 z] w fun e w' => e = .returned (.bool true) ∧ Below w.heap.size w w' :=
  (walkG x y z w wx wy wz).mono fun _ _ h => ⟨h.1, h.2.below⟩

/-! ### the row's step -/
set_option maxRecDepth 100000 in
theorem lifted (os : Os) (started : os.Started) (H : Type) (enc : TypeId × Value → H) :
    ReturnsInHanded {} Try.checked os 11 .any (Rows.cubicBackSpec.pre6 enc Try.prog Try.f11 Rows.cubicBackRow.domain false) (Rows.cubicBackSpec.post enc Try.prog Try.f11 false true false false) := by
  refine returnsInHanded_of_change (C := Try.checked) own started (by kernel_rfl) Try.func11
    (ChangeSpec.witness6 (enc := enc) (C := Try.checked) false ⟨#[], #[.int .u32 0, .int .u32 0, .int .u32 0], []⟩ 8 (by kernel_rfl) (by kernel_rfl) (by kernel_rfl) (by kernel_rfl)) ?_
  intro W base args ds gs before hval0 hW hcnd _
  have hval : ∀ (j : Nat) t v, Try.f11.params[j]? = some t → args[j]? = some v → Value.okWide Try.prog W .any base t v := hval0
  have hW' := hW
  obtain ⟨p, q, hA0, hV, rfl, hfz, hnd⟩ := hW
  have hA : DataW.TrodAll enc Try.prog W 0 (fun _ => true) true Try.f11.params.toList args.toList ds p := hA0
  rw [Try.params11] at hA hval
  obtain ⟨v0, vs0, d0, ds0, p0, q0, hargs, rfl, rfl, h0, r0⟩ := trodAll_cons hA
  obtain ⟨v1, vs1, d1, ds1, p1, q1, rfl, rfl, rfl, h1, r1⟩ := trodAll_cons r0
  obtain ⟨v2, vs2, d2, ds2, p2, q2, rfl, rfl, rfl, h2, r2⟩ := trodAll_cons r1
  obtain ⟨rfl, rfl, rfl⟩ := trodAll_nil r2
  obtain rfl : args = #[v0, v1, v2] := by cases args; simp_all
  obtain ⟨rfl, rfl⟩ := trodVars_none hV
  obtain ⟨a0, rfl, rfl, rfl, w0⟩ := open_int Try.underlying31 (hval 0 31 v0 rfl rfl) h0
  obtain ⟨a1, rfl, rfl, rfl, w1⟩ := open_int Try.underlying31 (hval 1 31 v1 rfl rfl) h1
  obtain ⟨a2, rfl, rfl, rfl, w2⟩ := open_int Try.underlying31 (hval 2 31 v2 rfl rfl) h2
  clear hA0 hval0
  refine (walk a0 a1 a2 W (wfU32 w0) (wfU32 w1) (wfU32 w2)).mono fun e W' ⟨he, bel⟩ => ?_
  subst he
  exact ⟨_, rfl, _, _, _, [], _, [], hW', trodAll_mk1 (shut_bool Try.underlying4 _), (trodAll_cons_mk (shut_int Try.underlying31 w0) (trodAll_cons_mk (shut_int Try.underlying31 w1) (trodAll_cons_mk (shut_int Try.underlying31 w2) trodAll_mk0))), rfl, bel.frame _, fun h => by cases h⟩

theorem over : Rows.cubicBackRow.holds Try.pinned (OpenSpec.ofChange Rows.cubicBackSpec) :=
  OpenClaim.holds_of_wide 11 Try.f11 rfl rfl rfl rfl rfl rfl rfl ⟨rfl, rfl, rfl, rfl, rfl⟩ rfl rfl rfl rfl rfl (by kernel_rfl) Try.func11 (by kernel_rfl)
    (of_decide_eq_true (by kernel_rfl)) (by unfold Func.isWrapper; first | (rw [if_pos (by decide +kernel)]; kernel_rfl) | (rw [if_neg (by decide +kernel)]; exact ⟨rfl, rfl⟩))
    (fun os started H enc _ => lifted os started H enc)

/-- THE STATEMENT -/
theorem proved : Rows.CubicBackSaid := over
end Go.Proofs.Ytanebjapcpbdnaa.cubicBack
