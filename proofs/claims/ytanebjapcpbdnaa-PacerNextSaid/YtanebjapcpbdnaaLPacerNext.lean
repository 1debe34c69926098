/- For all 32-bit tokens, at, rate, now and 16-bit burst, size, PacerNext returns true: bytes may go at the time that Next tells, and not a microsecond ahead. No condition. -/
import Derived.Test.YtanebjapcpbdnaaBase
import Derived.Test.YtanebjapcpbdnaaAlivePacer
namespace Go.Proofs.Ytanebjapcpbdnaa.pacerNext
open Go.ChangeShapes Go.WideShapes Go.ChangeAt Go.RowKit Go.Lib
set_option linter.unusedVariables false

theorem up_one (x r : Int) (hx : 0 < x ∧ x ≤ 100000000000) (hr : 0 < r ∧ r ≤ 4294967295) : ∃ q, upI x 1 r = q ∧ 1 ≤ q ∧ q ≤ x ∧ x ≤ r * q ∧ r * (q - 1) < x := by
  obtain ⟨X, rfl⟩ := Int.eq_ofNat_of_zero_le (show 0 ≤ x by omega)
  obtain ⟨R, rfl⟩ := Int.eq_ofNat_of_zero_le (show 0 ≤ r by omega)
  have hR : 0 < R := by omega
  have hX : 0 < X := by omega
  have h1 := Nat.div_add_mod (X + (R - 1)) R
  have h2 := Nat.mod_lt (X + (R - 1)) hR
  have h3 : (X + (R - 1)) / R ≤ X + (R - 1) := Nat.div_le_self _ _
  have h4 : 1 ≤ (X + (R - 1)) / R := (Nat.le_div_iff_mul_le hR).2 (by omega)
  have h5 : (X + (R - 1)) / R ≤ X := by
    refine Nat.div_le_of_le_mul ?_
    have : R * 1 ≤ R * X := Nat.mul_le_mul_left R hX
    have : 1 * X ≤ R * X := Nat.mul_le_mul_right X hR
    obtain ⟨R', rfl⟩ : ∃ R', R = R' + 1 := ⟨R - 1, by omega⟩
    obtain ⟨X', rfl⟩ : ∃ X', X = X' + 1 := ⟨X - 1, by omega⟩
    rw [Nat.mul_add, Nat.add_mul] at *
    omega
  refine ⟨((X + (R - 1)) / R : Nat), ?_, by omega, by omega, ?_, ?_⟩
  · unfold upI nUp
    simp only [Int.toNat_natCast]
    rw [if_neg (by omega), show ((1 : Int).toNat) = 1 from rfl, Nat.mul_one, Nat.min_eq_left (by omega)]
  · rw [← Int.natCast_mul]
    omega
  · obtain ⟨Q, hQ⟩ : ∃ Q, (X + (R - 1)) / R = Q + 1 := ⟨(X + (R - 1)) / R - 1, by omega⟩
    rw [hQ] at h1 ⊢
    have : (((Q + 1 : Nat) : Int) - 1) = (Q : Int) := by omega
    rw [this, ← Int.natCast_mul]
    rw [Nat.mul_add] at h1
    omega

/-- when bytes may go -/
theorem nexts (t a r b n s : Int) (ht : 0 ≤ t ∧ t ≤ 4294967295) (ha : 0 ≤ a ∧ a ≤ 4294967295) (hr : 0 ≤ r ∧ r ≤ 4294967295) (hb : 1 ≤ b ∧ b ≤ 65536) (hn : 0 ≤ n ∧ n ≤ 4294967295) (hs : 0 ≤ s ∧ s ≤ 65535) :
    (nextI t a r b n s = 18446744073709551615 ∧ takeB t a r b 4611686018427387904 s = false) ∨ (nextI t a r b n s = max a n ∧ takeB t a r b (max a n) s = true) ∨
    (∃ N, nextI t a r b n s = N ∧ max a n < N ∧ N ≤ 1000000000000 ∧ takeB t a r b N s = true ∧ takeB t a r b (N - 1) s = false) := by
  have eS : fullI s = s * 1000000 := by unfold fullI mulI; omega
  have eB : fullI b = b * 1000000 := by unfold fullI mulI; omega
  have p0 := Int.mul_nonneg hr.1 (subI_W n a ⟨by omega, by omega⟩ ⟨by omega, by omega⟩).1
  unfold takeB nextI
  rw [eS, eB]
  by_cases h : s * 1000000 ≤ fillT t a r b n
  · refine .inr (.inl ⟨by rw [if_pos h], ?_⟩)
    have e : subI (max a n) a = subI n a := by unfold subI; omega
    rw [decide_eq_true_eq]
    unfold fillT at *
    rw [e]
    exact h
  · rw [if_neg h]
    by_cases h2 : b * 1000000 < s * 1000000 ∨ r = 0
    · refine .inl ⟨by rw [if_pos h2], ?_⟩
      rw [decide_eq_false_iff_not]
      rcases h2 with h2 | rfl
      · unfold fillT
        rw [eB]
        omega
      · unfold fillT mulI at *
        rw [Int.zero_mul] at *
        exact h
    · rw [if_neg h2]
      have hr0 : 0 < r := by omega
      have hx1 : fillT t a r b n = t + r * subI n a := by
        unfold fillT addI mulI at *
        rw [eB] at *
        omega
      have hx2 : 0 ≤ fillT t a r b n := by omega
      obtain ⟨q, eq, q1, q2, q3, q4⟩ := up_one (s * 1000000 - fillT t a r b n) r ⟨by omega, by omega⟩ ⟨hr0, hr.2⟩
      rw [eq]
      have eN : addI (max a n) q = max a n + q := by unfold addI; omega
      have e1 : subI (max a n + q) a = subI n a + q := by unfold subI; omega
      have e2 : subI (max a n + q - 1) a = subI n a + (q - 1) := by unfold subI; omega
      refine .inr (.inr ⟨max a n + q, eN, by omega, by omega, ?_, ?_⟩)
      · rw [decide_eq_true_eq]
        rw [hx1] at q3 h
        unfold fillT addI mulI
        rw [e1, eB, Int.mul_add]
        generalize r * subI n a = P at *
        generalize r * q = Q at *
        omega
      · rw [decide_eq_false_iff_not]
        rw [hx1] at q4 h
        have hQ : 0 ≤ r * (q - 1) := Int.mul_nonneg hr.1 (by omega)
        unfold fillT addI mulI
        rw [e2, eB, Int.mul_add]
        generalize r * subI n a = P at *
        generalize r * (q - 1) = Q at *
        omega

set_option maxHeartbeats 4000000 in
theorem walkN (t a r b n s : Int) (w : World) (ht : 0 ≤ t ∧ t ≤ 4294967295) (ha : 0 ≤ a ∧ a ≤ 4294967295) (hr : 0 ≤ r ∧ r ≤ 4294967295) (hb : 0 ≤ b ∧ b ≤ 65535) (hn : 0 ≤ n ∧ n ≤ 4294967295) (hs : 0 ≤ s ∧ s ≤ 65535) :
    Calls Try.prog 5 #[.int .u32 t, .int .u32 a, .int .u32 r, .int .u16 b, .int .u32 n, .int .u16 s] w fun e w' => e = .returned (.bool true) ∧ Gr w w' := by
  have hN := nexts t a r (b + 1) n s ht ha hr ⟨by omega, by omega⟩ hn hs
  obtain ⟨t0, t1⟩ := ht
  obtain ⟨a0, a1⟩ := ha
  obtain ⟨r0, r1⟩ := hr
  obtain ⟨b0, b1⟩ := hb
  obtain ⟨n0, n1⟩ := hn
  obtain ⟨s0, s1⟩ := hs
  have Ht := Lib.hid (show W64 t from Wlit (by omega))
  have Ha := Lib.hid (show W64 a from Wlit (by omega))
  have Hr := Lib.hid (show W64 r from Wlit (by omega))
  have Hb := Lib.hid (show W64 (b + 1) from Wlit (by omega))
  have Hn := Lib.hid (show W64 n from Wlit (by omega))
  have Hs := Lib.hid (show W64 s from Wlit (by omega))
  rcases hN with ⟨e1, e2⟩ | ⟨e1, e2⟩ | ⟨N, e1, h1, h2, e2, e3⟩
  · have E1 := Lib.hid e1
    have E2 := Lib.hid e2
    clear e1 e2
    go_enter Try.func5, Try.ntmps5
    go_wp2_with fail
    refine (alivePacer _).mono ?_; rintro e' w' ⟨rfl, n1, os1, rfl⟩
    go_wp2_with fail
    refine (pcNext t a r (b + 1) n s Ht.out Ha.out Hr.out Hb.out Hn.out Hs.out _).mono ?_; rintro e' w' ⟨rfl, n2, os2, rfl⟩
    rw [E1.out]
    go_wp2_with fail
    refine (pcTake t a r (b + 1) 4611686018427387904 s Ht.out Ha.out Hr.out Hb.out (Wlit (by omega)) Hs.out _).mono ?_; rintro e' w' ⟨rfl, n3, os3, rfl⟩
    rw [E2.out]
    go_wp2_with fail
    go_ret
    exact ⟨rfl, by repeat (first | exact Gr.refl _ | apply Gr.drewN | apply Gr.drew | apply Gr.gw | apply Gr.alloc)⟩
  · have E1 := Lib.hid e1
    have E2 := Lib.hid e2
    clear e1 e2
    have hm : (max a n == 18446744073709551615) = false := by rw [beq_eq_false_iff_ne]; omega
    have hm1 : max a n ≤ 4294967295 := by omega
    go_enter Try.func5, Try.ntmps5
    go_wp2_with fail
    refine (alivePacer _).mono ?_; rintro e' w' ⟨rfl, n1, os1, rfl⟩
    go_wp2_with fail
    refine (pcNext t a r (b + 1) n s Ht.out Ha.out Hr.out Hb.out Hn.out Hs.out _).mono ?_; rintro e' w' ⟨rfl, n2, os2, rfl⟩
    rw [E1.out]
    go_wp2_with fail
    refine (pcTake t a r (b + 1) (max a n) s Ht.out Ha.out Hr.out Hb.out (Wlit (by omega)) Hs.out _).mono ?_; rintro e' w' ⟨rfl, n3, os3, rfl⟩
    rw [E2.out]
    go_wp2_with fail
    go_ret
    exact ⟨rfl, by repeat (first | exact Gr.refl _ | apply Gr.drewN | apply Gr.drew | apply Gr.gw | apply Gr.alloc)⟩
  · have E1 := Lib.hid e1
    have E2 := Lib.hid e2
    have E3 := Lib.hid e3
    clear e1 e2 e3
    have hm : (N == 18446744073709551615) = false := by rw [beq_eq_false_iff_ne]; omega
    have hna : a ≤ N := by omega
    have hnn : n ≤ N := by omega
    have hnm : max n a < N := by omega
    go_enter Try.func5, Try.ntmps5
    go_wp2_with fail
    refine (alivePacer _).mono ?_; rintro e' w' ⟨rfl, n1, os1, rfl⟩
    go_wp2_with fail
    refine (pcNext t a r (b + 1) n s Ht.out Ha.out Hr.out Hb.out Hn.out Hs.out _).mono ?_; rintro e' w' ⟨rfl, n2, os2, rfl⟩
    rw [E1.out]
    go_wp2_with fail
    refine (pcTake t a r (b + 1) N s Ht.out Ha.out Hr.out Hb.out (Wlit (by omega)) Hs.out _).mono ?_; rintro e' w' ⟨rfl, n3, os3, rfl⟩
    rw [E2.out]
    go_wp2_with fail
    refine (pcTake t a r (b + 1) (N - 1) s Ht.out Ha.out Hr.out Hb.out (Wlit (by omega)) Hs.out _).mono ?_; rintro e' w' ⟨rfl, n4, os4, rfl⟩
    rw [E3.out]
    go_wp2_with fail
    go_ret
    exact ⟨rfl, by repeat (first | exact Gr.refl _ | apply Gr.drewN | apply Gr.drew | apply Gr.gw | apply Gr.alloc)⟩

theorem walk (t a r b n s : Int) (w : World) (ht : 0 ≤ t ∧ t ≤ 4294967295) (ha : 0 ≤ a ∧ a ≤ 4294967295) (hr : 0 ≤ r ∧ r ≤ 4294967295) (hb : 0 ≤ b ∧ b ≤ 65535) (hn : 0 ≤ n ∧ n ≤ 4294967295) (hs : 0 ≤ s ∧ s ≤ 65535) :
    Calls Try.prog 5 #[.int .u32 t, .int .u32 a, .int .u32 r, .int .u16 b, .int .u32 n, .int .u16 s] w fun e w' => e = .returned (.bool true) ∧ Below w.heap.size w w' :=
  (walkN t a r b n s w ht ha hr hb hn hs).mono fun _ _ h => ⟨h.1, h.2.below⟩

/-! ### the row's step -/
set_option maxRecDepth 100000 in
theorem lifted (os : Os) (started : os.Started) (H : Type) (enc : TypeId × Value → H) :
    ReturnsInHanded {} Try.checked os 5 .any (Rows.pacerNextSpec.pre6 enc Try.prog Try.f5 Rows.pacerNextRow.domain false) (Rows.pacerNextSpec.post enc Try.prog Try.f5 false true false false) := by
  refine returnsInHanded_of_change (C := Try.checked) own started (by kernel_rfl) Try.func5
    (ChangeSpec.witness6 (enc := enc) (C := Try.checked) false ⟨#[], #[.int .u32 0, .int .u32 0, .int .u32 0, .int .u16 0, .int .u32 0, .int .u16 0], []⟩ 8 (by kernel_rfl) (by kernel_rfl) (by kernel_rfl) (by kernel_rfl)) ?_
  intro W base args ds gs before hval0 hW hcnd _
  have hval : ∀ (j : Nat) t v, Try.f5.params[j]? = some t → args[j]? = some v → Value.okWide Try.prog W .any base t v := hval0
  have hW' := hW
  obtain ⟨p, q, hA0, hV, rfl, hfz, hnd⟩ := hW
  have hA : DataW.TrodAll enc Try.prog W 0 (fun _ => true) true Try.f5.params.toList args.toList ds p := hA0
  rw [Try.params5] at hA hval
  obtain ⟨v0, vs0, d0, ds0, p0, q0, hargs, rfl, rfl, h0, r0⟩ := trodAll_cons hA
  obtain ⟨v1, vs1, d1, ds1, p1, q1, rfl, rfl, rfl, h1, r1⟩ := trodAll_cons r0
  obtain ⟨v2, vs2, d2, ds2, p2, q2, rfl, rfl, rfl, h2, r2⟩ := trodAll_cons r1
  obtain ⟨v3, vs3, d3, ds3, p3, q3, rfl, rfl, rfl, h3, r3⟩ := trodAll_cons r2
  obtain ⟨v4, vs4, d4, ds4, p4, q4, rfl, rfl, rfl, h4, r4⟩ := trodAll_cons r3
  obtain ⟨v5, vs5, d5, ds5, p5, q5, rfl, rfl, rfl, h5, r5⟩ := trodAll_cons r4
  obtain ⟨rfl, rfl, rfl⟩ := trodAll_nil r5
  obtain rfl : args = #[v0, v1, v2, v3, v4, v5] := by cases args; simp_all
  obtain ⟨rfl, rfl⟩ := trodVars_none hV
  obtain ⟨a0, rfl, rfl, rfl, w0⟩ := open_int Try.underlying31 (hval 0 31 v0 rfl rfl) h0
  obtain ⟨a1, rfl, rfl, rfl, w1⟩ := open_int Try.underlying31 (hval 1 31 v1 rfl rfl) h1
  obtain ⟨a2, rfl, rfl, rfl, w2⟩ := open_int Try.underlying31 (hval 2 31 v2 rfl rfl) h2
  obtain ⟨a3, rfl, rfl, rfl, w3⟩ := open_int Try.underlying32 (hval 3 32 v3 rfl rfl) h3
  obtain ⟨a4, rfl, rfl, rfl, w4⟩ := open_int Try.underlying31 (hval 4 31 v4 rfl rfl) h4
  obtain ⟨a5, rfl, rfl, rfl, w5⟩ := open_int Try.underlying32 (hval 5 32 v5 rfl rfl) h5
  clear hA0 hval0
  refine (walk a0 a1 a2 a3 a4 a5 W (wfU32 w0) (wfU32 w1) (wfU32 w2) (wfU16 w3) (wfU32 w4) (wfU16 w5)).mono fun e W' ⟨he, bel⟩ => ?_
  subst he
  exact ⟨_, rfl, _, _, _, [], _, [], hW', trodAll_mk1 (shut_bool Try.underlying4 _), (trodAll_cons_mk (shut_int Try.underlying31 w0) (trodAll_cons_mk (shut_int Try.underlying31 w1) (trodAll_cons_mk (shut_int Try.underlying31 w2) (trodAll_cons_mk (shut_int Try.underlying32 w3) (trodAll_cons_mk (shut_int Try.underlying31 w4) (trodAll_cons_mk (shut_int Try.underlying32 w5) trodAll_mk0)))))), rfl, bel.frame _, fun h => by cases h⟩

theorem over : Rows.pacerNextRow.holds Try.pinned (OpenSpec.ofChange Rows.pacerNextSpec) :=
  OpenClaim.holds_of_wide 5 Try.f5 rfl rfl rfl rfl rfl rfl rfl ⟨rfl, rfl, rfl, rfl, rfl⟩ rfl rfl rfl rfl rfl (by kernel_rfl) Try.func5 (by kernel_rfl)
    (of_decide_eq_true (by kernel_rfl)) (by unfold Func.isWrapper; first | (rw [if_pos (by decide +kernel)]; kernel_rfl) | (rw [if_neg (by decide +kernel)]; exact ⟨rfl, rfl⟩))
    (fun os started H enc _ => lifted os started H enc)

/-- THE STATEMENT -/
theorem proved : Rows.PacerNextSaid := over
end Go.Proofs.Ytanebjapcpbdnaa.pacerNext
