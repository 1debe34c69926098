/- For all slices k of 32-bit numbers and words limit, one, ConfFree returns true: a greatest number and how seldom one is skipped may be any, but for one in one. No condition. -/
import Derived.Test.YtinbfjkonaohnaaBase
import Derived.Test.YtinbfjkonaohnaaAliveConf
import Derived.Test.YtinbfjkonaohnaaConf0
import Derived.Test.YtinbfjkonaohnaaRow
namespace Go.Proofs.Ytinbfjkonaohnaa.confFree
open Go.ChangeShapes Go.WideShapes Go.ChangeAt Go.RowKit Go.Lib
set_option linter.unusedVariables false

theorem confI_free (A : Nat → Int) (h : ∀ i, 0 ≤ A i ∧ A i ≤ 4294967295) (l o : Int) (hl : 0 ≤ l ∧ l ≤ 4611686018427387903) :
    confI (cf0 A) o (cf2 A) l (cf4 A) (cf5 A) (cf6 A) (cf7 A) (cf8 A) (cf9 A) (cf10 A) (cf11 A) (cf12 A) (cf13 A) (cf14 A) (cf15 A) (cf16 A) = if o = 1 then 2 else 0 := by
  have h0 := confI_made A h
  unfold confI at h0 ⊢
  by_cases e0 : cf0 A < 1 ∨ 64 < cf0 A
  · rw [if_pos e0] at h0
    omega
  · rw [if_neg e0] at h0 ⊢
    by_cases ho : o = 1
    · rw [if_pos ho, if_pos ho]
    · rw [if_neg ho, if_neg ho]
      by_cases e1 : cf1 A = 1
      · rw [if_pos e1] at h0
        omega
      · rw [if_neg e1] at h0
        by_cases e2 : cf2 A < 4 ∨ 256 < cf2 A
        · rw [if_pos e2] at h0
          omega
        · rw [if_neg e2] at h0 ⊢
          rw [if_neg (by omega)]
          by_cases e3 : 4611686018427387903 < cf3 A
          · rw [if_pos e3] at h0
            omega
          · rw [if_neg e3] at h0
            exact h0

theorem and_le (l : Int) (h : W64 l) : 0 ≤ bits .and .u64 l 4611686018427387903 ∧ bits .and .u64 l 4611686018427387903 ≤ 4611686018427387903 := by
  obtain ⟨L, rfl⟩ := Int.eq_ofNat_of_zero_le h.1
  have h2 := h.2
  have hL : L < 18446744073709551616 := by omega
  have e : bits .and .u64 (L : Int) 4611686018427387903 = ((L % 4611686018427387904 : Nat) : Int) := by
    rw [show (4611686018427387903 : Int) = ((4611686018427387903 : Nat) : Int) from rfl, bits_and_u64_nat L 4611686018427387903 hL (by omega)]
    congr 1
    exact Nat.and_two_pow_sub_one_eq_mod L 62
  rw [e]
  omega

set_option maxHeartbeats 2000000 in
theorem walkOne (a : Option Addr) (len cap : Nat) (z : Nat → Int) (l : Int) (w : World) (h : Nums w a len z) (wl : W64 l) :
    Calls Try.prog 6 #[.slice a len cap, .int .u64 l, .int .u64 1] w fun e w' => e = .returned (.bool true) ∧ Gr w w' := by
  have HF := Lib.hid (confI_free (atF len z) h.atF _ 1 (and_le l wl))
  rw [if_pos rfl] at HF
  have HR := Lib.hid h
  clear h
  go_enter Try.func6, Try.ntmps6
  go_wp2_with fail
  ((with_reducible refine (aliveConf _).mono ?_); rintro e' w' ⟨rfl, n1, os1, rfl⟩)
  go_wp2_with fail
  refine (zConf a len cap z _ (HR.out.below (by repeat (first | with_reducible exact Below.refl _ _ | with_reducible apply below_drewN | with_reducible apply Below.drew | with_reducible refine below_gw ?_ (by simp) _ | with_reducible refine Below.alloc ?_ (by simp) _)))).mono ?_; rintro e' w' ⟨rfl, n2, os2, rfl⟩
  go_wp2_with (first | (refine wpList_store_newD rfl 24 _ _ rfl _ _ rfl rfl _ _ _ _ (by with_reducible rfl) (by simp) (by kernel_rfl) rfl (by first | kernel_rfl | simp [Value.oneCell'] | rfl) ?_) | (refine wpList_store_new rfl 24 _ _ rfl _ _ rfl rfl _ _ _ (by with_reducible rfl) (by simp) (by kernel_rfl) rfl (by first | kernel_rfl | simp [Value.oneCell'] | rfl) ?_) | (refine wpList_load_all (by rfl) 24 _ rfl _ rfl _ _ _ _ (by repeat (first | with_reducible exact heap_newS _ _ _ (by simp) | with_reducible apply heap_gwS | with_reducible apply heap_drewNS | with_reducible apply heap_drewS | with_reducible apply heap_allocS)) Try.underlying24 rfl (by kernel_rfl) ?_))
  refine (cMay _ _ _ _ _ _ _ _ _ _ _ _ _ _ _ _ _ _).mono ?_; rintro e' w' ⟨rfl, n3, os3, rfl⟩
  rw [HF.out]
  go_wp2_with ((refine wpList_load_all (by rfl) 24 _ rfl _ rfl _ _ _ _ (by repeat (first | with_reducible exact heap_newS _ _ _ (by simp) | with_reducible apply heap_gwS | with_reducible apply heap_drewNS | with_reducible apply heap_drewS | with_reducible apply heap_allocS)) Try.underlying24 rfl (by kernel_rfl) ?_))
  refine (cCheck _ _ _ _ _ _ _ _ _ _ _ _ _ _ _ _ _ _).mono ?_; rintro e' w' ⟨rfl, n4, os4, rfl⟩
  rw [HF.out]
  go_wp2_with fail
  go_ret
  exact ⟨rfl, by repeat (first | exact Gr.refl _ | apply Gr.drewN | apply Gr.drew | apply Gr.gw | apply Gr.alloc)⟩

set_option maxHeartbeats 2000000 in
theorem walkNot (a : Option Addr) (len cap : Nat) (z : Nat → Int) (l o : Int) (w : World) (h : Nums w a len z) (wl : W64 l) (ho : ¬ o = 1) :
    Calls Try.prog 6 #[.slice a len cap, .int .u64 l, .int .u64 o] w fun e w' => e = .returned (.bool true) ∧ Gr w w' := by
  have HF := Lib.hid (confI_free (atF len z) h.atF _ o (and_le l wl))
  rw [if_neg ho] at HF
  have HR := Lib.hid h
  clear h
  have h1 : (o != 1) = true := by rw [bne_iff_ne]; exact ho
  go_enter Try.func6, Try.ntmps6
  go_wp2_with fail
  ((with_reducible refine (aliveConf _).mono ?_); rintro e' w' ⟨rfl, n1, os1, rfl⟩)
  go_wp2_with fail
  refine (zConf a len cap z _ (HR.out.below (by repeat (first | with_reducible exact Below.refl _ _ | with_reducible apply below_drewN | with_reducible apply Below.drew | with_reducible refine below_gw ?_ (by simp) _ | with_reducible refine Below.alloc ?_ (by simp) _)))).mono ?_; rintro e' w' ⟨rfl, n2, os2, rfl⟩
  go_wp2_with (first | (refine wpList_store_newD rfl 24 _ _ rfl _ _ rfl rfl _ _ _ _ (by with_reducible rfl) (by simp) (by kernel_rfl) rfl (by first | kernel_rfl | simp [Value.oneCell'] | rfl) ?_) | (refine wpList_store_new rfl 24 _ _ rfl _ _ rfl rfl _ _ _ (by with_reducible rfl) (by simp) (by kernel_rfl) rfl (by first | kernel_rfl | simp [Value.oneCell'] | rfl) ?_) | (refine wpList_load_all (by rfl) 24 _ rfl _ rfl _ _ _ _ (by repeat (first | with_reducible exact heap_newS _ _ _ (by simp) | with_reducible apply heap_gwS | with_reducible apply heap_drewNS | with_reducible apply heap_drewS | with_reducible apply heap_allocS)) Try.underlying24 rfl (by kernel_rfl) ?_))
  refine (cMay _ _ _ _ _ _ _ _ _ _ _ _ _ _ _ _ _ _).mono ?_; rintro e' w' ⟨rfl, n3, os3, rfl⟩
  rw [HF.out]
  go_wp2_with fail
  go_ret
  exact ⟨rfl, by repeat (first | exact Gr.refl _ | apply Gr.drewN | apply Gr.drew | apply Gr.gw | apply Gr.alloc)⟩

theorem walk (a0 : Option Addr) (len0 cap0 : Nat) (z0 : List Int) (a1 a2 : Int) (w : World) (w0 : IsRow .u32 w a0 len0 cap0 z0) (w1 : W64 a1) (w2 : W64 a2) :
    Calls Try.prog 6 #[.slice a0 len0 cap0, .int .u64 a1, .int .u64 a2] w fun e w' => e = .returned (.bool true) ∧ Below w.heap.size w w' := by
  by_cases ho : a2 = 1
  · subst ho
    exact (walkOne a0 len0 cap0 _ a1 w (nums_of_row w0) w1).mono fun _ _ h => ⟨h.1, h.2.below⟩
  · exact (walkNot a0 len0 cap0 _ a1 a2 w (nums_of_row w0) w1 ho).mono fun _ _ h => ⟨h.1, h.2.below⟩

/-! ### the row's step -/
set_option maxRecDepth 100000 in
theorem lifted (os : Os) (started : os.Started) (H : Type) (enc : TypeId × Value → H) :
    ReturnsInHanded {} Try.checked os 6 .any (Rows.confFreeSpec.pre6 enc Try.prog Try.f6 Rows.confFreeRow.domain false) (Rows.confFreeSpec.post enc Try.prog Try.f6 false true false false) := by
  refine returnsInHanded_of_change (C := Try.checked) own started (by kernel_rfl) Try.func6
    (ChangeSpec.witness6 (enc := enc) (C := Try.checked) false ⟨#[], #[.slice none 0 0, .int .u64 0, .int .u64 0], []⟩ 8 (by kernel_rfl) (by kernel_rfl) (by kernel_rfl) (by kernel_rfl)) ?_
  intro W base args ds gs before hval0 hW hcnd _
  have hval : ∀ (j : Nat) t v, Try.f6.params[j]? = some t → args[j]? = some v → Value.okWide Try.prog W .any base t v := hval0
  have hW' := hW
  obtain ⟨p, q, hA0, hV, rfl, hfz, hnd⟩ := hW
  have hA : DataW.TrodAll enc Try.prog W 0 (fun _ => true) true Try.f6.params.toList args.toList ds p := hA0
  rw [Try.params6] at hA hval
  obtain ⟨v0, vs0, d0, ds0, p0, q0, hargs, rfl, rfl, h0, r0⟩ := trodAll_cons hA
  obtain ⟨v1, vs1, d1, ds1, p1, q1, rfl, rfl, rfl, h1, r1⟩ := trodAll_cons r0
  obtain ⟨v2, vs2, d2, ds2, p2, q2, rfl, rfl, rfl, h2, r2⟩ := trodAll_cons r1
  obtain ⟨rfl, rfl, rfl⟩ := trodAll_nil r2
  obtain rfl : args = #[v0, v1, v2] := by cases args; simp_all
  obtain ⟨rfl, rfl⟩ := trodVars_none hV
  obtain ⟨a0, len0, cap0, rfl⟩ := okWide_slice Try.underlying28 (hval 0 28 v0 rfl rfl)
  have k0 := h0
  have lt0 : ∀ x ∈ p0, x.block < W.heap.size := by obtain ⟨m, hm⟩ := k0; exact DataW.trod_lt m _ _ _ hm
  obtain ⟨z0, w0⟩ : ∃ zs, IsRow .u32 W a0 len0 cap0 zs := by
    obtain ⟨fuel, hf⟩ := h0
    rcases open_ints Try.underlying28 Try.underlying72 (by kernel_rfl) hf with ⟨hcs, _⟩ | ⟨x, l, c, zs, hcs, _, hl, hm, hz, _, hcell, hwz⟩
    · simp [Value.cells] at hcs
      obtain ⟨rfl, rfl, rfl⟩ := hcs
      exact ⟨[], .inl ⟨rfl, rfl, rfl, rfl⟩⟩
    · simp [Value.cells] at hcs
      obtain ⟨rfl, rfl, rfl⟩ := hcs
      exact ⟨zs, .inr ⟨_, rfl, hl, hm, by simpa using hz, hcell, hwz⟩⟩
  obtain ⟨a1, rfl, rfl, rfl, w1⟩ := open_int Try.underlying22 (hval 1 22 v1 rfl rfl) h1
  obtain ⟨a2, rfl, rfl, rfl, w2⟩ := open_int Try.underlying22 (hval 2 22 v2 rfl rfl) h2
  clear hA0 hval0
  refine (walk a0 len0 cap0 z0 a1 a2 W w0 (wfU64 w1) (wfU64 w2)).mono fun e W' ⟨he, bel⟩ => ?_
  subst he
  exact ⟨_, rfl, _, _, _, [], _, [], hW', trodAll_mk1 (shut_bool Try.underlying4 _), (trodAll_cons_mk (Below.trod laidOut (by kernel_rfl) (of_decide_eq_true (by kernel_rfl)) k0 bel lt0) (trodAll_cons_mk (shut_int Try.underlying22 w1) (trodAll_cons_mk (shut_int Try.underlying22 w2) trodAll_mk0))), rfl, bel.frame _, fun h => by cases h⟩

theorem over : Rows.confFreeRow.holds Try.pinned (OpenSpec.ofChange Rows.confFreeSpec) :=
  OpenClaim.holds_of_wide 6 Try.f6 rfl rfl rfl rfl rfl rfl rfl ⟨rfl, rfl, rfl, rfl, rfl⟩ rfl rfl rfl rfl rfl (by kernel_rfl) Try.func6 (by kernel_rfl)
    (of_decide_eq_true (by kernel_rfl)) (by unfold Func.isWrapper; first | (rw [if_pos (by decide +kernel)]; kernel_rfl) | (rw [if_neg (by decide +kernel)]; exact ⟨rfl, rfl⟩))
    (fun os started H enc _ => lifted os started H enc)

/-- THE STATEMENT -/
theorem proved : Rows.ConfFreeSaid := over
end Go.Proofs.Ytinbfjkonaohnaa.confFree
