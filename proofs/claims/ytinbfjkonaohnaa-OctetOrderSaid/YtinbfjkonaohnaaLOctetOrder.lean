/- For all words m and n, OctetOrder returns true: encodings of numbers are ordered as the numbers. No condition. -/
import Derived.Test.YtinbfjkonaohnaaBase
import Derived.Test.YtinbfjkonaohnaaAliveOctet
import Derived.Test.YtinbfjkonaohnaaOrder
namespace Go.Proofs.Ytinbfjkonaohnaa.octetOrder
open Go.ChangeShapes Go.WideShapes Go.ChangeAt Go.RowKit Go.Lib
set_option linter.unusedVariables false

theorem and_le (l : Int) (h : W64 l) : 0 ≤ bits .and .u64 l 4611686018427387903 ∧ bits .and .u64 l 4611686018427387903 ≤ 4611686018427387903 := by
  obtain ⟨L, rfl⟩ := Int.eq_ofNat_of_zero_le h.1
  have h2 := h.2
  have hL : L < 18446744073709551616 := by omega
  have e : bits .and .u64 (L : Int) 4611686018427387903 = ((L % 4611686018427387904 : Nat) : Int) := by
    rw [show (4611686018427387903 : Int) = ((4611686018427387903 : Nat) : Int) from rfl, bits_and_u64_nat L 4611686018427387903 hL (by omega)]
    congr 1
    exact Nat.and_two_pow_sub_one_eq_mod L 62
  rw [e]
  omega

theorem less (m n : Int) (hm : 0 ≤ m ∧ m ≤ 4611686018427387903) (hn : 0 ≤ n ∧ n ≤ 4611686018427387903) : Op.bytesLess (strOfNums (putA m)).toList (strOfNums (putA n)).toList = decide (m < n) := by
  rw [ByteArray.toList_eq, ByteArray.toList_eq]
  exact (bytesLess_lex _ _ (putA_byte m hm) (putA_byte n hn)).trans (put_order m n hm hn)

set_option maxHeartbeats 1000000 in
theorem walkN (m n M N : Int) (hM : bits .and .u64 m 4611686018427387903 = M) (hN : bits .and .u64 n 4611686018427387903 = N) (h1 : 0 ≤ M ∧ M ≤ 4611686018427387903) (h2 : 0 ≤ N ∧ N ≤ 4611686018427387903) (w : World) :
    Calls Try.prog 9 #[.int .u64 m, .int .u64 n] w fun e w' => e = .returned (.bool true) ∧ Below w.heap.size w w' := by
  have hl := less M N h1 h2
  have H1 := Lib.hid h1
  have H2 := Lib.hid h2
  clear h1 h2
  go_enter Try.func9, Try.ntmps9
  go_wp2_with fail
  refine (aliveOctet _).mono ?_; rintro e' w1 ⟨rfl, b1⟩
  go_wp2_with fail
  refine (oPut M H1.out _).mono ?_; rintro e' w2 ⟨rfl, ⟨cs1, hc1⟩, B1⟩
  have b2 : Below w1.heap.size w1 w2 := by rw [hc1]; exact (Below.refl _ _).alloc (Nat.le_refl _) _
  clear hc1
  go_wp2_with fail
  refine (oPut N H2.out _).mono ?_; rintro e' w3 ⟨rfl, ⟨cs2, hc2⟩, B2⟩
  have b3 : Below w2.heap.size w2 w3 := by rw [hc2]; exact (Below.refl _ _).alloc (Nat.le_refl _) _
  clear hc2
  have B1' := B1.below b3
  go_wp2_with (first | (refine wpList_conv (by rfl) (.tmp 30) rfl w1.heap.size 0 _ _ rfl (putA M) rfl B1' ?_) | (refine wpList_conv (by rfl) (.tmp 32) rfl w2.heap.size 0 _ _ rfl (putA N) rfl B2 ?_))
  go_ret
  have s1 := b1.size
  have s2 := b2.size
  exact ⟨by simp, b1.trans ((b2.trans (b3.mono (by omega))).mono (by omega))⟩

theorem walk (a0 a1 : Int) (w : World) (w0 : W64 a0) (w1 : W64 a1) :
    Calls Try.prog 9 #[.int .u64 a0, .int .u64 a1] w fun e w' => e = .returned (.bool true) ∧ Below w.heap.size w w' :=
  walkN a0 a1 _ _ rfl rfl (and_le a0 w0) (and_le a1 w1) w

/-! ### the row's step -/
set_option maxRecDepth 100000 in
theorem lifted (os : Os) (started : os.Started) (H : Type) (enc : TypeId × Value → H) :
    ReturnsInHanded {} Try.checked os 9 .any (Rows.octetOrderSpec.pre6 enc Try.prog Try.f9 Rows.octetOrderRow.domain false) (Rows.octetOrderSpec.post enc Try.prog Try.f9 false true false false) := by
  refine returnsInHanded_of_change (C := Try.checked) own started (by kernel_rfl) Try.func9
    (ChangeSpec.witness6 (enc := enc) (C := Try.checked) false ⟨#[], #[.int .u64 0, .int .u64 0], []⟩ 8 (by kernel_rfl) (by kernel_rfl) (by kernel_rfl) (by kernel_rfl)) ?_
  intro W base args ds gs before hval0 hW hcnd _
  have hval : ∀ (j : Nat) t v, Try.f9.params[j]? = some t → args[j]? = some v → Value.okWide Try.prog W .any base t v := hval0
  have hW' := hW
  obtain ⟨p, q, hA0, hV, rfl, hfz, hnd⟩ := hW
  have hA : DataW.TrodAll enc Try.prog W 0 (fun _ => true) true Try.f9.params.toList args.toList ds p := hA0
  rw [Try.params9] at hA hval
  obtain ⟨v0, vs0, d0, ds0, p0, q0, hargs, rfl, rfl, h0, r0⟩ := trodAll_cons hA
  obtain ⟨v1, vs1, d1, ds1, p1, q1, rfl, rfl, rfl, h1, r1⟩ := trodAll_cons r0
  obtain ⟨rfl, rfl, rfl⟩ := trodAll_nil r1
  obtain rfl : args = #[v0, v1] := by cases args; simp_all
  obtain ⟨rfl, rfl⟩ := trodVars_none hV
  obtain ⟨a0, rfl, rfl, rfl, w0⟩ := open_int Try.underlying22 (hval 0 22 v0 rfl rfl) h0
  obtain ⟨a1, rfl, rfl, rfl, w1⟩ := open_int Try.underlying22 (hval 1 22 v1 rfl rfl) h1
  clear hA0 hval0
  refine (walk a0 a1 W (wfU64 w0) (wfU64 w1)).mono fun e W' ⟨he, bel⟩ => ?_
  subst he
  exact ⟨_, rfl, _, _, _, [], _, [], hW', trodAll_mk1 (shut_bool Try.underlying4 _), (trodAll_cons_mk (shut_int Try.underlying22 w0) (trodAll_cons_mk (shut_int Try.underlying22 w1) trodAll_mk0)), rfl, bel.frame _, fun h => by cases h⟩

theorem over : Rows.octetOrderRow.holds Try.pinned (OpenSpec.ofChange Rows.octetOrderSpec) :=
  OpenClaim.holds_of_wide 9 Try.f9 rfl rfl rfl rfl rfl rfl rfl ⟨rfl, rfl, rfl, rfl, rfl⟩ rfl rfl rfl rfl rfl (by kernel_rfl) Try.func9 (by kernel_rfl)
    (of_decide_eq_true (by kernel_rfl)) (by unfold Func.isWrapper; first | (rw [if_pos (by decide +kernel)]; kernel_rfl) | (rw [if_neg (by decide +kernel)]; exact ⟨rfl, rfl⟩))
    (fun os started H enc _ => lifted os started H enc)

/-- THE STATEMENT -/
theorem proved : Rows.OctetOrderSaid := over
end Go.Proofs.Ytinbfjkonaohnaa.octetOrder
