/- For all 32-bit x and 8-bit n, RttSteady returns true: one sample again and again is the smoothed time, and its variance falls to nothing. No condition. -/
import Derived.Test.YtbgbeadhpcikhaaBase
import Derived.Test.YtbgbeadhpcikhaaAliveRtt
namespace Go.Proofs.Ytbgbeadhpcikhaa.rttSteady
open Go.ChangeShapes Go.WideShapes Go.ChangeAt Go.RowKit Go.Lib
set_option linter.unusedVariables false

/-- how far the variance has fallen -/
def Fell (k : Nat) (v : Int) : Prop := v * 4 ^ k ≤ 2147483647 * 3 ^ k
theorem Fell.zero {v : Int} (h : v ≤ 2147483647) : Fell 0 v := by
  unfold Fell
  omega
theorem Fell.succ {k : Nat} {v : Int} (h0 : 0 ≤ v) (h : Fell k v) : Fell (k + 1) (3 * v / 4) := by
  unfold Fell at *
  have h1 : 3 * v / 4 * 4 ≤ 3 * v := by omega
  have h4 : (0 : Int) ≤ 4 ^ k := Int.pow_nonneg (by omega)
  have h2 : (3 * v / 4 * 4) * 4 ^ k ≤ (3 * v) * 4 ^ k := Int.mul_le_mul_of_nonneg_right h1 h4
  rw [Int.pow_succ, Int.pow_succ]
  have e1 : 3 * v / 4 * (4 ^ k * 4) = (3 * v / 4 * 4) * 4 ^ k := by rw [Int.mul_comm (4 ^ k) 4, Int.mul_assoc]
  have e2 : (3 * v) * 4 ^ k = 3 * (v * 4 ^ k) := Int.mul_assoc _ _ _
  have e3 : (2147483647 : Int) * (3 ^ k * 3) = 3 * (2147483647 * 3 ^ k) := by
    rw [Int.mul_comm (3 ^ k) 3, Int.mul_left_comm]
  rw [e1, e3]
  rw [e2] at h2
  omega
theorem low_pow : ∀ j : Nat, (2147483647 : Int) * 3 ^ (120 + j) < 4 ^ (120 + j)
  | 0 => by decide +kernel
  | j + 1 => by
    have := low_pow j
    have h4 : (0 : Int) ≤ 4 ^ (120 + j) := Int.pow_nonneg (by omega)
    rw [← Nat.add_assoc, Int.pow_succ, Int.pow_succ]
    have e3 : (2147483647 : Int) * (3 ^ (120 + j) * 3) = 3 * (2147483647 * 3 ^ (120 + j)) := by
      rw [Int.mul_comm (3 ^ (120 + j)) 3, Int.mul_left_comm]
    rw [e3]
    omega
theorem Fell.done {k : Nat} {v : Int} (h0 : 0 ≤ v) (hk : 120 ≤ k) (h : Fell k v) : v = 0 := by
  unfold Fell at h
  obtain ⟨j, rfl⟩ : ∃ j, k = 120 + j := ⟨k - 120, by omega⟩
  have hl := low_pow j
  by_cases hv : 1 ≤ v
  · have h4 : (0 : Int) ≤ 4 ^ (120 + j) := Int.pow_nonneg (by omega)
    have : 1 * 4 ^ (120 + j) ≤ v * (4 : Int) ^ (120 + j) := Int.mul_le_mul_of_nonneg_right hv h4
    omega
  · omega

theorem below_gw {B : Nat} {a w : World} (h : Below B a w) (hB : B ≤ w.heap.size) (os : Array Obj) : Below B a (gw w os) :=
  h.trans ((Gr.refl w).gw os |>.below.mono hB)

set_option maxHeartbeats 1000000 in
theorem walk (a0 a1 : Int) (w : World) (w0 : 0 ≤ a0 ∧ a0 ≤ 4294967295) (w1 : 0 ≤ a1 ∧ a1 ≤ 255) :
    Calls Try.prog 12 #[.int .u32 a0, .int .u8 a1] w fun e w' => e = .returned (.bool true) ∧ Below w.heap.size w w' := by
  obtain ⟨x0, x1⟩ := w0
  obtain ⟨y0, y1⟩ := w1
  have HX := Lib.hid (show W64 a0 from Wlit (by omega))
  have e1 : mixI 7 a0 a0 = a0 := by unfold mixI; omega
  have e2 : ∀ v, mixI 3 v (diffI a0 a0) = 3 * v / 4 := fun v => by unfold mixI diffI; omega
  go_enter Try.func12, Try.ntmps12
  go_wp2_with fail
  refine (aliveRtt _).mono ?_; rintro e' w' ⟨rfl, n1, os1, rfl⟩
  go_wp2_with fail
  refine (tSampleNo _ _ _ _ _ HX.out _).mono ?_; rintro e' w' ⟨rfl, n2, os2, rfl⟩
  go_wp2_with fail
  have hB0 : w.heap.size ≤ w.heap.size + os1.size + os2.size := by omega
  go_loopw [6] (fun i wr => ∃ (k : Nat) (v m : Int), i = .int .i64 (k : Int) ∧ (k : Int) ≤ 120 + a1 ∧ Hid (Fell k v) ∧ 0 ≤ v ∧ v ≤ 2147483647 ∧
      wr.cell? ⟨w.heap.size + os1.size + os2.size, 0, none⟩ = some (.bool true) ∧ wr.cell? ⟨w.heap.size + os1.size + os2.size, 1, none⟩ = some (.int .u64 a0) ∧ wr.cell? ⟨w.heap.size + os1.size + os2.size, 2, none⟩ = some (.int .u64 a0) ∧
      wr.cell? ⟨w.heap.size + os1.size + os2.size, 3, none⟩ = some (.int .u64 v) ∧ wr.cell? ⟨w.heap.size + os1.size + os2.size, 4, none⟩ = some (.int .u64 m) ∧
      (∀ j, j < 5 → wr.frozen? ⟨w.heap.size + os1.size + os2.size, j, none⟩ = false) ∧ w.heap.size + os1.size + os2.size < wr.heap.size ∧ Below w.heap.size w wr) (fun i _ => (120 + a1 - intOf i).toNat)
  case atStart =>
    refine ⟨0, a0 / 2, a0, rfl, by omega, Fell.zero (by omega), by omega, by omega, by go_simp, by go_simp, by go_simp, by go_simp, by go_simp, ?_, by simp, ?_⟩
    · intro j hj
      rcases (by omega : j = 0 ∨ j = 1 ∨ j = 2 ∨ j = 3 ∨ j = 4) with rfl | rfl | rfl | rfl | rfl <;> go_simp
    · exact Gr.below (by repeat (first | exact Gr.refl _ | apply Gr.drewN | apply Gr.drew | apply Gr.gw | apply Gr.alloc))
  case round =>
    obtain ⟨k, v, m, rfl, hk, hf, v0, v1, c0, c1, c2, c3, c4, hfz, hB, hbel⟩ := hrel
    have f0 := hfz 0 (by omega)
    have f1 := hfz 1 (by omega)
    have f2 := hfz 2 (by omega)
    have f3 := hfz 3 (by omega)
    have f4 := hfz 4 (by omega)
    have HV := Lib.hid (show W64 v from Wlit (by omega))
    have HBel := Lib.hid hbel
    clear hfz hbel
    have hB2 : ∀ s : Nat, w.heap.size + os1.size + os2.size < wr.heap.size + s := fun s => by omega
    have hB3 : ∀ s : Nat, w.heap.size + os1.size + os2.size < wr.heap.size + s + 1 := fun s => by omega
    by_cases h : (k : Int) < 120 + a1
    · go_wp2_with fail
      refine (tSampleYes _ _ _ _ _ HX.out HV.out HX.out _).mono ?_; rintro e' w' ⟨rfl, n3, os3, rfl⟩
      go_wp2_with fail
      go_roundw
      case rel =>
        refine ⟨k + 1, 3 * v / 4, min m a0, by congr 1, by omega, Fell.succ v0 hf.out, by omega, by omega, by go_simp, by go_simp, by go_simp, by go_simp, by go_simp, ?_, by go_simp, ?_⟩
        · intro j hj
          rcases (by omega : j = 0 ∨ j = 1 ∨ j = 2 ∨ j = 3 ∨ j = 4) with rfl | rfl | rfl | rfl | rfl <;> go_simp
        · have hs := HBel.out.size
          repeat (first | exact HBel.out | apply below_drewN | apply Below.drew | refine below_gw ?_ (by simp; omega) _ | refine Below.alloc ?_ (by simp; omega) _ | refine Below.setCell ?_ (by simp; omega) _)
      case measure => simp only [intOf]; omega
    · have hz : v = 0 := Fell.done v0 (by omega) hf.out
      subst hz
      go_wp2_with fail
      go_ret
      exact ⟨rfl, HBel.out⟩

/-! ### the row's step -/
set_option maxRecDepth 100000 in
theorem lifted (os : Os) (started : os.Started) (H : Type) (enc : TypeId × Value → H) :
    ReturnsInHanded {} Try.checked os 12 .any (Rows.rttSteadySpec.pre6 enc Try.prog Try.f12 Rows.rttSteadyRow.domain false) (Rows.rttSteadySpec.post enc Try.prog Try.f12 false true false false) := by
  refine returnsInHanded_of_change (C := Try.checked) own started (by kernel_rfl) Try.func12
    (ChangeSpec.witness6 (enc := enc) (C := Try.checked) false ⟨#[], #[.int .u32 0, .int .u8 0], []⟩ 8 (by kernel_rfl) (by kernel_rfl) (by kernel_rfl) (by kernel_rfl)) ?_
  intro W base args ds gs before hval0 hW hcnd _
  have hval : ∀ (j : Nat) t v, Try.f12.params[j]? = some t → args[j]? = some v → Value.okWide Try.prog W .any base t v := hval0
  have hW' := hW
  obtain ⟨p, q, hA0, hV, rfl, hfz, hnd⟩ := hW
  have hA : DataW.TrodAll enc Try.prog W 0 (fun _ => true) true Try.f12.params.toList args.toList ds p := hA0
  rw [Try.params12] at hA hval
  obtain ⟨v0, vs0, d0, ds0, p0, q0, hargs, rfl, rfl, h0, r0⟩ := trodAll_cons hA
  obtain ⟨v1, vs1, d1, ds1, p1, q1, rfl, rfl, rfl, h1, r1⟩ := trodAll_cons r0
  obtain ⟨rfl, rfl, rfl⟩ := trodAll_nil r1
  obtain rfl : args = #[v0, v1] := by cases args; simp_all
  obtain ⟨rfl, rfl⟩ := trodVars_none hV
  obtain ⟨a0, rfl, rfl, rfl, w0⟩ := open_int Try.underlying28 (hval 0 28 v0 rfl rfl) h0
  obtain ⟨a1, rfl, rfl, rfl, w1⟩ := open_int Try.underlying5 (hval 1 5 v1 rfl rfl) h1
  clear hA0 hval0
  refine (walk a0 a1 W (wfU32 w0) (wfU8 w1)).mono fun e W' ⟨he, bel⟩ => ?_
  subst he
  exact ⟨_, rfl, _, _, _, [], _, [], hW', trodAll_mk1 (shut_bool Try.underlying4 _), (trodAll_cons_mk (shut_int Try.underlying28 w0) (trodAll_cons_mk (shut_int Try.underlying5 w1) trodAll_mk0)), rfl, bel.frame _, fun h => by cases h⟩

theorem over : Rows.rttSteadyRow.holds Try.pinned (OpenSpec.ofChange Rows.rttSteadySpec) :=
  OpenClaim.holds_of_wide 12 Try.f12 rfl rfl rfl rfl rfl rfl rfl ⟨rfl, rfl, rfl, rfl, rfl⟩ rfl rfl rfl rfl rfl (by kernel_rfl) Try.func12 (by kernel_rfl)
    (of_decide_eq_true (by kernel_rfl)) (by unfold Func.isWrapper; first | (rw [if_pos (by decide +kernel)]; kernel_rfl) | (rw [if_neg (by decide +kernel)]; exact ⟨rfl, rfl⟩))
    (fun os started H enc _ => lifted os started H enc)

/-- THE STATEMENT -/
theorem proved : Rows.RttSteadySaid := over
end Go.Proofs.Ytbgbeadhpcikhaa.rttSteady
