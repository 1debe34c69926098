/- For all 16-bit cwnd, 8-bit mss and pieces, RenoRounds returns true: beyond the threshold a window grows by one packet for each window that was acknowledged. No condition. -/
import Derived.Test.YtbgbeadhpcikhaaBase
import Derived.Test.YtbgbeadhpcikhaaAliveReno
namespace Go.Proofs.Ytbgbeadhpcikhaa.renoRounds
open Go.ChangeShapes Go.WideShapes Go.ChangeAt Go.RowKit Go.Lib
set_option linter.unusedVariables false

theorem below_gw {B : Nat} {a w : World} (h : Below B a w) (hB : B ≤ w.heap.size) (os : Array Obj) : Below B a (gw w os) :=
  h.trans ((Gr.refl w).gw os |>.below.mono hB)

/-- one acknowledgment beyond the threshold -/
theorem grows (W m lf n : Int) (hm : 1 ≤ m ∧ m ≤ 256) (hW : 0 < W ∧ W ≤ 70000) (h1 : 0 < lf ∧ lf ≤ W) (h2 : n ≤ lf ∧ 0 < n) :
    growC W 0 (W - lf) n m = (if lf - n = 0 then W + m else W) ∧ growA W 0 (W - lf) n m = (if lf - n = 0 then 0 else W - (lf - n)) := by
  have e1 : addI (W - lf) n = W - (lf - n) := by unfold addI; omega
  have e2 : addI W m = W + m := by unfold addI; omega
  unfold growC growA
  have h0 : ¬ W < 0 := by omega
  rw [if_neg h0, if_neg h0, e1, e2]
  by_cases h : lf - n = 0
  · have h3 : W ≤ W - (lf - n) := by omega
    rw [if_pos h3, if_pos h3, if_pos h, if_pos h]
    exact ⟨rfl, by omega⟩
  · have h3 : ¬ W ≤ W - (lf - n) := by omega
    rw [if_neg h3, if_neg h3, if_neg h, if_neg h]
    exact ⟨rfl, rfl⟩

set_option maxHeartbeats 4000000 in
theorem walk (a0 a1 a2 : Int) (w : World) (w0 : 0 ≤ a0 ∧ a0 ≤ 65535) (w1 : 0 ≤ a1 ∧ a1 ≤ 255) (w2 : 0 ≤ a2 ∧ a2 ≤ 255) :
    Calls Try.prog 7 #[.int .u16 a0, .int .u8 a1, .int .u8 a2] w fun e w' => e = .returned (.bool true) ∧ Below w.heap.size w w' := by
  obtain ⟨x0, x1⟩ := w0
  obtain ⟨y0, y1⟩ := w1
  obtain ⟨z0, z1⟩ := w2
  go_enter Try.func7, Try.ntmps7
  go_wp2_with fail
  refine (aliveReno _).mono ?_; rintro e' w' ⟨rfl, n1, os1, rfl⟩
  go_wp2_with fail
  go_loopw [10, 12] (fun left i wr => ∃ (lf iv C A : Int), left = .int .u64 lf ∧ i = .int .u64 iv ∧ 0 ≤ lf ∧ lf ≤ a1 + 1 + a0 ∧
      Hid ((0 < lf ∧ C = a1 + 1 + a0 ∧ A = a1 + 1 + a0 - lf) ∨ (lf = 0 ∧ C = a1 + 1 + a0 + (a1 + 1) ∧ A = 0)) ∧
      wr.cell? ⟨w.heap.size, 0, none⟩ = some (.int .u64 (a1 + 1 + a0)) ∧
      wr.cell? ⟨w.heap.size + 1 + os1.size, 0, none⟩ = some (.int .u64 C) ∧ wr.cell? ⟨w.heap.size + 1 + os1.size, 1, none⟩ = some (.int .u64 0) ∧ wr.cell? ⟨w.heap.size + 1 + os1.size, 2, none⟩ = some (.int .u64 A) ∧
      wr.cell? ⟨w.heap.size + 1 + os1.size, 3, none⟩ = some (.int .u64 0) ∧ wr.cell? ⟨w.heap.size + 1 + os1.size, 4, none⟩ = some (.int .u64 0) ∧ wr.cell? ⟨w.heap.size + 1 + os1.size, 5, none⟩ = some (.int .u64 0) ∧ wr.cell? ⟨w.heap.size + 1 + os1.size, 6, none⟩ = some (.int .u64 0) ∧
      (∀ j, j < 7 → wr.frozen? ⟨w.heap.size + 1 + os1.size, j, none⟩ = false) ∧ w.heap.size + 1 + os1.size < wr.heap.size ∧ Below w.heap.size w wr) (fun left _ _ => (intOf left).toNat)
  case atStart =>
    refine ⟨a1 + 1 + a0, 0, a1 + 1 + a0, 0, rfl, rfl, by omega, by omega, .inl ⟨by omega, rfl, by omega⟩, by go_simp, by go_simp, by go_simp, by go_simp, by go_simp, by go_simp, by go_simp, by go_simp, ?_, by simp, ?_⟩
    · intro j hj
      rcases (by omega : j = 0 ∨ j = 1 ∨ j = 2 ∨ j = 3 ∨ j = 4 ∨ j = 5 ∨ j = 6) with rfl | rfl | rfl | rfl | rfl | rfl | rfl <;> go_simp
    · exact Gr.below (by repeat (first | exact Gr.refl _ | apply Gr.drewN | apply Gr.drew | apply Gr.gw | apply Gr.alloc))
  case round =>
    obtain ⟨lf, iv, C, A, rfl, rfl, l0, l1, hst, q0, d0, d1, d2, d3, d4, d5, d6, hfz, hB, hbel⟩ := hrel
    have f0 := hfz 0 (by omega)
    have f1 := hfz 1 (by omega)
    have f2 := hfz 2 (by omega)
    have f3 := hfz 3 (by omega)
    have f4 := hfz 4 (by omega)
    have f5 := hfz 5 (by omega)
    have f6 := hfz 6 (by omega)
    have HBel := Lib.hid hbel
    have hw0 : w.heap.size < wr.heap.size := by omega
    have hB2 : ∀ s : Nat, w.heap.size + 1 + os1.size < wr.heap.size + s := fun s => by omega
    have hw2 : ∀ s : Nat, w.heap.size < wr.heap.size + s := fun s => by omega
    clear hfz hbel
    rcases hst.out with ⟨p0, rfl, rfl⟩ | ⟨rfl, rfl, rfl⟩
    · by_cases hle : lf ≤ a2 + 1
      · obtain ⟨k1, k2⟩ := grows (a1 + 1 + a0) (a1 + 1) lf lf (by omega) (by omega) (by omega) (by omega)
        rw [if_pos (by omega)] at k1 k2
        have HK := Lib.hid k1
        have HK2 := Lib.hid k2
        clear k1 k2
        go_wp2_with fail
        refine (nGrow (a1 + 1 + a0) 0 (a1 + 1 + a0 - lf) 0 0 0 0 lf (a1 + 1) (Wlit (by omega)) (Wlit (by omega)) (Wlit (by omega)) (Wlit (by omega)) _).mono ?_; rintro e' w' ⟨rfl, n3, os3, rfl⟩
        rw [HK.out, HK2.out]
        go_wp2_with fail
        go_roundw
        case rel =>
          refine ⟨0, _, a1 + 1 + a0 + (a1 + 1), 0, rfl, rfl, by omega, by omega, .inr ⟨by omega, rfl, rfl⟩, by go_simp, by go_simp, by go_simp, by go_simp, by go_simp, by go_simp, by go_simp, by go_simp, ?_, by go_simp, ?_⟩
          · intro j hj
            rcases (by omega : j = 0 ∨ j = 1 ∨ j = 2 ∨ j = 3 ∨ j = 4 ∨ j = 5 ∨ j = 6) with rfl | rfl | rfl | rfl | rfl | rfl | rfl <;> go_simp
          · have hs := HBel.out.size
            repeat (first | with_reducible exact HBel.out | with_reducible apply below_drewN | with_reducible apply Below.drew | with_reducible refine below_gw ?_ (by simp; omega) _ | with_reducible refine Below.alloc ?_ (by simp; omega) _ | with_reducible refine Below.setCell ?_ (by simp; omega) _)
        case measure => simp only [intOf]; omega
      · obtain ⟨k1, k2⟩ := grows (a1 + 1 + a0) (a1 + 1) lf (a2 + 1) (by omega) (by omega) (by omega) (by omega)
        have hp : 0 < lf - (a2 + 1) := by omega
        have hp' : a2 + 1 < lf := by omega
        rw [if_neg (by omega)] at k1 k2
        have HK := Lib.hid k1
        have HK2 := Lib.hid k2
        clear k1 k2 hle
        go_wp2_with fail
        refine (nGrow (a1 + 1 + a0) 0 (a1 + 1 + a0 - lf) 0 0 0 0 (a2 + 1) (a1 + 1) (Wlit (by omega)) (Wlit (by omega)) (Wlit (by omega)) (Wlit (by omega)) _).mono ?_; rintro e' w' ⟨rfl, n3, os3, rfl⟩
        rw [HK.out, HK2.out]
        go_wp2_with fail
        go_roundw
        case rel =>
          refine ⟨lf - (a2 + 1), _, a1 + 1 + a0, a1 + 1 + a0 - (lf - (a2 + 1)), rfl, rfl, by omega, by omega, .inl ⟨by omega, rfl, by omega⟩, by go_simp, by go_simp, by go_simp, by go_simp, by go_simp, by go_simp, by go_simp, by go_simp, ?_, by go_simp, ?_⟩
          · intro j hj
            rcases (by omega : j = 0 ∨ j = 1 ∨ j = 2 ∨ j = 3 ∨ j = 4 ∨ j = 5 ∨ j = 6) with rfl | rfl | rfl | rfl | rfl | rfl | rfl <;> go_simp
          · have hs := HBel.out.size
            repeat (first | with_reducible exact HBel.out | with_reducible apply below_drewN | with_reducible apply Below.drew | with_reducible refine below_gw ?_ (by simp; omega) _ | with_reducible refine Below.alloc ?_ (by simp; omega) _ | with_reducible refine Below.setCell ?_ (by simp; omega) _)
        case measure => simp only [intOf]; omega
    · have e1 : subI (a1 + 1 + a0 + (a1 + 1)) (a1 + 1) = a1 + 1 + a0 := by unfold subI; omega
      go_wp2_with fail
      go_quiet ((go_at_call 21; exact Calls.quiet_of_same (turn (rSub (a1 + 1 + a0 + (a1 + 1)) (a1 + 1) (Wlit (by omega)) (Wlit (by omega)) _))))
      go_wp2_with fail
      go_ret
      exact ⟨rfl, by have h := HBel.out; repeat (first | with_reducible exact h | with_reducible apply below_drewN | with_reducible apply Below.drew)⟩

/-! ### the row's step -/
set_option maxRecDepth 100000 in
theorem lifted (os : Os) (started : os.Started) (H : Type) (enc : TypeId × Value → H) :
    ReturnsInHanded {} Try.checked os 7 .any (Rows.renoRoundsSpec.pre6 enc Try.prog Try.f7 Rows.renoRoundsRow.domain false) (Rows.renoRoundsSpec.post enc Try.prog Try.f7 false true false false) := by
  refine returnsInHanded_of_change (C := Try.checked) own started (by kernel_rfl) Try.func7
    (ChangeSpec.witness6 (enc := enc) (C := Try.checked) false ⟨#[], #[.int .u16 0, .int .u8 0, .int .u8 0], []⟩ 8 (by kernel_rfl) (by kernel_rfl) (by kernel_rfl) (by kernel_rfl)) ?_
  intro W base args ds gs before hval0 hW hcnd _
  have hval : ∀ (j : Nat) t v, Try.f7.params[j]? = some t → args[j]? = some v → Value.okWide Try.prog W .any base t v := hval0
  have hW' := hW
  obtain ⟨p, q, hA0, hV, rfl, hfz, hnd⟩ := hW
  have hA : DataW.TrodAll enc Try.prog W 0 (fun _ => true) true Try.f7.params.toList args.toList ds p := hA0
  rw [Try.params7] at hA hval
  obtain ⟨v0, vs0, d0, ds0, p0, q0, hargs, rfl, rfl, h0, r0⟩ := trodAll_cons hA
  obtain ⟨v1, vs1, d1, ds1, p1, q1, rfl, rfl, rfl, h1, r1⟩ := trodAll_cons r0
  obtain ⟨v2, vs2, d2, ds2, p2, q2, rfl, rfl, rfl, h2, r2⟩ := trodAll_cons r1
  obtain ⟨rfl, rfl, rfl⟩ := trodAll_nil r2
  obtain rfl : args = #[v0, v1, v2] := by cases args; simp_all
  obtain ⟨rfl, rfl⟩ := trodVars_none hV
  obtain ⟨a0, rfl, rfl, rfl, w0⟩ := open_int Try.underlying29 (hval 0 29 v0 rfl rfl) h0
  obtain ⟨a1, rfl, rfl, rfl, w1⟩ := open_int Try.underlying5 (hval 1 5 v1 rfl rfl) h1
  obtain ⟨a2, rfl, rfl, rfl, w2⟩ := open_int Try.underlying5 (hval 2 5 v2 rfl rfl) h2
  clear hA0 hval0
  refine (walk a0 a1 a2 W (wfU16 w0) (wfU8 w1) (wfU8 w2)).mono fun e W' ⟨he, bel⟩ => ?_
  subst he
  exact ⟨_, rfl, _, _, _, [], _, [], hW', trodAll_mk1 (shut_bool Try.underlying4 _), (trodAll_cons_mk (shut_int Try.underlying29 w0) (trodAll_cons_mk (shut_int Try.underlying5 w1) (trodAll_cons_mk (shut_int Try.underlying5 w2) trodAll_mk0))), rfl, bel.frame _, fun h => by cases h⟩

theorem over : Rows.renoRoundsRow.holds Try.pinned (OpenSpec.ofChange Rows.renoRoundsSpec) :=
  OpenClaim.holds_of_wide 7 Try.f7 rfl rfl rfl rfl rfl rfl rfl ⟨rfl, rfl, rfl, rfl, rfl⟩ rfl rfl rfl rfl rfl (by kernel_rfl) Try.func7 (by kernel_rfl)
    (of_decide_eq_true (by kernel_rfl)) (by unfold Func.isWrapper; first | (rw [if_pos (by decide +kernel)]; kernel_rfl) | (rw [if_neg (by decide +kernel)]; exact ⟨rfl, rfl⟩))
    (fun os started H enc _ => lifted os started H enc)

/-- THE STATEMENT -/
theorem proved : Rows.RenoRoundsSaid := over
end Go.Proofs.Ytbgbeadhpcikhaa.renoRounds
