/- package judge, and the reference's: Period, Time, Most. -/
import Derived.Test.YtikkmdbaekdolaaSat
import Derived.Test.YtikkmdbaekdolaaReno
import Derived.Test.YtikkmdbaekdolaaQuiet
import Derived.Test.YtikkmdbaekdolaaRow
import Derived.Test.YtikkmdbaekdolaaConf
import Derived.Test.YtikkmdbaekdolaaRefCheck
import Derived.Deep.RegionHeld3
import Derived.StillTailTactics
import Derived.IntWalk
namespace Go.Proofs.Ytikkmdbaekdolaa
open Go.RowKit Go.Lib
set_option linter.unusedVariables false
set_option maxRecDepth 100000

/-- how long a step forward takes at most -/
def perI (cap ms slow d : Int) : Int := mulI (addI (addI cap d) (addI 1 (upI ms 1000000 slow))) 4
def perM (m : Bool) (cap ms slow d : Int) : Int := if m = true then perI cap ms slow d else 0
def timM (m : Bool) (cap ms slow d ring n f : Int) : Int := if m = true then mulI (mulI (perI cap ms slow d) (ring + 2)) (addI (addI (max n 0) (max f 0)) 2) else 0
def timR (m : Bool) (cap ms slow d ring n f : Int) : Int := mulI (perM m cap ms slow d) (mulI (max ring 0 + 2) (addI (max n 0) (addI (max f 0) 2)))
def mostM (m : Bool) (init most d : Int) : Int := if m = true then min (addI init d) most else 0

theorem perI_W {cap ms slow d : Int} (h1 : W64 cap) (h2 : W64 d) : W64 (perI cap ms slow d) :=
  mulI_W _ _ (addI_W _ _ (addI_W _ _ h1 h2) (addI_W _ _ (Wlit (by omega)) (upI_W _ _ _))) (Wlit (by omega))
theorem perM_W {m : Bool} {cap ms slow d : Int} (h1 : W64 cap) (h2 : W64 d) : W64 (perM m cap ms slow d) := by
  unfold perM
  split
  · exact perI_W h1 h2
  · exact Wlit (by omega)
theorem sat_assoc (p r k : Int) (hp : 0 ≤ p) (hr : 1 ≤ r) (hk : 1 ≤ k) : mulI (mulI p r) k = mulI p (mulI r k) := by
  unfold mulI
  have h0 : 0 ≤ p * r := Int.mul_nonneg hp (by omega)
  have h1 : 0 ≤ r * k := Int.mul_nonneg (by omega) (by omega)
  have e : p * (r * k) = p * r * k := (Int.mul_assoc p r k).symm
  by_cases hp0 : p = 0
  · subst hp0
    rw [Int.zero_mul, Int.zero_mul, show min (0 : Int) 18446744073709551615 = 0 by omega, Int.zero_mul]
    omega
  · have hp1 : 1 ≤ p := by omega
    by_cases ha : p * r ≤ 18446744073709551615
    · rw [show min (p * r) 18446744073709551615 = p * r by omega]
      by_cases hb : r * k ≤ 18446744073709551615
      · rw [show min (r * k) 18446744073709551615 = r * k by omega, e]
      · rw [show min (r * k) 18446744073709551615 = 18446744073709551615 by omega]
        have h2 : 1 * (r * k) ≤ p * (r * k) := Int.mul_le_mul_of_nonneg_right hp1 h1
        rw [e] at h2
        omega
    · rw [show min (p * r) 18446744073709551615 = 18446744073709551615 by omega]
      have h2 : p * r * 1 ≤ p * r * k := Int.mul_le_mul_of_nonneg_left hk h0
      by_cases hb : r * k ≤ 18446744073709551615
      · rw [show min (r * k) 18446744073709551615 = r * k by omega, e]
        omega
      · rw [show min (r * k) 18446744073709551615 = 18446744073709551615 by omega]
        omega
theorem add_assoc2 (a b : Int) (ha : 0 ≤ a) (hb : 0 ≤ b) : addI (addI a b) 2 = addI a (addI b 2) := by unfold addI; omega
theorem tim_same (m : Bool) (cap ms slow d ring n f : Int) (h1 : W64 cap) (h2 : W64 d) (hr : m = true → 0 ≤ ring) : timR m cap ms slow d ring n f = timM m cap ms slow d ring n f := by
  unfold timR timM perM
  cases m
  · rw [if_neg (by decide), if_neg (by decide)]
    unfold mulI
    rw [Int.zero_mul]
    omega
  · have := hr rfl
    rw [if_pos rfl, if_pos rfl, show max ring 0 = ring by omega, add_assoc2 _ _ (by omega) (by omega), sat_assoc _ _ _ (perI_W h1 h2).1 (by omega) (by unfold addI; omega)]
theorem may_ring (x0 x1 x2 x3 x4 x5 x6 x7 x8 x9 x10 x11 x12 x13 x14 x15 x16 : Int) (h : (confI x0 x1 x2 x3 x4 x5 x6 x7 x8 x9 x10 x11 x12 x13 x14 x15 x16 == 0) = true) : 4 ≤ x2 ∧ x2 ≤ 256 := by
  have h := eq_of_beq h
  unfold confI at h
  repeat' split at h
  all_goals omega

set_option maxHeartbeats 2000000 in
theorem jPerNo (x0 x1 x2 x3 x4 x5 x6 x7 x8 x9 x10 x11 x12 x13 x14 x15 x16 d : Int) (h5 : W64 x5) (hm : (confI x0 x1 x2 x3 x4 x5 x6 x7 x8 x9 x10 x11 x12 x13 x14 x15 x16 == 0) = false) (w : World) :
    Calls Try.prog 53 #[.agg #[.int .i64 x0, .int .u64 x1, .int .i64 x2, .int .u64 x3, .int .i64 x4, .int .u64 x5, .int .u64 x6, .int .u64 x7, .int .u64 x8, .int .i64 x9, .int .u64 x10, .int .u64 x11, .int .u64 x12, .int .u64 x13, .int .u64 x14, .int .i64 x15, .int .u64 x16], .int .u64 d] w fun e' w' => e' = .returned (.int .u64 0) ∧ Gr w w' := by
  have H5 := Lib.hid h5
  clear h5
  have HM := Lib.hid hm
  clear hm
  go_enter Try.func53, Try.ntmps53
  go_wp2_with (refine wpList_load_all (by rfl) 24 _ rfl _ rfl _ _ _ _ (by repeat (first | (with_reducible refine heap_newS _ _ _ ?_; simp; done) | with_reducible apply heap_gwS | with_reducible apply heap_drewNS | with_reducible apply heap_drewS | with_reducible apply heap_allocS)) Try.underlying24 rfl (by kernel_rfl) ?_)
  refine (cMay x0 x1 x2 x3 x4 x5 x6 x7 x8 x9 x10 x11 x12 x13 x14 x15 x16 _).mono ?_; rintro e' w1 ⟨rfl, n1, os1, rfl⟩
  rw [HM.out]
  go_wp2_with fail
  go_ret
  exact ⟨rfl, by repeat (first | exact Gr.refl _ | apply Gr.drewN | apply Gr.drew | apply Gr.gw | apply Gr.alloc)⟩

set_option maxHeartbeats 2000000 in
theorem jPerYes (x0 x1 x2 x3 x4 x5 x6 x7 x8 x9 x10 x11 x12 x13 x14 x15 x16 d : Int) (h5 : W64 x5) (h12 : W64 x12) (h14 : W64 x14) (hd : W64 d) (hm : (confI x0 x1 x2 x3 x4 x5 x6 x7 x8 x9 x10 x11 x12 x13 x14 x15 x16 == 0) = true) (w : World) :
    Calls Try.prog 53 #[.agg #[.int .i64 x0, .int .u64 x1, .int .i64 x2, .int .u64 x3, .int .i64 x4, .int .u64 x5, .int .u64 x6, .int .u64 x7, .int .u64 x8, .int .i64 x9, .int .u64 x10, .int .u64 x11, .int .u64 x12, .int .u64 x13, .int .u64 x14, .int .i64 x15, .int .u64 x16], .int .u64 d] w fun e' w' => e' = .returned (.int .u64 (perI x12 x5 x14 d)) ∧ Gr w w' := by
  have HM := Lib.hid hm
  clear hm
  have HU := Lib.hid (upI_W x5 1000000 x14)
  have HA := Lib.hid (addI_W x12 d h12 hd)
  have HB := Lib.hid (addI_W 1 (upI x5 1000000 x14) (Wlit (by omega)) (upI_W x5 1000000 x14))
  have HC := Lib.hid (addI_W (addI x12 d) (addI 1 (upI x5 1000000 x14)) HA.out HB.out)
  have H5 := Lib.hid h5
  have H12 := Lib.hid h12
  have H14 := Lib.hid h14
  have HD := Lib.hid hd
  clear h5 h12 h14 hd
  go_enter Try.func53, Try.ntmps53
  go_wp2_with (refine wpList_load_all (by rfl) 24 _ rfl _ rfl _ _ _ _ (by repeat (first | (with_reducible refine heap_newS _ _ _ ?_; simp; done) | with_reducible apply heap_gwS | with_reducible apply heap_drewNS | with_reducible apply heap_drewS | with_reducible apply heap_allocS)) Try.underlying24 rfl (by kernel_rfl) ?_)
  refine (cMay x0 x1 x2 x3 x4 x5 x6 x7 x8 x9 x10 x11 x12 x13 x14 x15 x16 _).mono ?_; rintro e' w1 ⟨rfl, n1, os1, rfl⟩
  rw [HM.out]
  go_wp2_with fail
  go_quiet ((first | (go_at_call 93; first | (with_reducible exact qD' (wUp x5 1000000 x14 H5.out (Wlit (by omega)) H14.out _)) | (with_reducible exact qD (wUp x5 1000000 x14 H5.out (Wlit (by omega)) H14.out _))) | (go_at_call 88; first | (with_reducible exact qS' (sAdd x12 d H12.out HD.out _)) | (with_reducible exact qS (sAdd x12 d H12.out HD.out _))) | (go_at_call 88; first | (with_reducible exact qS' (sAdd 1 (upI x5 1000000 x14) (Wlit (by omega)) HU.out _)) | (with_reducible exact qS (sAdd 1 (upI x5 1000000 x14) (Wlit (by omega)) HU.out _))) | (go_at_call 88; first | (with_reducible exact qS' (sAdd (addI x12 d) (addI 1 (upI x5 1000000 x14)) HA.out HB.out _)) | (with_reducible exact qS (sAdd (addI x12 d) (addI 1 (upI x5 1000000 x14)) HA.out HB.out _)))))
  go_wp2_with fail
  refine (sMul (addI (addI x12 d) (addI 1 (upI x5 1000000 x14))) 4 HC.out (Wlit (by omega)) _).mono ?_; rintro e' w' ⟨rfl, rfl⟩
  go_wp2_with fail
  go_ret
  exact ⟨rfl, by repeat (first | exact Gr.refl _ | apply Gr.drewN | apply Gr.drew | apply Gr.gw | apply Gr.alloc)⟩

theorem jPer (x0 x1 x2 x3 x4 x5 x6 x7 x8 x9 x10 x11 x12 x13 x14 x15 x16 d : Int) (m : Bool) (R : Int) (hm : (confI x0 x1 x2 x3 x4 x5 x6 x7 x8 x9 x10 x11 x12 x13 x14 x15 x16 == 0) = m) (hR : perM m x12 x5 x14 d = R) (h5 : W64 x5) (h12 : W64 x12) (h14 : W64 x14) (hd : W64 d) (w : World) :
    Calls Try.prog 53 #[.agg #[.int .i64 x0, .int .u64 x1, .int .i64 x2, .int .u64 x3, .int .i64 x4, .int .u64 x5, .int .u64 x6, .int .u64 x7, .int .u64 x8, .int .i64 x9, .int .u64 x10, .int .u64 x11, .int .u64 x12, .int .u64 x13, .int .u64 x14, .int .i64 x15, .int .u64 x16], .int .u64 d] w fun e' w' => e' = .returned (.int .u64 R) ∧ Gr w w' := by
  subst hR
  cases m
  · exact jPerNo x0 x1 x2 x3 x4 x5 x6 x7 x8 x9 x10 x11 x12 x13 x14 x15 x16 d h5 hm w
  · exact jPerYes x0 x1 x2 x3 x4 x5 x6 x7 x8 x9 x10 x11 x12 x13 x14 x15 x16 d h5 h12 h14 hd hm w

set_option maxHeartbeats 2000000 in
theorem qPerNo (x0 x1 x2 x3 x4 x5 x6 x7 x8 x9 x10 x11 x12 x13 x14 x15 x16 d : Int) (h5 : W64 x5) (hm : (confI x0 x1 x2 x3 x4 x5 x6 x7 x8 x9 x10 x11 x12 x13 x14 x15 x16 == 0) = false) (w : World) :
    Calls Try.prog 54 #[.agg #[.int .i64 x0, .int .u64 x1, .int .i64 x2, .int .u64 x3, .int .i64 x4, .int .u64 x5, .int .u64 x6, .int .u64 x7, .int .u64 x8, .int .i64 x9, .int .u64 x10, .int .u64 x11, .int .u64 x12, .int .u64 x13, .int .u64 x14, .int .i64 x15, .int .u64 x16], .int .u64 d] w fun e' w' => e' = .returned (.int .u64 0) ∧ Gr w w' := by
  have H5 := Lib.hid h5
  clear h5
  obtain ⟨N, hN⟩ : ∃ N, confI x0 x1 x2 x3 x4 x5 x6 x7 x8 x9 x10 x11 x12 x13 x14 x15 x16 = N := ⟨_, rfl⟩
  have hN0 : (N == 0) = false := by rw [← hN]; exact hm
  have hN1 : (N != 0) = true := by rw [bne, hN0]; rfl
  have HM := Lib.hid hN
  clear hm hN
  go_enter Try.func54, Try.ntmps54
  go_wp2_with (refine wpList_load_all (by rfl) 24 _ rfl _ rfl _ _ _ _ (by repeat (first | (with_reducible refine heap_newS _ _ _ ?_; simp; done) | with_reducible apply heap_gwS | with_reducible apply heap_drewNS | with_reducible apply heap_drewS | with_reducible apply heap_allocS)) Try.underlying24 rfl (by kernel_rfl) ?_)
  refine (rCheck x0 x1 x2 x3 x4 x5 x6 x7 x8 x9 x10 x11 x12 x13 x14 x15 x16 H5.out _).mono ?_; rintro e' w1 ⟨rfl, n1, os1, rfl⟩
  rw [HM.out]
  go_wp2_with fail
  go_ret
  exact ⟨rfl, by repeat (first | exact Gr.refl _ | apply Gr.drewN | apply Gr.drew | apply Gr.gw | apply Gr.alloc)⟩

set_option maxHeartbeats 2000000 in
theorem qPerYes (x0 x1 x2 x3 x4 x5 x6 x7 x8 x9 x10 x11 x12 x13 x14 x15 x16 d : Int) (h5 : W64 x5) (h12 : W64 x12) (h14 : W64 x14) (hd : W64 d) (hm : (confI x0 x1 x2 x3 x4 x5 x6 x7 x8 x9 x10 x11 x12 x13 x14 x15 x16 == 0) = true) (w : World) :
    Calls Try.prog 54 #[.agg #[.int .i64 x0, .int .u64 x1, .int .i64 x2, .int .u64 x3, .int .i64 x4, .int .u64 x5, .int .u64 x6, .int .u64 x7, .int .u64 x8, .int .i64 x9, .int .u64 x10, .int .u64 x11, .int .u64 x12, .int .u64 x13, .int .u64 x14, .int .i64 x15, .int .u64 x16], .int .u64 d] w fun e' w' => e' = .returned (.int .u64 (perI x12 x5 x14 d)) ∧ Gr w w' := by
  have HM := Lib.hid (eq_of_beq hm)
  clear hm
  have HU := Lib.hid (upI_W x5 1000000 x14)
  have HA := Lib.hid (addI_W x12 d h12 hd)
  have HB := Lib.hid (addI_W 1 (upI x5 1000000 x14) (Wlit (by omega)) (upI_W x5 1000000 x14))
  have HC := Lib.hid (addI_W (addI x12 d) (addI 1 (upI x5 1000000 x14)) HA.out HB.out)
  have H5 := Lib.hid h5
  have H12 := Lib.hid h12
  have H14 := Lib.hid h14
  have HD := Lib.hid hd
  clear h5 h12 h14 hd
  go_enter Try.func54, Try.ntmps54
  go_wp2_with (refine wpList_load_all (by rfl) 24 _ rfl _ rfl _ _ _ _ (by repeat (first | (with_reducible refine heap_newS _ _ _ ?_; simp; done) | with_reducible apply heap_gwS | with_reducible apply heap_drewNS | with_reducible apply heap_drewS | with_reducible apply heap_allocS)) Try.underlying24 rfl (by kernel_rfl) ?_)
  refine (rCheck x0 x1 x2 x3 x4 x5 x6 x7 x8 x9 x10 x11 x12 x13 x14 x15 x16 H5.out _).mono ?_; rintro e' w1 ⟨rfl, n1, os1, rfl⟩
  rw [HM.out]
  go_wp2_with fail
  go_region_held3 (fun W => W.cell? ⟨w.heap.size, 12, none⟩ = some (.int .u64 x12) ∧ W.cell? ⟨w.heap.size, 5, none⟩ = some (.int .u64 x5) ∧ W.cell? ⟨w.heap.size, 14, none⟩ = some (.int .u64 x14)) (first | go_simp | go_keep) (first | ((with_reducible refine (rUpG x5 1000000 x14 H5.out (Wlit (by omega)) H14.out _).mono ?_); rintro e' w' ⟨rfl, nA, osA, rfl⟩) | ((with_reducible refine (rAdd x12 d H12.out HD.out _).mono ?_); rintro e' w' ⟨rfl, rfl⟩) | ((with_reducible refine (rAdd 1 (upI x5 1000000 x14) (Wlit (by omega)) HU.out _).mono ?_); rintro e' w' ⟨rfl, rfl⟩) | ((with_reducible refine (rAdd (addI x12 d) (addI 1 (upI x5 1000000 x14)) HA.out HB.out _).mono ?_); rintro e' w' ⟨rfl, rfl⟩))
  go_wp2_with fail
  refine (rMul (addI (addI x12 d) (addI 1 (upI x5 1000000 x14))) 4 HC.out (Wlit (by omega)) _).mono ?_; rintro e' w' ⟨rfl, rfl⟩
  go_wp2_with fail
  go_ret
  exact ⟨rfl, by repeat (first | exact Gr.refl _ | apply Gr.drewN | apply Gr.drew | apply Gr.gw | apply Gr.alloc)⟩

theorem qPer (x0 x1 x2 x3 x4 x5 x6 x7 x8 x9 x10 x11 x12 x13 x14 x15 x16 d : Int) (m : Bool) (R : Int) (hm : (confI x0 x1 x2 x3 x4 x5 x6 x7 x8 x9 x10 x11 x12 x13 x14 x15 x16 == 0) = m) (hR : perM m x12 x5 x14 d = R) (h5 : W64 x5) (h12 : W64 x12) (h14 : W64 x14) (hd : W64 d) (w : World) :
    Calls Try.prog 54 #[.agg #[.int .i64 x0, .int .u64 x1, .int .i64 x2, .int .u64 x3, .int .i64 x4, .int .u64 x5, .int .u64 x6, .int .u64 x7, .int .u64 x8, .int .i64 x9, .int .u64 x10, .int .u64 x11, .int .u64 x12, .int .u64 x13, .int .u64 x14, .int .i64 x15, .int .u64 x16], .int .u64 d] w fun e' w' => e' = .returned (.int .u64 R) ∧ Gr w w' := by
  subst hR
  cases m
  · exact qPerNo x0 x1 x2 x3 x4 x5 x6 x7 x8 x9 x10 x11 x12 x13 x14 x15 x16 d h5 hm w
  · exact qPerYes x0 x1 x2 x3 x4 x5 x6 x7 x8 x9 x10 x11 x12 x13 x14 x15 x16 d h5 h12 h14 hd hm w

set_option maxHeartbeats 2000000 in
theorem jMostNo (x0 x1 x2 x3 x4 x5 x6 x7 x8 x9 x10 x11 x12 x13 x14 x15 x16 d : Int) (h5 : W64 x5) (hm : (confI x0 x1 x2 x3 x4 x5 x6 x7 x8 x9 x10 x11 x12 x13 x14 x15 x16 == 0) = false) (w : World) :
    Calls Try.prog 49 #[.agg #[.int .i64 x0, .int .u64 x1, .int .i64 x2, .int .u64 x3, .int .i64 x4, .int .u64 x5, .int .u64 x6, .int .u64 x7, .int .u64 x8, .int .i64 x9, .int .u64 x10, .int .u64 x11, .int .u64 x12, .int .u64 x13, .int .u64 x14, .int .i64 x15, .int .u64 x16], .int .u64 d] w fun e' w' => e' = .returned (.int .u64 0) ∧ Gr w w' := by
  have H5 := Lib.hid h5
  clear h5
  have HM := Lib.hid hm
  clear hm
  go_enter Try.func49, Try.ntmps49
  go_wp2_with (refine wpList_load_all (by rfl) 24 _ rfl _ rfl _ _ _ _ (by repeat (first | (with_reducible refine heap_newS _ _ _ ?_; simp; done) | with_reducible apply heap_gwS | with_reducible apply heap_drewNS | with_reducible apply heap_drewS | with_reducible apply heap_allocS)) Try.underlying24 rfl (by kernel_rfl) ?_)
  refine (cMay x0 x1 x2 x3 x4 x5 x6 x7 x8 x9 x10 x11 x12 x13 x14 x15 x16 _).mono ?_; rintro e' w1 ⟨rfl, n1, os1, rfl⟩
  rw [HM.out]
  go_wp2_with fail
  go_ret
  exact ⟨rfl, by repeat (first | exact Gr.refl _ | apply Gr.drewN | apply Gr.drew | apply Gr.gw | apply Gr.alloc)⟩

set_option maxHeartbeats 2000000 in
theorem jMostYes (x0 x1 x2 x3 x4 x5 x6 x7 x8 x9 x10 x11 x12 x13 x14 x15 x16 d : Int) (h5 : W64 x5) (h6 : W64 x6) (hd : W64 d) (hm : (confI x0 x1 x2 x3 x4 x5 x6 x7 x8 x9 x10 x11 x12 x13 x14 x15 x16 == 0) = true) (w : World) :
    Calls Try.prog 49 #[.agg #[.int .i64 x0, .int .u64 x1, .int .i64 x2, .int .u64 x3, .int .i64 x4, .int .u64 x5, .int .u64 x6, .int .u64 x7, .int .u64 x8, .int .i64 x9, .int .u64 x10, .int .u64 x11, .int .u64 x12, .int .u64 x13, .int .u64 x14, .int .i64 x15, .int .u64 x16], .int .u64 d] w fun e' w' => e' = .returned (.int .u64 (min (addI x6 d) x8)) ∧ Gr w w' := by
  have HM := Lib.hid hm
  clear hm
  have H5 := Lib.hid h5
  have H6 := Lib.hid h6
  have HD := Lib.hid hd
  clear h5 h6 hd
  go_enter Try.func49, Try.ntmps49
  go_wp2_with (refine wpList_load_all (by rfl) 24 _ rfl _ rfl _ _ _ _ (by repeat (first | (with_reducible refine heap_newS _ _ _ ?_; simp; done) | with_reducible apply heap_gwS | with_reducible apply heap_drewNS | with_reducible apply heap_drewS | with_reducible apply heap_allocS)) Try.underlying24 rfl (by kernel_rfl) ?_)
  refine (cMay x0 x1 x2 x3 x4 x5 x6 x7 x8 x9 x10 x11 x12 x13 x14 x15 x16 _).mono ?_; rintro e' w1 ⟨rfl, n1, os1, rfl⟩
  rw [HM.out]
  go_wp2_with fail
  go_region_held3 (fun W => W.cell? ⟨w.heap.size, 6, none⟩ = some (.int .u64 x6) ∧ W.cell? ⟨w.heap.size, 8, none⟩ = some (.int .u64 x8)) (first | go_simp | go_keep) (((with_reducible refine (sAdd x6 d H6.out HD.out _).mono ?_); rintro e' w' ⟨rfl, rfl⟩))
  go_wp2_with fail
  go_ret
  exact ⟨ret_int (by omega), by repeat (first | exact Gr.refl _ | apply Gr.drewN | apply Gr.drew | apply Gr.gw | apply Gr.alloc)⟩

theorem jMost (x0 x1 x2 x3 x4 x5 x6 x7 x8 x9 x10 x11 x12 x13 x14 x15 x16 d : Int) (m : Bool) (R : Int) (hm : (confI x0 x1 x2 x3 x4 x5 x6 x7 x8 x9 x10 x11 x12 x13 x14 x15 x16 == 0) = m) (hR : mostM m x6 x8 d = R) (h5 : W64 x5) (h6 : W64 x6) (hd : W64 d) (w : World) :
    Calls Try.prog 49 #[.agg #[.int .i64 x0, .int .u64 x1, .int .i64 x2, .int .u64 x3, .int .i64 x4, .int .u64 x5, .int .u64 x6, .int .u64 x7, .int .u64 x8, .int .i64 x9, .int .u64 x10, .int .u64 x11, .int .u64 x12, .int .u64 x13, .int .u64 x14, .int .i64 x15, .int .u64 x16], .int .u64 d] w fun e' w' => e' = .returned (.int .u64 R) ∧ Gr w w' := by
  subst hR
  cases m
  · exact jMostNo x0 x1 x2 x3 x4 x5 x6 x7 x8 x9 x10 x11 x12 x13 x14 x15 x16 d h5 hm w
  · exact jMostYes x0 x1 x2 x3 x4 x5 x6 x7 x8 x9 x10 x11 x12 x13 x14 x15 x16 d h5 h6 hd hm w

set_option maxHeartbeats 2000000 in
theorem qMostNo (x0 x1 x2 x3 x4 x5 x6 x7 x8 x9 x10 x11 x12 x13 x14 x15 x16 d : Int) (h5 : W64 x5) (hm : (confI x0 x1 x2 x3 x4 x5 x6 x7 x8 x9 x10 x11 x12 x13 x14 x15 x16 == 0) = false) (w : World) :
    Calls Try.prog 50 #[.agg #[.int .i64 x0, .int .u64 x1, .int .i64 x2, .int .u64 x3, .int .i64 x4, .int .u64 x5, .int .u64 x6, .int .u64 x7, .int .u64 x8, .int .i64 x9, .int .u64 x10, .int .u64 x11, .int .u64 x12, .int .u64 x13, .int .u64 x14, .int .i64 x15, .int .u64 x16], .int .u64 d] w fun e' w' => e' = .returned (.int .u64 0) ∧ Gr w w' := by
  have H5 := Lib.hid h5
  clear h5
  obtain ⟨N, hN⟩ : ∃ N, confI x0 x1 x2 x3 x4 x5 x6 x7 x8 x9 x10 x11 x12 x13 x14 x15 x16 = N := ⟨_, rfl⟩
  have hN0 : (N == 0) = false := by rw [← hN]; exact hm
  have hN1 : (N != 0) = true := by rw [bne, hN0]; rfl
  have HM := Lib.hid hN
  clear hm hN
  go_enter Try.func50, Try.ntmps50
  go_wp2_with (refine wpList_load_all (by rfl) 24 _ rfl _ rfl _ _ _ _ (by repeat (first | (with_reducible refine heap_newS _ _ _ ?_; simp; done) | with_reducible apply heap_gwS | with_reducible apply heap_drewNS | with_reducible apply heap_drewS | with_reducible apply heap_allocS)) Try.underlying24 rfl (by kernel_rfl) ?_)
  refine (rCheck x0 x1 x2 x3 x4 x5 x6 x7 x8 x9 x10 x11 x12 x13 x14 x15 x16 H5.out _).mono ?_; rintro e' w1 ⟨rfl, n1, os1, rfl⟩
  rw [HM.out]
  go_wp2_with fail
  go_ret
  exact ⟨rfl, by repeat (first | exact Gr.refl _ | apply Gr.drewN | apply Gr.drew | apply Gr.gw | apply Gr.alloc)⟩

set_option maxHeartbeats 2000000 in
theorem qMostYes (x0 x1 x2 x3 x4 x5 x6 x7 x8 x9 x10 x11 x12 x13 x14 x15 x16 d : Int) (h5 : W64 x5) (h6 : W64 x6) (hd : W64 d) (hm : (confI x0 x1 x2 x3 x4 x5 x6 x7 x8 x9 x10 x11 x12 x13 x14 x15 x16 == 0) = true) (w : World) :
    Calls Try.prog 50 #[.agg #[.int .i64 x0, .int .u64 x1, .int .i64 x2, .int .u64 x3, .int .i64 x4, .int .u64 x5, .int .u64 x6, .int .u64 x7, .int .u64 x8, .int .i64 x9, .int .u64 x10, .int .u64 x11, .int .u64 x12, .int .u64 x13, .int .u64 x14, .int .i64 x15, .int .u64 x16], .int .u64 d] w fun e' w' => e' = .returned (.int .u64 (min (addI x6 d) x8)) ∧ Gr w w' := by
  have HM := Lib.hid (eq_of_beq hm)
  clear hm
  have H5 := Lib.hid h5
  have H6 := Lib.hid h6
  have HD := Lib.hid hd
  clear h5 h6 hd
  go_enter Try.func50, Try.ntmps50
  go_wp2_with (refine wpList_load_all (by rfl) 24 _ rfl _ rfl _ _ _ _ (by repeat (first | (with_reducible refine heap_newS _ _ _ ?_; simp; done) | with_reducible apply heap_gwS | with_reducible apply heap_drewNS | with_reducible apply heap_drewS | with_reducible apply heap_allocS)) Try.underlying24 rfl (by kernel_rfl) ?_)
  refine (rCheck x0 x1 x2 x3 x4 x5 x6 x7 x8 x9 x10 x11 x12 x13 x14 x15 x16 H5.out _).mono ?_; rintro e' w1 ⟨rfl, n1, os1, rfl⟩
  rw [HM.out]
  go_wp2_with fail
  go_region_held3 (fun W => W.cell? ⟨w.heap.size, 6, none⟩ = some (.int .u64 x6) ∧ W.cell? ⟨w.heap.size, 8, none⟩ = some (.int .u64 x8)) (first | go_simp | go_keep) (((with_reducible refine (rAdd x6 d H6.out HD.out _).mono ?_); rintro e' w' ⟨rfl, rfl⟩))
  go_wp2_with fail
  go_ret
  exact ⟨ret_int (by omega), by repeat (first | exact Gr.refl _ | apply Gr.drewN | apply Gr.drew | apply Gr.gw | apply Gr.alloc)⟩

theorem qMost (x0 x1 x2 x3 x4 x5 x6 x7 x8 x9 x10 x11 x12 x13 x14 x15 x16 d : Int) (m : Bool) (R : Int) (hm : (confI x0 x1 x2 x3 x4 x5 x6 x7 x8 x9 x10 x11 x12 x13 x14 x15 x16 == 0) = m) (hR : mostM m x6 x8 d = R) (h5 : W64 x5) (h6 : W64 x6) (hd : W64 d) (w : World) :
    Calls Try.prog 50 #[.agg #[.int .i64 x0, .int .u64 x1, .int .i64 x2, .int .u64 x3, .int .i64 x4, .int .u64 x5, .int .u64 x6, .int .u64 x7, .int .u64 x8, .int .i64 x9, .int .u64 x10, .int .u64 x11, .int .u64 x12, .int .u64 x13, .int .u64 x14, .int .i64 x15, .int .u64 x16], .int .u64 d] w fun e' w' => e' = .returned (.int .u64 R) ∧ Gr w w' := by
  subst hR
  cases m
  · exact qMostNo x0 x1 x2 x3 x4 x5 x6 x7 x8 x9 x10 x11 x12 x13 x14 x15 x16 d h5 hm w
  · exact qMostYes x0 x1 x2 x3 x4 x5 x6 x7 x8 x9 x10 x11 x12 x13 x14 x15 x16 d h5 h6 hd hm w

set_option maxHeartbeats 2000000 in
theorem jTimNo (x0 x1 x2 x3 x4 x5 x6 x7 x8 x9 x10 x11 x12 x13 x14 x15 x16 n f d : Int) (hm : (confI x0 x1 x2 x3 x4 x5 x6 x7 x8 x9 x10 x11 x12 x13 x14 x15 x16 == 0) = false) (w : World) :
    Calls Try.prog 55 #[.agg #[.int .i64 x0, .int .u64 x1, .int .i64 x2, .int .u64 x3, .int .i64 x4, .int .u64 x5, .int .u64 x6, .int .u64 x7, .int .u64 x8, .int .i64 x9, .int .u64 x10, .int .u64 x11, .int .u64 x12, .int .u64 x13, .int .u64 x14, .int .i64 x15, .int .u64 x16], .int .i64 n, .int .i64 f, .int .u64 d] w fun e' w' => e' = .returned (.int .u64 0) ∧ Gr w w' := by
  have HM := Lib.hid hm
  clear hm
  go_enter Try.func55, Try.ntmps55
  go_wp2_with (refine wpList_load_all (by rfl) 24 _ rfl _ rfl _ _ _ _ (by repeat (first | (with_reducible refine heap_newS _ _ _ ?_; simp; done) | with_reducible apply heap_gwS | with_reducible apply heap_drewNS | with_reducible apply heap_drewS | with_reducible apply heap_allocS)) Try.underlying24 rfl (by kernel_rfl) ?_)
  refine (cMay x0 x1 x2 x3 x4 x5 x6 x7 x8 x9 x10 x11 x12 x13 x14 x15 x16 _).mono ?_; rintro e' w1 ⟨rfl, n1, os1, rfl⟩
  rw [HM.out]
  go_wp2_with fail
  go_ret
  exact ⟨rfl, by repeat (first | exact Gr.refl _ | apply Gr.drewN | apply Gr.drew | apply Gr.gw | apply Gr.alloc)⟩

set_option maxHeartbeats 4000000 in
theorem jTimYes (x0 x1 x2 x3 x4 x5 x6 x7 x8 x9 x10 x11 x12 x13 x14 x15 x16 n f d : Int) (h5 : W64 x5) (h12 : W64 x12) (h14 : W64 x14) (hd : W64 d) (hn : -9223372036854775808 ≤ n ∧ n ≤ 9223372036854775807) (hf : -9223372036854775808 ≤ f ∧ f ≤ 9223372036854775807) (hm : (confI x0 x1 x2 x3 x4 x5 x6 x7 x8 x9 x10 x11 x12 x13 x14 x15 x16 == 0) = true) (w : World) :
    Calls Try.prog 55 #[.agg #[.int .i64 x0, .int .u64 x1, .int .i64 x2, .int .u64 x3, .int .i64 x4, .int .u64 x5, .int .u64 x6, .int .u64 x7, .int .u64 x8, .int .i64 x9, .int .u64 x10, .int .u64 x11, .int .u64 x12, .int .u64 x13, .int .u64 x14, .int .i64 x15, .int .u64 x16], .int .i64 n, .int .i64 f, .int .u64 d] w fun e' w' => e' = .returned (.int .u64 (mulI (mulI (perI x12 x5 x14 d) (x2 + 2)) (addI (addI (max n 0) (max f 0)) 2))) ∧ Gr w w' := by
  obtain ⟨r0, r1⟩ := may_ring x0 x1 x2 x3 x4 x5 x6 x7 x8 x9 x10 x11 x12 x13 x14 x15 x16 hm
  have n0 : 0 ≤ max n 0 := by omega
  have n1 : max n 0 ≤ 9223372036854775807 := by omega
  have f0 : 0 ≤ max f 0 := by omega
  have f1 : max f 0 ≤ 9223372036854775807 := by omega
  have wn : IntKind.u64.wrap (max n 0) = max n 0 := IntWalk.u64_in _ (by omega)
  have wf : IntKind.u64.wrap (max f 0) = max f 0 := IntWalk.u64_in _ (by omega)
  have HNN := Lib.hid (show W64 (max n 0) from ⟨by omega, by omega⟩)
  have HFF := Lib.hid (show W64 (max f 0) from ⟨by omega, by omega⟩)
  have w2 : IntKind.u64.wrap x2 = x2 := IntWalk.u64_in _ (by omega)
  have w3 : IntKind.u64.wrap (x2 + 2) = x2 + 2 := IntWalk.u64_in _ (by omega)
  have HR2 := Lib.hid (show W64 (x2 + 2) from ⟨by omega, by omega⟩)
  have HP := Lib.hid (perI_W (ms := x5) (slow := x14) h12 hd)
  have HS1 := Lib.hid (addI_W _ _ HNN.out HFF.out)
  have HS2 := Lib.hid (addI_W _ 2 HS1.out (Wlit (by omega)))
  have HQ := Lib.hid (mulI_W _ _ HP.out HR2.out)
  have HM2 := Lib.hid hm
  have HM := Lib.hid hm
  clear hm
  have H5 := Lib.hid h5
  have H12 := Lib.hid h12
  have H14 := Lib.hid h14
  have HD := Lib.hid hd
  clear h5 h12 h14 hd
  clear hn hf r0 r1
  go_enter Try.func55, Try.ntmps55
  go_wp2_with (refine wpList_load_all (by rfl) 24 _ rfl _ rfl _ _ _ _ (by repeat (first | (with_reducible refine heap_newS _ _ _ ?_; simp; done) | with_reducible apply heap_gwS | with_reducible apply heap_drewNS | with_reducible apply heap_drewS | with_reducible apply heap_allocS)) Try.underlying24 rfl (by kernel_rfl) ?_)
  refine (cMay x0 x1 x2 x3 x4 x5 x6 x7 x8 x9 x10 x11 x12 x13 x14 x15 x16 _).mono ?_; rintro e' w1 ⟨rfl, n1, os1, rfl⟩
  rw [HM.out]
  go_wp2_with fail
  refine (sAdd (max n 0) (max f 0) HNN.out HFF.out _).mono ?_; rintro e' w' ⟨rfl, rfl⟩
  go_wp2_with fail
  refine (sAdd (addI (max n 0) (max f 0)) 2 HS1.out (Wlit (by omega)) _).mono ?_; rintro e' w' ⟨rfl, rfl⟩
  go_wp2_with fail
  go_region_held3 (fun W => W.cell? ⟨w.heap.size, 0, none⟩ = some (.int .i64 x0) ∧ W.cell? ⟨w.heap.size, 1, none⟩ = some (.int .u64 x1) ∧ W.cell? ⟨w.heap.size, 2, none⟩ = some (.int .i64 x2) ∧ W.cell? ⟨w.heap.size, 3, none⟩ = some (.int .u64 x3) ∧ W.cell? ⟨w.heap.size, 4, none⟩ = some (.int .i64 x4) ∧ W.cell? ⟨w.heap.size, 5, none⟩ = some (.int .u64 x5) ∧ W.cell? ⟨w.heap.size, 6, none⟩ = some (.int .u64 x6) ∧ W.cell? ⟨w.heap.size, 7, none⟩ = some (.int .u64 x7) ∧ W.cell? ⟨w.heap.size, 8, none⟩ = some (.int .u64 x8) ∧ W.cell? ⟨w.heap.size, 9, none⟩ = some (.int .i64 x9) ∧ W.cell? ⟨w.heap.size, 10, none⟩ = some (.int .u64 x10) ∧ W.cell? ⟨w.heap.size, 11, none⟩ = some (.int .u64 x11) ∧ W.cell? ⟨w.heap.size, 12, none⟩ = some (.int .u64 x12) ∧ W.cell? ⟨w.heap.size, 13, none⟩ = some (.int .u64 x13) ∧ W.cell? ⟨w.heap.size, 14, none⟩ = some (.int .u64 x14) ∧ W.cell? ⟨w.heap.size, 15, none⟩ = some (.int .i64 x15) ∧ W.cell? ⟨w.heap.size, 16, none⟩ = some (.int .u64 x16)) (first | go_simp | go_keep) (first | ((with_reducible refine (jPerYes x0 x1 x2 x3 x4 x5 x6 x7 x8 x9 x10 x11 x12 x13 x14 x15 x16 d H5.out H12.out H14.out HD.out HM2.out _).mono ?_); rintro e' w' ⟨rfl, nA, osA, rfl⟩) | ((with_reducible refine (sMul (perI x12 x5 x14 d) (x2 + 2) HP.out HR2.out _).mono ?_); rintro e' w' ⟨rfl, rfl⟩) | ((with_reducible refine (sMul (mulI (perI x12 x5 x14 d) (x2 + 2)) (addI (addI (max n 0) (max f 0)) 2) HQ.out HS2.out _).mono ?_); rintro e' w' ⟨rfl, rfl⟩))
  go_wp2_with fail
  go_ret
  exact ⟨rfl, by repeat (first | exact Gr.refl _ | apply Gr.drewN | apply Gr.drew | apply Gr.gw | apply Gr.alloc)⟩

theorem jTim (x0 x1 x2 x3 x4 x5 x6 x7 x8 x9 x10 x11 x12 x13 x14 x15 x16 n f d : Int) (m : Bool) (R : Int) (hm : (confI x0 x1 x2 x3 x4 x5 x6 x7 x8 x9 x10 x11 x12 x13 x14 x15 x16 == 0) = m) (hR : timM m x12 x5 x14 d x2 n f = R) (h5 : W64 x5) (h12 : W64 x12) (h14 : W64 x14) (hd : W64 d) (hn : -9223372036854775808 ≤ n ∧ n ≤ 9223372036854775807) (hf : -9223372036854775808 ≤ f ∧ f ≤ 9223372036854775807) (w : World) :
    Calls Try.prog 55 #[.agg #[.int .i64 x0, .int .u64 x1, .int .i64 x2, .int .u64 x3, .int .i64 x4, .int .u64 x5, .int .u64 x6, .int .u64 x7, .int .u64 x8, .int .i64 x9, .int .u64 x10, .int .u64 x11, .int .u64 x12, .int .u64 x13, .int .u64 x14, .int .i64 x15, .int .u64 x16], .int .i64 n, .int .i64 f, .int .u64 d] w fun e' w' => e' = .returned (.int .u64 R) ∧ Gr w w' := by
  subst hR
  cases m
  · exact jTimNo x0 x1 x2 x3 x4 x5 x6 x7 x8 x9 x10 x11 x12 x13 x14 x15 x16 n f d hm w
  · exact jTimYes x0 x1 x2 x3 x4 x5 x6 x7 x8 x9 x10 x11 x12 x13 x14 x15 x16 n f d h5 h12 h14 hd hn hf hm w

set_option maxHeartbeats 4000000 in
theorem qTimP (x0 x1 x2 x3 x4 x5 x6 x7 x8 x9 x10 x11 x12 x13 x14 x15 x16 n f d p : Int) (m : Bool) (hm : (confI x0 x1 x2 x3 x4 x5 x6 x7 x8 x9 x10 x11 x12 x13 x14 x15 x16 == 0) = m) (hp : perM m x12 x5 x14 d = p) (hx2 : -9223372036854775808 ≤ x2 ∧ x2 ≤ 9223372036854775807) (h5 : W64 x5) (h12 : W64 x12) (h14 : W64 x14) (hd : W64 d) (hn : -9223372036854775808 ≤ n ∧ n ≤ 9223372036854775807) (hf : -9223372036854775808 ≤ f ∧ f ≤ 9223372036854775807) (w : World) :
    Calls Try.prog 56 #[.agg #[.int .i64 x0, .int .u64 x1, .int .i64 x2, .int .u64 x3, .int .i64 x4, .int .u64 x5, .int .u64 x6, .int .u64 x7, .int .u64 x8, .int .i64 x9, .int .u64 x10, .int .u64 x11, .int .u64 x12, .int .u64 x13, .int .u64 x14, .int .i64 x15, .int .u64 x16], .int .i64 n, .int .i64 f, .int .u64 d] w fun e' w' => e' = .returned (.int .u64 (mulI p (mulI (max x2 0 + 2) (addI (max n 0) (addI (max f 0) 2))))) ∧ Gr w w' := by
  have n0 : 0 ≤ max n 0 := by omega
  have n1 : max n 0 ≤ 9223372036854775807 := by omega
  have f0 : 0 ≤ max f 0 := by omega
  have f1 : max f 0 ≤ 9223372036854775807 := by omega
  have wn : IntKind.u64.wrap (max n 0) = max n 0 := IntWalk.u64_in _ (by omega)
  have wf : IntKind.u64.wrap (max f 0) = max f 0 := IntWalk.u64_in _ (by omega)
  have HNN := Lib.hid (show W64 (max n 0) from ⟨by omega, by omega⟩)
  have HFF := Lib.hid (show W64 (max f 0) from ⟨by omega, by omega⟩)
  have r0 : 0 ≤ max x2 0 := by omega
  have r1 : max x2 0 ≤ 9223372036854775807 := by omega
  have w2 : IntKind.u64.wrap (max x2 0) = max x2 0 := IntWalk.u64_in _ (by omega)
  have w3 : IntKind.u64.wrap (max x2 0 + 2) = max x2 0 + 2 := IntWalk.u64_in _ (by omega)
  have HR2 := Lib.hid (show W64 (max x2 0 + 2) from ⟨by omega, by omega⟩)
  have HP := Lib.hid (perM_W (m := m) (ms := x5) (slow := x14) h12 hd)
  rw [hp] at HP
  have HS1 := Lib.hid (addI_W _ 2 HFF.out (Wlit (by omega)))
  have HS2 := Lib.hid (addI_W _ _ HNN.out HS1.out)
  have HQ := Lib.hid (mulI_W _ _ HR2.out HS2.out)
  have HM := Lib.hid hm
  have HPP := Lib.hid hp
  clear hm hp hx2
  have H5 := Lib.hid h5
  have H12 := Lib.hid h12
  have H14 := Lib.hid h14
  have HD := Lib.hid hd
  clear h5 h12 h14 hd
  clear hn hf r0 r1
  go_enter Try.func56, Try.ntmps56
  go_wp2_with fail
  refine (rAdd (max f 0) 2 HFF.out (Wlit (by omega)) _).mono ?_; rintro e' w' ⟨rfl, rfl⟩
  go_wp2_with fail
  refine (rAdd (max n 0) (addI (max f 0) 2) HNN.out HS1.out _).mono ?_; rintro e' w' ⟨rfl, rfl⟩
  go_wp2_with fail
  go_region_held3 (fun W => W.cell? ⟨w.heap.size, 0, none⟩ = some (.int .i64 x0) ∧ W.cell? ⟨w.heap.size, 1, none⟩ = some (.int .u64 x1) ∧ W.cell? ⟨w.heap.size, 2, none⟩ = some (.int .i64 x2) ∧ W.cell? ⟨w.heap.size, 3, none⟩ = some (.int .u64 x3) ∧ W.cell? ⟨w.heap.size, 4, none⟩ = some (.int .i64 x4) ∧ W.cell? ⟨w.heap.size, 5, none⟩ = some (.int .u64 x5) ∧ W.cell? ⟨w.heap.size, 6, none⟩ = some (.int .u64 x6) ∧ W.cell? ⟨w.heap.size, 7, none⟩ = some (.int .u64 x7) ∧ W.cell? ⟨w.heap.size, 8, none⟩ = some (.int .u64 x8) ∧ W.cell? ⟨w.heap.size, 9, none⟩ = some (.int .i64 x9) ∧ W.cell? ⟨w.heap.size, 10, none⟩ = some (.int .u64 x10) ∧ W.cell? ⟨w.heap.size, 11, none⟩ = some (.int .u64 x11) ∧ W.cell? ⟨w.heap.size, 12, none⟩ = some (.int .u64 x12) ∧ W.cell? ⟨w.heap.size, 13, none⟩ = some (.int .u64 x13) ∧ W.cell? ⟨w.heap.size, 14, none⟩ = some (.int .u64 x14) ∧ W.cell? ⟨w.heap.size, 15, none⟩ = some (.int .i64 x15) ∧ W.cell? ⟨w.heap.size, 16, none⟩ = some (.int .u64 x16)) (first | go_simp | go_keep) (first | ((with_reducible refine (qPer x0 x1 x2 x3 x4 x5 x6 x7 x8 x9 x10 x11 x12 x13 x14 x15 x16 d m p HM.out HPP.out H5.out H12.out H14.out HD.out _).mono ?_); rintro e' w' ⟨rfl, nA, osA, rfl⟩) | ((with_reducible refine (rMul (max x2 0 + 2) (addI (max n 0) (addI (max f 0) 2)) HR2.out HS2.out _).mono ?_); rintro e' w' ⟨rfl, rfl⟩) | ((with_reducible refine (rMul p (mulI (max x2 0 + 2) (addI (max n 0) (addI (max f 0) 2))) HP.out HQ.out _).mono ?_); rintro e' w' ⟨rfl, rfl⟩))
  all_goals (go_wp2_with fail)
  all_goals
    go_ret
    exact ⟨rfl, by repeat (first | exact Gr.refl _ | apply Gr.drewN | apply Gr.drew | apply Gr.gw | apply Gr.alloc)⟩

theorem qTim (x0 x1 x2 x3 x4 x5 x6 x7 x8 x9 x10 x11 x12 x13 x14 x15 x16 n f d : Int) (m : Bool) (R : Int) (hm : (confI x0 x1 x2 x3 x4 x5 x6 x7 x8 x9 x10 x11 x12 x13 x14 x15 x16 == 0) = m) (hR : timM m x12 x5 x14 d x2 n f = R) (hx2 : -9223372036854775808 ≤ x2 ∧ x2 ≤ 9223372036854775807) (h5 : W64 x5) (h12 : W64 x12) (h14 : W64 x14) (hd : W64 d) (hn : -9223372036854775808 ≤ n ∧ n ≤ 9223372036854775807) (hf : -9223372036854775808 ≤ f ∧ f ≤ 9223372036854775807) (w : World) :
    Calls Try.prog 56 #[.agg #[.int .i64 x0, .int .u64 x1, .int .i64 x2, .int .u64 x3, .int .i64 x4, .int .u64 x5, .int .u64 x6, .int .u64 x7, .int .u64 x8, .int .i64 x9, .int .u64 x10, .int .u64 x11, .int .u64 x12, .int .u64 x13, .int .u64 x14, .int .i64 x15, .int .u64 x16], .int .i64 n, .int .i64 f, .int .u64 d] w fun e' w' => e' = .returned (.int .u64 R) ∧ Gr w w' := by
  subst hR
  rw [← tim_same m x12 x5 x14 d x2 n f h12 hd (fun h => by subst h; have := (may_ring x0 x1 x2 x3 x4 x5 x6 x7 x8 x9 x10 x11 x12 x13 x14 x15 x16 hm).1; omega)]
  exact qTimP x0 x1 x2 x3 x4 x5 x6 x7 x8 x9 x10 x11 x12 x13 x14 x15 x16 n f d _ m hm rfl hx2 h5 h12 h14 hd hn hf w

end Go.Proofs.Ytikkmdbaekdolaa
