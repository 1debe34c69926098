/- package rtt, and the reference's: what Sample, Timeout and Window return, for all estimates. -/
import Derived.Test.YtbgbeadhpcikhaaReno
import Derived.Deep.RegionHeld3
namespace Go.Proofs.Ytbgbeadhpcikhaa
open Go.RowKit Go.Lib
set_option linter.unusedVariables false

/-- k times a, and b, by k and 1 -/
def mixI (k a b : Int) : Int := (k * a + b) / (k + 1)
theorem mixI3_W (a b : Int) (ha : W64 a) (hb : W64 b) : W64 (mixI 3 a b) := by
  unfold W64 mixI at *
  omega
theorem mixI7_W (a b : Int) (ha : W64 a) (hb : W64 b) : W64 (mixI 7 a b) := by
  unfold W64 mixI at *
  omega

theorem mix_div (k a b : Int) (hk : 0 < k ∧ k ≤ 7) (ha : W64 a) (hb : W64 b) :
    0 ≤ mulHi k a + (mulLo k a + b) / 18446744073709551616 ∧ mulHi k a + (mulLo k a + b) / 18446744073709551616 < k + 1 ∧
      divQ (mulHi k a + (mulLo k a + b) / 18446744073709551616) ((mulLo k a + b) % 18446744073709551616) (k + 1) = mixI k a b := by
  have e := parts k a
  have h := mulHi_W k a (Wlit (by omega)) ha
  have l := mulLo_W k a
  have hka : k * a ≤ k * 18446744073709551615 := Int.mul_le_mul_of_nonneg_left ha.2 (by omega)
  have e2 : (mulHi k a + (mulLo k a + b) / 18446744073709551616) * 18446744073709551616 + (mulLo k a + b) % 18446744073709551616 = k * a + b := by
    rw [← e]
    omega
  unfold W64 at *
  refine ⟨by omega, ?_, ?_⟩
  · rw [← e] at hka
    omega
  · unfold divQ mixI
    rw [e2]

set_option maxHeartbeats 400000 in
theorem tMixed (k a b : Int) (hk : 0 < k ∧ k ≤ 7) (ha : W64 a) (hb : W64 b) (w : World) :
    Calls Try.prog 35 #[.int .u64 k, .int .u64 a, .int .u64 b] w fun e w' => e = .returned (.int .u64 (mixI k a b)) ∧ ∃ n, w.drewN n = w' := by
  have L := add64Law (mulLo k a) b (mulLo_W k a) hb
  obtain ⟨d0, d1, d2⟩ := mix_div k a b hk ha hb
  have Hk := Lib.hid (show W64 k from Wlit (by omega))
  have Ha := Lib.hid ha
  have Hl : Hid (W64 ((mulLo k a + b) % 18446744073709551616)) := by show W64 _; unfold W64; omega
  have He := Lib.hid d2
  obtain ⟨k0, k1⟩ := hk
  obtain ⟨c, hc⟩ : ∃ c, (mulLo k a + b) / 18446744073709551616 = c := ⟨_, rfl⟩
  obtain ⟨l, hl⟩ : ∃ l, (mulLo k a + b) % 18446744073709551616 = l := ⟨_, rfl⟩
  rw [hc] at L d0 d1 He
  rw [hl] at L Hl He
  obtain ⟨x, hx⟩ : ∃ x, mulHi k a = x := ⟨_, rfl⟩
  rw [hx] at d0 d1 He
  have HX := Lib.hid hx
  obtain ⟨y, hy⟩ : ∃ y, mulLo k a = y := ⟨_, rfl⟩
  rw [hy] at L
  have HY := Lib.hid hy
  clear ha hb d2 hc hl hx hy
  have M : Hid (∀ w, Calls Try.prog 44 #[.int .u64 k, .int .u64 a] w fun e w' => e = .returned (.tuple #[.int .u64 x, .int .u64 y]) ∧ w = w') := fun w => by
    have := wMul k a Hk.out Ha.out w
    rw [HX.out, HY.out] at this
    exact this
  go_enter Try.func35, Try.ntmps35
  go_wp2_with fail
  refine (M.out _).mono ?_; rintro e w' ⟨rfl, rfl⟩
  go_wp2_with fail
  refine (wDivYes (x + c) l (k + 1) (Wlit (by omega)) Hl.out (Wlit (by omega)) d1 _).mono ?_; rintro e w' ⟨rfl, n1, rfl⟩
  go_wp2_with fail
  go_ret
  exact ⟨ret_int He.out, _, rfl⟩
theorem qPart8 (a b : Int) (ha : W64 a) (hb : W64 b) (w : World) :
    Calls Try.prog 37 #[.int .u64 a, .int .u64 b, .int .u64 8] w fun e w' => e = .returned (.int .u64 (mixI 7 a b)) ∧ ∃ n, w.drewN n = w' := by
  obtain ⟨a0, a1⟩ := ha
  obtain ⟨b0, b1⟩ := hb
  have He : Hid (7 * (a / 8) + b / 8 + (7 * (a % 8) + b % 8) / 8 = mixI 7 a b) := by show _ = _; unfold mixI; omega
  go_enter Try.func37, Try.ntmps37
  go_wp2_with fail
  go_quiet (fail)
  go_wp2_with fail
  go_ret
  exact ⟨ret_int He.out, _, rfl⟩
theorem qPart4 (a b : Int) (ha : W64 a) (hb : W64 b) (w : World) :
    Calls Try.prog 37 #[.int .u64 a, .int .u64 b, .int .u64 4] w fun e w' => e = .returned (.int .u64 (mixI 3 a b)) ∧ ∃ n, w.drewN n = w' := by
  obtain ⟨a0, a1⟩ := ha
  obtain ⟨b0, b1⟩ := hb
  have He : Hid (3 * (a / 4) + b / 4 + (3 * (a % 4) + b % 4) / 4 = mixI 3 a b) := by show _ = _; unfold mixI; omega
  go_enter Try.func37, Try.ntmps37
  go_wp2_with fail
  go_quiet (fail)
  go_wp2_with fail
  go_ret
  exact ⟨ret_int He.out, _, rfl⟩

set_option maxHeartbeats 400000 in
theorem tSampleNo (l s v m x : Int) (hx : W64 x) (w : World) :
    Calls Try.prog 25 #[.agg #[.bool false, .int .u64 l, .int .u64 s, .int .u64 v, .int .u64 m], .int .u64 x] w fun e' w' => e' = .returned (.agg #[.bool true, .int .u64 x, .int .u64 x, .int .u64 (x / 2), .int .u64 x]) ∧ Gr w w' := by
  obtain ⟨x0, x1⟩ := hx
  go_enter Try.func25, Try.ntmps25
  go_wp2_with fail
  refine bodyPost_ret (v := .agg #[.bool true, .int .u64 x, .int .u64 x, .int .u64 (x / 2), .int .u64 x]) (by simp [results, Try.results25, go_sem]) rfl ⟨rfl, ?_⟩
  repeat (first | exact Gr.refl _ | apply Gr.drewN | apply Gr.drew | apply Gr.gw | apply Gr.alloc)
set_option maxHeartbeats 800000 in
theorem tSampleYes (l s v m x : Int) (hs : W64 s) (hv : W64 v) (hx : W64 x) (w : World) :
    Calls Try.prog 25 #[.agg #[.bool true, .int .u64 l, .int .u64 s, .int .u64 v, .int .u64 m], .int .u64 x] w fun e' w' => e' = .returned (.agg #[.bool true, .int .u64 x, .int .u64 (mixI 7 s x), .int .u64 (mixI 3 v (diffI s x)), .int .u64 (min m x)]) ∧ Gr w w' := by
  have Hs := Lib.hid hs
  have Hv := Lib.hid hv
  have Hx := Lib.hid hx
  have HD := Lib.hid (diffI_W s x hs hx)
  clear hs hv hx
  go_enter Try.func25, Try.ntmps25
  go_wp2_with fail
  refine region_tail 6 (by kernel_rfl) (by kernel_rfl) ?_
  simp only [List.take_succ_cons, List.take_zero, List.drop_succ_cons, List.drop_zero]
  repeat still_step
  still_call (turn (sDiff _ _ Hs.out Hx.out _))
  repeat still_step
  refine wpStill_nil ?_
  go_wp2_with fail
  refine (tMixed 3 _ _ ⟨by omega, by omega⟩ Hv.out HD.out _).mono ?_; rintro e' w' ⟨rfl, n1, rfl⟩
  go_wp2_with fail
  refine (tMixed 7 _ _ ⟨by omega, by omega⟩ Hs.out Hx.out _).mono ?_; rintro e' w' ⟨rfl, n2, rfl⟩
  go_wp2_with fail
  refine bodyPost_ret (v := .agg #[.bool true, .int .u64 x, .int .u64 (mixI 7 s x), .int .u64 (mixI 3 v (diffI s x)), .int .u64 (min m x)]) (by simp [results, Try.results25, go_sem]) rfl ⟨rfl, ?_⟩
  repeat (first | exact Gr.refl _ | apply Gr.drewN | apply Gr.drew | apply Gr.gw | apply Gr.alloc)

set_option maxHeartbeats 400000 in
theorem qSampleNo (l s v m x : Int) (hx : W64 x) (w : World) :
    Calls Try.prog 26 #[.agg #[.bool false, .int .u64 l, .int .u64 s, .int .u64 v, .int .u64 m], .int .u64 x] w fun e' w' => e' = .returned (.agg #[.bool true, .int .u64 x, .int .u64 x, .int .u64 (x / 2), .int .u64 x]) ∧ Gr w w' := by
  obtain ⟨x0, x1⟩ := hx
  go_enter Try.func26, Try.ntmps26
  go_wp2_with fail
  refine bodyPost_ret (v := .agg #[.bool true, .int .u64 x, .int .u64 x, .int .u64 (x / 2), .int .u64 x]) (by simp [results, Try.results26, go_sem]) rfl ⟨rfl, ?_⟩
  repeat (first | exact Gr.refl _ | apply Gr.drewN | apply Gr.drew | apply Gr.gw | apply Gr.alloc)
set_option maxHeartbeats 800000 in
theorem qSampleYes (l s v m x : Int) (hs : W64 s) (hv : W64 v) (hx : W64 x) (w : World) :
    Calls Try.prog 26 #[.agg #[.bool true, .int .u64 l, .int .u64 s, .int .u64 v, .int .u64 m], .int .u64 x] w fun e' w' => e' = .returned (.agg #[.bool true, .int .u64 x, .int .u64 (mixI 7 s x), .int .u64 (mixI 3 v (diffI s x)), .int .u64 (min m x)]) ∧ Gr w w' := by
  have Hs := Lib.hid hs
  have Hv := Lib.hid hv
  have Hx := Lib.hid hx
  have HD := Lib.hid (diffI_W s x hs hx)
  clear hs hv hx
  go_enter Try.func26, Try.ntmps26
  go_wp2_with fail
  go_region_held3 (fun w' => w'.cell? ⟨w.heap.size, 2, none⟩ = some (.int .u64 s) ∧ w'.cell? ⟨w.heap.size, 3, none⟩ = some (.int .u64 v) ∧ w'.cell? ⟨w.heap.size, 4, none⟩ = some (.int .u64 m)) (first | go_simp | go_keep)
    (first
      | (go_at_call 37; ((with_reducible refine (qPart8 _ _ Hs.out Hx.out _).mono ?_); rintro e' w' ⟨rfl, n1, rfl⟩))
      | (go_at_call 37; ((with_reducible refine (qPart4 _ _ Hv.out HD.out _).mono ?_); rintro e' w' ⟨rfl, n2, rfl⟩))
      | (go_at_call 38; refine (rDiff _ _ Hs.out Hx.out _).mono ?_; rintro e' w' ⟨rfl, rfl⟩))
  all_goals
   go_wp2_with fail
   refine bodyPost_ret (v := .agg #[.bool true, .int .u64 x, .int .u64 (mixI 7 s x), .int .u64 (mixI 3 v (diffI s x)), .int .u64 (min m x)]) (by simp [results, Try.results26, go_sem]) rfl ⟨rfl, ?_⟩
   repeat (first | exact Gr.refl _ | apply Gr.drewN | apply Gr.drew | apply Gr.gw | apply Gr.alloc)

set_option maxHeartbeats 400000 in
theorem tTimeoutNo (l s v m f g : Int) (hf : W64 f) (hg : W64 g) (w : World) :
    Calls Try.prog 27 #[.agg #[.bool false, .int .u64 l, .int .u64 s, .int .u64 v, .int .u64 m], .int .u64 f, .int .u64 g] w fun e' w' => e' = .returned (.int .u64 (addI f (max (mulI 2 f) g))) ∧ Gr w w' := by
  have Hf := Lib.hid hf
  have HM := Lib.hid (show W64 (max (mulI 2 f) g) from by have := mulI_W 2 f (Wlit (by omega)) hf; unfold W64 at *; omega)
  clear hf hg
  go_enter Try.func27, Try.ntmps27
  go_wp2_with fail
  refine (sMul 2 _ (Wlit (by omega)) Hf.out _).mono ?_; rintro e' w' ⟨rfl, rfl⟩
  go_wp2_with fail
  refine (sAdd _ _ Hf.out HM.out _).mono ?_; rintro e' w' ⟨rfl, rfl⟩
  go_wp2_with fail
  go_ret
  exact ⟨rfl, by repeat (first | exact Gr.refl _ | apply Gr.drewN | apply Gr.drew | apply Gr.gw | apply Gr.alloc)⟩
set_option maxHeartbeats 400000 in
theorem tTimeoutYes (l s v m f g : Int) (hs : W64 s) (hv : W64 v) (hg : W64 g) (w : World) :
    Calls Try.prog 27 #[.agg #[.bool true, .int .u64 l, .int .u64 s, .int .u64 v, .int .u64 m], .int .u64 f, .int .u64 g] w fun e' w' => e' = .returned (.int .u64 (addI s (max (mulI 4 v) g))) ∧ Gr w w' := by
  have Hs := Lib.hid hs
  have Hv := Lib.hid hv
  have HM := Lib.hid (show W64 (max (mulI 4 v) g) from by have := mulI_W 4 v (Wlit (by omega)) hv; unfold W64 at *; omega)
  clear hs hv hg
  go_enter Try.func27, Try.ntmps27
  go_wp2_with fail
  refine region_tail 8 (by kernel_rfl) (by kernel_rfl) ?_
  simp only [List.take_succ_cons, List.take_zero, List.drop_succ_cons, List.drop_zero]
  repeat still_step
  still_call (turn (sMul 4 _ (Wlit (by omega)) Hv.out _))
  repeat still_step
  still_call (turn (sAdd _ _ Hs.out HM.out _))
  repeat still_step
  refine wpStill_nil ?_
  go_wp2_with fail
  go_ret
  exact ⟨rfl, by repeat (first | exact Gr.refl _ | apply Gr.drewN | apply Gr.drew | apply Gr.gw | apply Gr.alloc)⟩

set_option maxHeartbeats 400000 in
theorem qTimeoutNo (l s v m f g : Int) (hf : W64 f) (hg : W64 g) (w : World) :
    Calls Try.prog 28 #[.agg #[.bool false, .int .u64 l, .int .u64 s, .int .u64 v, .int .u64 m], .int .u64 f, .int .u64 g] w fun e' w' => e' = .returned (.int .u64 (addI f (max (mulI 2 f) g))) ∧ Gr w w' := by
  have Hf := Lib.hid hf
  have HM := Lib.hid (show W64 (max (mulI 2 f) g) from by have := mulI_W 2 f (Wlit (by omega)) hf; unfold W64 at *; omega)
  clear hf hg
  go_enter Try.func28, Try.ntmps28
  go_wp2_with fail
  refine (rMul 2 _ (Wlit (by omega)) Hf.out _).mono ?_; rintro e' w' ⟨rfl, rfl⟩
  go_wp2_with fail
  refine (rAdd _ _ Hf.out HM.out _).mono ?_; rintro e' w' ⟨rfl, rfl⟩
  go_wp2_with fail
  go_ret
  exact ⟨rfl, by repeat (first | exact Gr.refl _ | apply Gr.drewN | apply Gr.drew | apply Gr.gw | apply Gr.alloc)⟩
set_option maxHeartbeats 400000 in
theorem qTimeoutYes (l s v m f g : Int) (hs : W64 s) (hv : W64 v) (hg : W64 g) (w : World) :
    Calls Try.prog 28 #[.agg #[.bool true, .int .u64 l, .int .u64 s, .int .u64 v, .int .u64 m], .int .u64 f, .int .u64 g] w fun e' w' => e' = .returned (.int .u64 (addI s (max (mulI 4 v) g))) ∧ Gr w w' := by
  have Hs := Lib.hid hs
  have Hv := Lib.hid hv
  have HM := Lib.hid (show W64 (max (mulI 4 v) g) from by have := mulI_W 4 v (Wlit (by omega)) hv; unfold W64 at *; omega)
  clear hs hv hg
  go_enter Try.func28, Try.ntmps28
  go_wp2_with fail
  refine region_tail 8 (by kernel_rfl) (by kernel_rfl) ?_
  simp only [List.take_succ_cons, List.take_zero, List.drop_succ_cons, List.drop_zero]
  repeat still_step
  still_call (turn (rMul 4 _ (Wlit (by omega)) Hv.out _))
  repeat still_step
  still_call (turn (rAdd _ _ Hs.out HM.out _))
  repeat still_step
  refine wpStill_nil ?_
  go_wp2_with fail
  go_ret
  exact ⟨rfl, by repeat (first | exact Gr.refl _ | apply Gr.drewN | apply Gr.drew | apply Gr.gw | apply Gr.alloc)⟩

set_option maxHeartbeats 400000 in
theorem tWindowNo (l s v m f g : Int) (hf : W64 f) (w : World) :
    Calls Try.prog 29 #[.agg #[.bool false, .int .u64 l, .int .u64 s, .int .u64 v, .int .u64 m], .int .u64 f, .int .u64 g] w fun e' w' => e' = .returned (.int .u64 (max (downI f 9 8) g)) ∧ Gr w w' := by
  have HX := Lib.hid hf
  clear hf
  go_enter Try.func29, Try.ntmps29
  go_wp2_with fail
  refine (wDown _ _ _ HX.out (Wlit (by omega)) (Wlit (by omega)) _).mono ?_; rintro e' w' ⟨rfl, n1, rfl⟩
  go_wp2_with fail
  go_ret
  exact ⟨rfl, by repeat (first | exact Gr.refl _ | apply Gr.drewN | apply Gr.drew | apply Gr.gw | apply Gr.alloc)⟩
set_option maxHeartbeats 400000 in
theorem tWindowYes (l s v m f g : Int) (hf : W64 s) (hl : W64 l) (w : World) :
    Calls Try.prog 29 #[.agg #[.bool true, .int .u64 l, .int .u64 s, .int .u64 v, .int .u64 m], .int .u64 f, .int .u64 g] w fun e' w' => e' = .returned (.int .u64 (max (downI (max s l) 9 8) g)) ∧ Gr w w' := by
  have HX := Lib.hid (show W64 (max s l) from by unfold W64 at *; omega)
  clear hf hl
  go_enter Try.func29, Try.ntmps29
  go_wp2_with fail
  refine (wDown _ _ _ HX.out (Wlit (by omega)) (Wlit (by omega)) _).mono ?_; rintro e' w' ⟨rfl, n1, rfl⟩
  go_wp2_with fail
  go_ret
  exact ⟨rfl, by repeat (first | exact Gr.refl _ | apply Gr.drewN | apply Gr.drew | apply Gr.gw | apply Gr.alloc)⟩

set_option maxHeartbeats 400000 in
theorem qWindowNo (l s v m f g : Int) (hf : W64 f) (w : World) :
    Calls Try.prog 30 #[.agg #[.bool false, .int .u64 l, .int .u64 s, .int .u64 v, .int .u64 m], .int .u64 f, .int .u64 g] w fun e' w' => e' = .returned (.int .u64 (max (downI f 9 8) g)) ∧ Gr w w' := by
  have HX := Lib.hid hf
  clear hf
  go_enter Try.func30, Try.ntmps30
  go_wp2_with fail
  refine (rDownG _ _ _ HX.out (Wlit (by omega)) (Wlit (by omega)) _).mono ?_; rintro e' w' ⟨rfl, n1, os1, rfl⟩
  go_wp2_with fail
  go_ret
  exact ⟨ret_int (Int.max_comm _ _), by repeat (first | exact Gr.refl _ | apply Gr.drewN | apply Gr.drew | apply Gr.gw | apply Gr.alloc)⟩
set_option maxHeartbeats 400000 in
theorem qWindowYes (l s v m f g : Int) (hf : W64 s) (hl : W64 l) (w : World) :
    Calls Try.prog 30 #[.agg #[.bool true, .int .u64 l, .int .u64 s, .int .u64 v, .int .u64 m], .int .u64 f, .int .u64 g] w fun e' w' => e' = .returned (.int .u64 (max (downI (max s l) 9 8) g)) ∧ Gr w w' := by
  have HX := Lib.hid (show W64 (max s l) from by unfold W64 at *; omega)
  clear hf hl
  go_enter Try.func30, Try.ntmps30
  go_wp2_with fail
  refine (rDownG _ _ _ HX.out (Wlit (by omega)) (Wlit (by omega)) _).mono ?_; rintro e' w' ⟨rfl, n1, os1, rfl⟩
  go_wp2_with fail
  go_ret
  exact ⟨ret_int (Int.max_comm _ _), by repeat (first | exact Gr.refl _ | apply Gr.drewN | apply Gr.drew | apply Gr.gw | apply Gr.alloc)⟩

end Go.Proofs.Ytbgbeadhpcikhaa
