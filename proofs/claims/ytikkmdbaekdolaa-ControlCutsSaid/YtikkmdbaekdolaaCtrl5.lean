/- the reference's: cut, Collapse, Start, Ack. -/
import Derived.Test.YtikkmdbaekdolaaCtrl2
import Derived.Test.YtikkmdbaekdolaaRefCheck
namespace Go.Proofs.Ytikkmdbaekdolaa
open Go.RowKit Go.Lib
set_option linter.unusedVariables false
set_option maxRecDepth 100000

theorem qtCut (x0 x1 x2 x3 x4 x5 x6 x7 x8 x9 x10 x11 x12 x13 x14 x15 x16 c t a p e k f E C n n2 : Int) (R : W9) (hR : cutW x9 x7 x8 n 20 n2 20 ⟨c, t, a, p, e, k, f, E, C⟩ = R) (hal : x9 = 1 ∨ x9 = 2) (hc : W64 c) (hn : W64 n) (hn2 : W64 n2) (w : World) :
    Calls Try.prog 61 #[.agg #[.int .i64 x0, .int .u64 x1, .int .i64 x2, .int .u64 x3, .int .i64 x4, .int .u64 x5, .int .u64 x6, .int .u64 x7, .int .u64 x8, .int .i64 x9, .int .u64 x10, .int .u64 x11, .int .u64 x12, .int .u64 x13, .int .u64 x14, .int .i64 x15, .int .u64 x16], .agg #[.int .u64 c, .int .u64 t, .int .u64 a, .int .u64 p, .int .u64 e, .int .u64 k, .int .u64 f], .int .u64 n, .int .u64 n2] w fun e' w' => e' = .returned (.agg #[.int .u64 R.c, .int .u64 R.t, .int .u64 R.a, .int .u64 R.p, .int .u64 R.e, .int .u64 R.k, .int .u64 R.f]) ∧ Gr w w' := by
  subst hR
  rcases hal with rfl | rfl
  · rw [show cutW 1 x7 x8 n 20 n2 20 ⟨c, t, a, p, e, k, f, E, C⟩ = cut1 x7 x8 n 20 ⟨c, t, a, p, e, k, f, E, C⟩ from if_neg (by decide)]
    exact qtCut1 x0 x1 x2 x3 x4 x5 x6 x7 x8 x10 x11 x12 x13 x14 x15 x16 c t a p e k f n n2 hc hn hn2 w
  · rw [show cutW 2 x7 x8 n 20 n2 20 ⟨c, t, a, p, e, k, f, E, C⟩ = cut2 x7 x8 n2 20 ⟨c, t, a, p, e, k, f, E, C⟩ from if_pos rfl]
    exact qtCut2 x0 x1 x2 x3 x4 x5 x6 x7 x8 x10 x11 x12 x13 x14 x15 x16 c t a p e k f n n2 hc hn hn2 w

set_option maxHeartbeats 2000000 in
theorem qCollNo (x0 x1 x2 x3 x4 x5 x6 x7 x8 x9 x10 x11 x12 x13 x14 x15 x16 c t a p e k f E C : Int) (h5 : W64 x5) (hm : (confI x0 x1 x2 x3 x4 x5 x6 x7 x8 x9 x10 x11 x12 x13 x14 x15 x16 == 0) = false) (w : World) :
    Calls Try.prog 22 #[.agg #[.int .i64 x0, .int .u64 x1, .int .i64 x2, .int .u64 x3, .int .i64 x4, .int .u64 x5, .int .u64 x6, .int .u64 x7, .int .u64 x8, .int .i64 x9, .int .u64 x10, .int .u64 x11, .int .u64 x12, .int .u64 x13, .int .u64 x14, .int .i64 x15, .int .u64 x16], .agg #[.int .u64 c, .int .u64 t, .int .u64 a, .int .u64 p, .int .u64 e, .int .u64 k, .int .u64 f, .int .u64 E, .int .u64 C]] w fun e' w' => e' = .returned (.agg #[.int .u64 c, .int .u64 t, .int .u64 a, .int .u64 p, .int .u64 e, .int .u64 k, .int .u64 f, .int .u64 E, .int .u64 C]) ∧ Gr w w' := by
  obtain ⟨N, hN⟩ : ∃ N, confI x0 x1 x2 x3 x4 x5 x6 x7 x8 x9 x10 x11 x12 x13 x14 x15 x16 = N := ⟨_, rfl⟩
  have hN0 : (N == 0) = false := by rw [← hN]; exact hm
  have hN1 : (N != 0) = true := by rw [bne, hN0]; rfl
  have HM := Lib.hid hN
  have H5 := Lib.hid h5
  clear hm h5 hN
  go_enter Try.func22, Try.ntmps22
  go_wp2_with (refine wpList_load_all (by rfl) 24 _ rfl _ rfl _ _ _ _ (by repeat (first | (with_reducible refine heap_newS _ _ _ ?_; simp; done) | with_reducible apply heap_gwS | with_reducible apply heap_drewNS | with_reducible apply heap_drewS | with_reducible apply heap_allocS)) Try.underlying24 rfl (by kernel_rfl) ?_)
  refine (rCheck x0 x1 x2 x3 x4 x5 x6 x7 x8 x9 x10 x11 x12 x13 x14 x15 x16 H5.out _).mono ?_; rintro e' w1 ⟨rfl, n1, os1, rfl⟩
  rw [HM.out]
  go_wp2_with fail
  refine bodyPost_ret (v := .agg #[.int .u64 c, .int .u64 t, .int .u64 a, .int .u64 p, .int .u64 e, .int .u64 k, .int .u64 f, .int .u64 E, .int .u64 C]) (by simp [results, Try.results22, go_sem]) rfl ⟨rfl, ?_⟩
  repeat (first | exact Gr.refl _ | apply Gr.drewN | apply Gr.drew | apply Gr.gw | apply Gr.alloc)

set_option maxHeartbeats 2000000 in
theorem qCollYes (x0 x1 x2 x3 x4 x5 x6 x7 x8 x9 x10 x11 x12 x13 x14 x15 x16 c t a p e k f E C : Int) (R : W9) (hR : cutW x9 x7 x8 10 20 14 20 ⟨c, t, a, p, e, k, f, E, C⟩ = R) (h5 : W64 x5) (hm : (confI x0 x1 x2 x3 x4 x5 x6 x7 x8 x9 x10 x11 x12 x13 x14 x15 x16 == 0) = true) (hc : W64 c) (w : World) :
    Calls Try.prog 22 #[.agg #[.int .i64 x0, .int .u64 x1, .int .i64 x2, .int .u64 x3, .int .i64 x4, .int .u64 x5, .int .u64 x6, .int .u64 x7, .int .u64 x8, .int .i64 x9, .int .u64 x10, .int .u64 x11, .int .u64 x12, .int .u64 x13, .int .u64 x14, .int .i64 x15, .int .u64 x16], .agg #[.int .u64 c, .int .u64 t, .int .u64 a, .int .u64 p, .int .u64 e, .int .u64 k, .int .u64 f, .int .u64 E, .int .u64 C]] w fun e' w' => e' = .returned (.agg #[.int .u64 x7, .int .u64 R.t, .int .u64 R.a, .int .u64 R.p, .int .u64 R.e, .int .u64 R.k, .int .u64 R.f, .int .u64 E, .int .u64 C]) ∧ Gr w w' := by
  have HA := Lib.hid (may_al x0 x1 x2 x3 x4 x5 x6 x7 x8 x9 x10 x11 x12 x13 x14 x15 x16 hm)
  have HM := Lib.hid (eq_of_beq hm)
  have HR := Lib.hid hR
  have H5 := Lib.hid h5
  have Hc := Lib.hid hc
  clear hc
  clear hm hR h5
  go_enter Try.func22, Try.ntmps22
  go_wp2_with (refine wpList_load_all (by rfl) 24 _ rfl _ rfl _ _ _ _ (by repeat (first | (with_reducible refine heap_newS _ _ _ ?_; simp; done) | with_reducible apply heap_gwS | with_reducible apply heap_drewNS | with_reducible apply heap_drewS | with_reducible apply heap_allocS)) Try.underlying24 rfl (by kernel_rfl) ?_)
  refine (rCheck x0 x1 x2 x3 x4 x5 x6 x7 x8 x9 x10 x11 x12 x13 x14 x15 x16 H5.out _).mono ?_; rintro e' w1 ⟨rfl, n1, os1, rfl⟩
  rw [HM.out]
  go_wp2_with (refine wpList_load_all (by rfl) 24 _ rfl _ rfl _ _ _ _ (by repeat (first | (with_reducible refine heap_newS _ _ _ ?_; simp; done) | with_reducible apply heap_gwS | with_reducible apply heap_drewNS | with_reducible apply heap_drewS | with_reducible apply heap_allocS)) Try.underlying24 rfl (by kernel_rfl) ?_)
  refine (qtCut x0 x1 x2 x3 x4 x5 x6 x7 x8 x9 x10 x11 x12 x13 x14 x15 x16 c t a p e k f E C 10 14 R HR.out HA.out Hc.out (Wlit (by omega)) (Wlit (by omega)) _).mono ?_; rintro e' w1 ⟨rfl, n2', os2, rfl⟩
  go_wp2_with fail
  refine bodyPost_ret (v := .agg #[.int .u64 x7, .int .u64 R.t, .int .u64 R.a, .int .u64 R.p, .int .u64 R.e, .int .u64 R.k, .int .u64 R.f, .int .u64 E, .int .u64 C]) (by simp [results, Try.results22, go_sem]) rfl ⟨rfl, ?_⟩
  repeat (first | exact Gr.refl _ | apply Gr.drewN | apply Gr.drew | apply Gr.gw | apply Gr.alloc)

theorem qColl (x0 x1 x2 x3 x4 x5 x6 x7 x8 x9 x10 x11 x12 x13 x14 x15 x16 c t a p e k f E C : Int) (R : W9) (m : Bool) (hm : (confI x0 x1 x2 x3 x4 x5 x6 x7 x8 x9 x10 x11 x12 x13 x14 x15 x16 == 0) = m) (hR : colW m x9 x7 x8 10 20 14 20 ⟨c, t, a, p, e, k, f, E, C⟩ = R) (h5 : W64 x5) (hc : W64 c) (w : World) :
    Calls Try.prog 22 #[.agg #[.int .i64 x0, .int .u64 x1, .int .i64 x2, .int .u64 x3, .int .i64 x4, .int .u64 x5, .int .u64 x6, .int .u64 x7, .int .u64 x8, .int .i64 x9, .int .u64 x10, .int .u64 x11, .int .u64 x12, .int .u64 x13, .int .u64 x14, .int .i64 x15, .int .u64 x16], .agg #[.int .u64 c, .int .u64 t, .int .u64 a, .int .u64 p, .int .u64 e, .int .u64 k, .int .u64 f, .int .u64 E, .int .u64 C]] w fun e' w' => e' = .returned (.agg #[.int .u64 R.c, .int .u64 R.t, .int .u64 R.a, .int .u64 R.p, .int .u64 R.e, .int .u64 R.k, .int .u64 R.f, .int .u64 R.E, .int .u64 R.C]) ∧ Gr w w' := by
  subst hR
  cases m
  · exact qCollNo x0 x1 x2 x3 x4 x5 x6 x7 x8 x9 x10 x11 x12 x13 x14 x15 x16 c t a p e k f E C h5 hm w
  · have e1 : colW true x9 x7 x8 10 20 14 20 ⟨c, t, a, p, e, k, f, E, C⟩ = setC x7 (cutW x9 x7 x8 10 20 14 20 ⟨c, t, a, p, e, k, f, E, C⟩) := rfl
    rw [e1]
    have e2 : (cutW x9 x7 x8 10 20 14 20 ⟨c, t, a, p, e, k, f, E, C⟩).E = E ∧ (cutW x9 x7 x8 10 20 14 20 ⟨c, t, a, p, e, k, f, E, C⟩).C = C := by unfold cutW; split <;> exact ⟨rfl, rfl⟩
    have h := qCollYes x0 x1 x2 x3 x4 x5 x6 x7 x8 x9 x10 x11 x12 x13 x14 x15 x16 c t a p e k f E C _ rfl h5 hm hc w
    simp only [setC, e2.1, e2.2]
    exact h

set_option maxHeartbeats 2000000 in
theorem qStaNo (x0 x1 x2 x3 x4 x5 x6 x7 x8 x9 x10 x11 x12 x13 x14 x15 x16 : Int) (h5 : W64 x5) (hm : (confI x0 x1 x2 x3 x4 x5 x6 x7 x8 x9 x10 x11 x12 x13 x14 x15 x16 == 0) = false) (w : World) :
    Calls Try.prog 38 #[.agg #[.int .i64 x0, .int .u64 x1, .int .i64 x2, .int .u64 x3, .int .i64 x4, .int .u64 x5, .int .u64 x6, .int .u64 x7, .int .u64 x8, .int .i64 x9, .int .u64 x10, .int .u64 x11, .int .u64 x12, .int .u64 x13, .int .u64 x14, .int .i64 x15, .int .u64 x16]] w fun e' w' => e' = .returned (.agg #[.int .u64 0, .int .u64 0, .int .u64 0, .int .u64 0, .int .u64 0, .int .u64 0, .int .u64 0, .int .u64 0, .int .u64 0]) ∧ Gr w w' := by
  obtain ⟨N, hN⟩ : ∃ N, confI x0 x1 x2 x3 x4 x5 x6 x7 x8 x9 x10 x11 x12 x13 x14 x15 x16 = N := ⟨_, rfl⟩
  have hN0 : (N == 0) = false := by rw [← hN]; exact hm
  have hN1 : (N != 0) = true := by rw [bne, hN0]; rfl
  have HM := Lib.hid hN
  have H5 := Lib.hid h5
  clear hm h5 hN
  go_enter Try.func38, Try.ntmps38
  go_wp2_with (refine wpList_load_all (by rfl) 24 _ rfl _ rfl _ _ _ _ (by repeat (first | (with_reducible refine heap_newS _ _ _ ?_; simp; done) | with_reducible apply heap_gwS | with_reducible apply heap_drewNS | with_reducible apply heap_drewS | with_reducible apply heap_allocS)) Try.underlying24 rfl (by kernel_rfl) ?_)
  refine (rCheck x0 x1 x2 x3 x4 x5 x6 x7 x8 x9 x10 x11 x12 x13 x14 x15 x16 H5.out _).mono ?_; rintro e' w1 ⟨rfl, n1, os1, rfl⟩
  rw [HM.out]
  go_wp2_with fail
  refine bodyPost_ret (v := .agg #[.int .u64 0, .int .u64 0, .int .u64 0, .int .u64 0, .int .u64 0, .int .u64 0, .int .u64 0, .int .u64 0, .int .u64 0]) (by simp [results, Try.results38, go_sem]) rfl ⟨rfl, ?_⟩
  repeat (first | exact Gr.refl _ | apply Gr.drewN | apply Gr.drew | apply Gr.gw | apply Gr.alloc)

set_option maxHeartbeats 2000000 in
theorem qStaYes (x0 x1 x2 x3 x4 x5 x6 x7 x8 x9 x10 x11 x12 x13 x14 x15 x16 : Int) (h5 : W64 x5) (hm : (confI x0 x1 x2 x3 x4 x5 x6 x7 x8 x9 x10 x11 x12 x13 x14 x15 x16 == 0) = true) (w : World) :
    Calls Try.prog 38 #[.agg #[.int .i64 x0, .int .u64 x1, .int .i64 x2, .int .u64 x3, .int .i64 x4, .int .u64 x5, .int .u64 x6, .int .u64 x7, .int .u64 x8, .int .i64 x9, .int .u64 x10, .int .u64 x11, .int .u64 x12, .int .u64 x13, .int .u64 x14, .int .i64 x15, .int .u64 x16]] w fun e' w' => e' = .returned (.agg #[.int .u64 x6, .int .u64 18446744073709551615, .int .u64 0, .int .u64 0, .int .u64 18446744073709551615, .int .u64 0, .int .u64 0, .int .u64 0, .int .u64 0]) ∧ Gr w w' := by
  have HM := Lib.hid (eq_of_beq hm)
  have H5 := Lib.hid h5
  clear hm h5
  go_enter Try.func38, Try.ntmps38
  go_wp2_with (refine wpList_load_all (by rfl) 24 _ rfl _ rfl _ _ _ _ (by repeat (first | (with_reducible refine heap_newS _ _ _ ?_; simp; done) | with_reducible apply heap_gwS | with_reducible apply heap_drewNS | with_reducible apply heap_drewS | with_reducible apply heap_allocS)) Try.underlying24 rfl (by kernel_rfl) ?_)
  refine (rCheck x0 x1 x2 x3 x4 x5 x6 x7 x8 x9 x10 x11 x12 x13 x14 x15 x16 H5.out _).mono ?_; rintro e' w1 ⟨rfl, n1, os1, rfl⟩
  rw [HM.out]
  go_wp2_with fail
  refine bodyPost_ret (v := .agg #[.int .u64 x6, .int .u64 18446744073709551615, .int .u64 0, .int .u64 0, .int .u64 18446744073709551615, .int .u64 0, .int .u64 0, .int .u64 0, .int .u64 0]) (by simp [results, Try.results38, go_sem]) rfl ⟨rfl, ?_⟩
  repeat (first | exact Gr.refl _ | apply Gr.drewN | apply Gr.drew | apply Gr.gw | apply Gr.alloc)

theorem qSta (x0 x1 x2 x3 x4 x5 x6 x7 x8 x9 x10 x11 x12 x13 x14 x15 x16 : Int) (R : W9) (m : Bool) (hm : (confI x0 x1 x2 x3 x4 x5 x6 x7 x8 x9 x10 x11 x12 x13 x14 x15 x16 == 0) = m) (hR : staW m x6 = R) (h5 : W64 x5) (w : World) :
    Calls Try.prog 38 #[.agg #[.int .i64 x0, .int .u64 x1, .int .i64 x2, .int .u64 x3, .int .i64 x4, .int .u64 x5, .int .u64 x6, .int .u64 x7, .int .u64 x8, .int .i64 x9, .int .u64 x10, .int .u64 x11, .int .u64 x12, .int .u64 x13, .int .u64 x14, .int .i64 x15, .int .u64 x16]] w fun e' w' => e' = .returned (.agg #[.int .u64 R.c, .int .u64 R.t, .int .u64 R.a, .int .u64 R.p, .int .u64 R.e, .int .u64 R.k, .int .u64 R.f, .int .u64 R.E, .int .u64 R.C]) ∧ Gr w w' := by
  subst hR
  cases m
  · exact qStaNo x0 x1 x2 x3 x4 x5 x6 x7 x8 x9 x10 x11 x12 x13 x14 x15 x16 h5 hm w
  · exact qStaYes x0 x1 x2 x3 x4 x5 x6 x7 x8 x9 x10 x11 x12 x13 x14 x15 x16 h5 hm w

end Go.Proofs.Ytikkmdbaekdolaa
