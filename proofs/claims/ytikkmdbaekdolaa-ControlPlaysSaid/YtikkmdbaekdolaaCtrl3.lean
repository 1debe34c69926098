/- package control: Loss, Mark, Collapse, Start, Ack. -/
import Derived.Test.YtikkmdbaekdolaaCtrl2
namespace Go.Proofs.Ytikkmdbaekdolaa
open Go.RowKit Go.Lib
set_option linter.unusedVariables false
set_option maxRecDepth 100000

theorem nBeg (x0 x1 x2 x3 x4 x5 x6 x7 x8 x9 x10 x11 x12 x13 x14 x15 x16 c t a p e k f E C q nx n d n2 d2 : Int) (R : W9) (b m : Bool) (hm : (confI x0 x1 x2 x3 x4 x5 x6 x7 x8 x9 x10 x11 x12 x13 x14 x15 x16 == 0) = m) (hR : begW m x9 x7 x8 n d n2 d2 q nx ⟨c, t, a, p, e, k, f, E, C⟩ = R) (hb : begO m q ⟨c, t, a, p, e, k, f, E, C⟩ = b) (hc : W64 c) (hC : W64 C) (hq : W64 q) (hn : W64 n) (hd : W64 d) (hn2 : W64 n2) (hd2 : W64 d2) (w : World) :
    Calls Try.prog 58 #[.agg #[.int .i64 x0, .int .u64 x1, .int .i64 x2, .int .u64 x3, .int .i64 x4, .int .u64 x5, .int .u64 x6, .int .u64 x7, .int .u64 x8, .int .i64 x9, .int .u64 x10, .int .u64 x11, .int .u64 x12, .int .u64 x13, .int .u64 x14, .int .i64 x15, .int .u64 x16], .agg #[.int .u64 c, .int .u64 t, .int .u64 a, .int .u64 p, .int .u64 e, .int .u64 k, .int .u64 f, .int .u64 E, .int .u64 C], .int .u64 q, .int .u64 nx, .int .u64 n, .int .u64 d, .int .u64 n2, .int .u64 d2] w fun e' w' => e' = .returned (.tuple #[.agg #[.int .u64 R.c, .int .u64 R.t, .int .u64 R.a, .int .u64 R.p, .int .u64 R.e, .int .u64 R.k, .int .u64 R.f, .int .u64 R.E, .int .u64 R.C], .bool b]) ∧ Gr w w' := by
  subst hR hb
  cases m
  · exact begunNo x0 x1 x2 x3 x4 x5 x6 x7 x8 x9 x10 x11 x12 x13 x14 x15 x16 c t a p e k f E C q nx n d n2 d2 hm w
  · by_cases hE : E ≤ q
    · have e1 : begW true x9 x7 x8 n d n2 d2 q nx ⟨c, t, a, p, e, k, f, E, C⟩ = rndW q nx ⟨c, t, a, p, e, k, f, E, C⟩ (cutW x9 x7 x8 n d n2 d2 ⟨c, t, a, p, e, k, f, E, C⟩) := if_pos hE
      have e2 : begO true q ⟨c, t, a, p, e, k, f, E, C⟩ = true := decide_eq_true hE
      rw [e1, e2]
      exact begunYes x0 x1 x2 x3 x4 x5 x6 x7 x8 x9 x10 x11 x12 x13 x14 x15 x16 c t a p e k f E C q nx n d n2 d2 _ _ _ rfl rfl rfl hm hc hC hq hn hd hn2 hd2 hE w
    · have e1 : begW true x9 x7 x8 n d n2 d2 q nx ⟨c, t, a, p, e, k, f, E, C⟩ = ⟨c, t, a, p, e, k, f, E, C⟩ := if_neg hE
      have e2 : begO true q ⟨c, t, a, p, e, k, f, E, C⟩ = false := decide_eq_false hE
      rw [e1, e2]
      exact begunStale x0 x1 x2 x3 x4 x5 x6 x7 x8 x9 x10 x11 x12 x13 x14 x15 x16 c t a p e k f E C q nx n d n2 d2 hm hC hq (by omega) w

set_option maxHeartbeats 2000000 in
theorem nLoss (x0 x1 x2 x3 x4 x5 x6 x7 x8 x9 x10 x11 x12 x13 x14 x15 x16 c t a p e k f E C q nx : Int) (R : W9) (b m : Bool) (hm : (confI x0 x1 x2 x3 x4 x5 x6 x7 x8 x9 x10 x11 x12 x13 x14 x15 x16 == 0) = m) (hR : begW m x9 x7 x8 1 2 7 10 q nx ⟨c, t, a, p, e, k, f, E, C⟩ = R) (hb : begO m q ⟨c, t, a, p, e, k, f, E, C⟩ = b) (hc : W64 c) (hC : W64 C) (hq : W64 q) (w : World) :
    Calls Try.prog 17 #[.agg #[.int .i64 x0, .int .u64 x1, .int .i64 x2, .int .u64 x3, .int .i64 x4, .int .u64 x5, .int .u64 x6, .int .u64 x7, .int .u64 x8, .int .i64 x9, .int .u64 x10, .int .u64 x11, .int .u64 x12, .int .u64 x13, .int .u64 x14, .int .i64 x15, .int .u64 x16], .agg #[.int .u64 c, .int .u64 t, .int .u64 a, .int .u64 p, .int .u64 e, .int .u64 k, .int .u64 f, .int .u64 E, .int .u64 C], .int .u64 q, .int .u64 nx] w fun e' w' => e' = .returned (.tuple #[.agg #[.int .u64 R.c, .int .u64 R.t, .int .u64 R.a, .int .u64 R.p, .int .u64 R.e, .int .u64 R.k, .int .u64 R.f, .int .u64 R.E, .int .u64 R.C], .bool b]) ∧ Gr w w' := by
  have HM := Lib.hid hm
  have HR := Lib.hid hR
  have HB := Lib.hid hb
  have Hc := Lib.hid hc
  have HC := Lib.hid hC
  have Hq := Lib.hid hq
  clear hc hC hq
  clear hm hR hb
  go_enter Try.func17, Try.ntmps17
  go_wp2_with (refine wpList_load_all (by rfl) 24 _ rfl _ rfl _ _ _ _ (by repeat (first | (with_reducible refine heap_newS _ _ _ ?_; simp; done) | with_reducible apply heap_gwS | with_reducible apply heap_drewNS | with_reducible apply heap_drewS | with_reducible apply heap_allocS)) Try.underlying24 rfl (by kernel_rfl) ?_)
  refine (nBeg x0 x1 x2 x3 x4 x5 x6 x7 x8 x9 x10 x11 x12 x13 x14 x15 x16 c t a p e k f E C q nx 1 2 7 10 R b m HM.out HR.out HB.out Hc.out HC.out Hq.out (Wlit (by omega)) (Wlit (by omega)) (Wlit (by omega)) (Wlit (by omega)) _).mono ?_; rintro e' w1 ⟨rfl, n1, os1, rfl⟩
  go_wp2_with fail
  refine bodyPost_ret (v := .tuple #[.agg #[.int .u64 R.c, .int .u64 R.t, .int .u64 R.a, .int .u64 R.p, .int .u64 R.e, .int .u64 R.k, .int .u64 R.f, .int .u64 R.E, .int .u64 R.C], .bool b]) (by simp [results, Try.results17, go_sem]) rfl ⟨rfl, ?_⟩
  repeat (first | exact Gr.refl _ | apply Gr.drewN | apply Gr.drew | apply Gr.gw | apply Gr.alloc)

set_option maxHeartbeats 2000000 in
theorem nMark (x0 x1 x2 x3 x4 x5 x6 x7 x8 x9 x10 x11 x12 x13 x14 x15 x16 c t a p e k f E C q nx : Int) (R : W9) (b m : Bool) (hm : (confI x0 x1 x2 x3 x4 x5 x6 x7 x8 x9 x10 x11 x12 x13 x14 x15 x16 == 0) = m) (hR : begW m x9 x7 x8 4 5 17 20 q nx ⟨c, t, a, p, e, k, f, E, C⟩ = R) (hb : begO m q ⟨c, t, a, p, e, k, f, E, C⟩ = b) (hc : W64 c) (hC : W64 C) (hq : W64 q) (w : World) :
    Calls Try.prog 19 #[.agg #[.int .i64 x0, .int .u64 x1, .int .i64 x2, .int .u64 x3, .int .i64 x4, .int .u64 x5, .int .u64 x6, .int .u64 x7, .int .u64 x8, .int .i64 x9, .int .u64 x10, .int .u64 x11, .int .u64 x12, .int .u64 x13, .int .u64 x14, .int .i64 x15, .int .u64 x16], .agg #[.int .u64 c, .int .u64 t, .int .u64 a, .int .u64 p, .int .u64 e, .int .u64 k, .int .u64 f, .int .u64 E, .int .u64 C], .int .u64 q, .int .u64 nx] w fun e' w' => e' = .returned (.tuple #[.agg #[.int .u64 R.c, .int .u64 R.t, .int .u64 R.a, .int .u64 R.p, .int .u64 R.e, .int .u64 R.k, .int .u64 R.f, .int .u64 R.E, .int .u64 R.C], .bool b]) ∧ Gr w w' := by
  have HM := Lib.hid hm
  have HR := Lib.hid hR
  have HB := Lib.hid hb
  have Hc := Lib.hid hc
  have HC := Lib.hid hC
  have Hq := Lib.hid hq
  clear hc hC hq
  clear hm hR hb
  go_enter Try.func19, Try.ntmps19
  go_wp2_with (refine wpList_load_all (by rfl) 24 _ rfl _ rfl _ _ _ _ (by repeat (first | (with_reducible refine heap_newS _ _ _ ?_; simp; done) | with_reducible apply heap_gwS | with_reducible apply heap_drewNS | with_reducible apply heap_drewS | with_reducible apply heap_allocS)) Try.underlying24 rfl (by kernel_rfl) ?_)
  refine (nBeg x0 x1 x2 x3 x4 x5 x6 x7 x8 x9 x10 x11 x12 x13 x14 x15 x16 c t a p e k f E C q nx 4 5 17 20 R b m HM.out HR.out HB.out Hc.out HC.out Hq.out (Wlit (by omega)) (Wlit (by omega)) (Wlit (by omega)) (Wlit (by omega)) _).mono ?_; rintro e' w1 ⟨rfl, n1, os1, rfl⟩
  go_wp2_with fail
  refine bodyPost_ret (v := .tuple #[.agg #[.int .u64 R.c, .int .u64 R.t, .int .u64 R.a, .int .u64 R.p, .int .u64 R.e, .int .u64 R.k, .int .u64 R.f, .int .u64 R.E, .int .u64 R.C], .bool b]) (by simp [results, Try.results19, go_sem]) rfl ⟨rfl, ?_⟩
  repeat (first | exact Gr.refl _ | apply Gr.drewN | apply Gr.drew | apply Gr.gw | apply Gr.alloc)

set_option maxHeartbeats 2000000 in
theorem nCollNo (x0 x1 x2 x3 x4 x5 x6 x7 x8 x9 x10 x11 x12 x13 x14 x15 x16 c t a p e k f E C : Int) (h5 : W64 x5) (hm : (confI x0 x1 x2 x3 x4 x5 x6 x7 x8 x9 x10 x11 x12 x13 x14 x15 x16 == 0) = false) (w : World) :
    Calls Try.prog 21 #[.agg #[.int .i64 x0, .int .u64 x1, .int .i64 x2, .int .u64 x3, .int .i64 x4, .int .u64 x5, .int .u64 x6, .int .u64 x7, .int .u64 x8, .int .i64 x9, .int .u64 x10, .int .u64 x11, .int .u64 x12, .int .u64 x13, .int .u64 x14, .int .i64 x15, .int .u64 x16], .agg #[.int .u64 c, .int .u64 t, .int .u64 a, .int .u64 p, .int .u64 e, .int .u64 k, .int .u64 f, .int .u64 E, .int .u64 C]] w fun e' w' => e' = .returned (.agg #[.int .u64 c, .int .u64 t, .int .u64 a, .int .u64 p, .int .u64 e, .int .u64 k, .int .u64 f, .int .u64 E, .int .u64 C]) ∧ Gr w w' := by
  have HM := Lib.hid hm
  have H5 := Lib.hid h5
  clear hm h5
  go_enter Try.func21, Try.ntmps21
  go_wp2_with (refine wpList_load_all (by rfl) 24 _ rfl _ rfl _ _ _ _ (by repeat (first | (with_reducible refine heap_newS _ _ _ ?_; simp; done) | with_reducible apply heap_gwS | with_reducible apply heap_drewNS | with_reducible apply heap_drewS | with_reducible apply heap_allocS)) Try.underlying24 rfl (by kernel_rfl) ?_)
  refine (cMay x0 x1 x2 x3 x4 x5 x6 x7 x8 x9 x10 x11 x12 x13 x14 x15 x16 _).mono ?_; rintro e' w1 ⟨rfl, n1, os1, rfl⟩
  rw [HM.out]
  go_wp2_with fail
  refine bodyPost_ret (v := .agg #[.int .u64 c, .int .u64 t, .int .u64 a, .int .u64 p, .int .u64 e, .int .u64 k, .int .u64 f, .int .u64 E, .int .u64 C]) (by simp [results, Try.results21, go_sem]) rfl ⟨rfl, ?_⟩
  repeat (first | exact Gr.refl _ | apply Gr.drewN | apply Gr.drew | apply Gr.gw | apply Gr.alloc)

set_option maxHeartbeats 2000000 in
theorem nCollYes (x0 x1 x2 x3 x4 x5 x6 x7 x8 x9 x10 x11 x12 x13 x14 x15 x16 c t a p e k f E C : Int) (R : W9) (hR : cutW x9 x7 x8 1 2 7 10 ⟨c, t, a, p, e, k, f, E, C⟩ = R) (h5 : W64 x5) (hm : (confI x0 x1 x2 x3 x4 x5 x6 x7 x8 x9 x10 x11 x12 x13 x14 x15 x16 == 0) = true) (hc : W64 c) (w : World) :
    Calls Try.prog 21 #[.agg #[.int .i64 x0, .int .u64 x1, .int .i64 x2, .int .u64 x3, .int .i64 x4, .int .u64 x5, .int .u64 x6, .int .u64 x7, .int .u64 x8, .int .i64 x9, .int .u64 x10, .int .u64 x11, .int .u64 x12, .int .u64 x13, .int .u64 x14, .int .i64 x15, .int .u64 x16], .agg #[.int .u64 c, .int .u64 t, .int .u64 a, .int .u64 p, .int .u64 e, .int .u64 k, .int .u64 f, .int .u64 E, .int .u64 C]] w fun e' w' => e' = .returned (.agg #[.int .u64 x7, .int .u64 R.t, .int .u64 R.a, .int .u64 R.p, .int .u64 R.e, .int .u64 R.k, .int .u64 R.f, .int .u64 E, .int .u64 C]) ∧ Gr w w' := by
  have HA := Lib.hid (may_al x0 x1 x2 x3 x4 x5 x6 x7 x8 x9 x10 x11 x12 x13 x14 x15 x16 hm)
  have HM := Lib.hid hm
  have HR := Lib.hid hR
  have H5 := Lib.hid h5
  have Hc := Lib.hid hc
  clear hc
  clear hm hR h5
  go_enter Try.func21, Try.ntmps21
  go_wp2_with (refine wpList_load_all (by rfl) 24 _ rfl _ rfl _ _ _ _ (by repeat (first | (with_reducible refine heap_newS _ _ _ ?_; simp; done) | with_reducible apply heap_gwS | with_reducible apply heap_drewNS | with_reducible apply heap_drewS | with_reducible apply heap_allocS)) Try.underlying24 rfl (by kernel_rfl) ?_)
  refine (cMay x0 x1 x2 x3 x4 x5 x6 x7 x8 x9 x10 x11 x12 x13 x14 x15 x16 _).mono ?_; rintro e' w1 ⟨rfl, n1, os1, rfl⟩
  rw [HM.out]
  go_wp2_with (refine wpList_load_all (by rfl) 24 _ rfl _ rfl _ _ _ _ (by repeat (first | (with_reducible refine heap_newS _ _ _ ?_; simp; done) | with_reducible apply heap_gwS | with_reducible apply heap_drewNS | with_reducible apply heap_drewS | with_reducible apply heap_allocS)) Try.underlying24 rfl (by kernel_rfl) ?_)
  refine (ctCut x0 x1 x2 x3 x4 x5 x6 x7 x8 x9 x10 x11 x12 x13 x14 x15 x16 c t a p e k f E C 1 2 7 10 R HR.out HA.out Hc.out (Wlit (by omega)) (Wlit (by omega)) (Wlit (by omega)) (Wlit (by omega)) _).mono ?_; rintro e' w1 ⟨rfl, n2', os2, rfl⟩
  go_wp2_with fail
  refine bodyPost_ret (v := .agg #[.int .u64 x7, .int .u64 R.t, .int .u64 R.a, .int .u64 R.p, .int .u64 R.e, .int .u64 R.k, .int .u64 R.f, .int .u64 E, .int .u64 C]) (by simp [results, Try.results21, go_sem]) rfl ⟨rfl, ?_⟩
  repeat (first | exact Gr.refl _ | apply Gr.drewN | apply Gr.drew | apply Gr.gw | apply Gr.alloc)

theorem nColl (x0 x1 x2 x3 x4 x5 x6 x7 x8 x9 x10 x11 x12 x13 x14 x15 x16 c t a p e k f E C : Int) (R : W9) (m : Bool) (hm : (confI x0 x1 x2 x3 x4 x5 x6 x7 x8 x9 x10 x11 x12 x13 x14 x15 x16 == 0) = m) (hR : colW m x9 x7 x8 1 2 7 10 ⟨c, t, a, p, e, k, f, E, C⟩ = R) (h5 : W64 x5) (hc : W64 c) (w : World) :
    Calls Try.prog 21 #[.agg #[.int .i64 x0, .int .u64 x1, .int .i64 x2, .int .u64 x3, .int .i64 x4, .int .u64 x5, .int .u64 x6, .int .u64 x7, .int .u64 x8, .int .i64 x9, .int .u64 x10, .int .u64 x11, .int .u64 x12, .int .u64 x13, .int .u64 x14, .int .i64 x15, .int .u64 x16], .agg #[.int .u64 c, .int .u64 t, .int .u64 a, .int .u64 p, .int .u64 e, .int .u64 k, .int .u64 f, .int .u64 E, .int .u64 C]] w fun e' w' => e' = .returned (.agg #[.int .u64 R.c, .int .u64 R.t, .int .u64 R.a, .int .u64 R.p, .int .u64 R.e, .int .u64 R.k, .int .u64 R.f, .int .u64 R.E, .int .u64 R.C]) ∧ Gr w w' := by
  subst hR
  cases m
  · exact nCollNo x0 x1 x2 x3 x4 x5 x6 x7 x8 x9 x10 x11 x12 x13 x14 x15 x16 c t a p e k f E C h5 hm w
  · have e1 : colW true x9 x7 x8 1 2 7 10 ⟨c, t, a, p, e, k, f, E, C⟩ = setC x7 (cutW x9 x7 x8 1 2 7 10 ⟨c, t, a, p, e, k, f, E, C⟩) := rfl
    rw [e1]
    have e2 : (cutW x9 x7 x8 1 2 7 10 ⟨c, t, a, p, e, k, f, E, C⟩).E = E ∧ (cutW x9 x7 x8 1 2 7 10 ⟨c, t, a, p, e, k, f, E, C⟩).C = C := by unfold cutW; split <;> exact ⟨rfl, rfl⟩
    have h := nCollYes x0 x1 x2 x3 x4 x5 x6 x7 x8 x9 x10 x11 x12 x13 x14 x15 x16 c t a p e k f E C _ rfl h5 hm hc w
    simp only [setC, e2.1, e2.2]
    exact h

set_option maxHeartbeats 2000000 in
theorem nStaNo (x0 x1 x2 x3 x4 x5 x6 x7 x8 x9 x10 x11 x12 x13 x14 x15 x16 : Int) (h5 : W64 x5) (hm : (confI x0 x1 x2 x3 x4 x5 x6 x7 x8 x9 x10 x11 x12 x13 x14 x15 x16 == 0) = false) (w : World) :
    Calls Try.prog 37 #[.agg #[.int .i64 x0, .int .u64 x1, .int .i64 x2, .int .u64 x3, .int .i64 x4, .int .u64 x5, .int .u64 x6, .int .u64 x7, .int .u64 x8, .int .i64 x9, .int .u64 x10, .int .u64 x11, .int .u64 x12, .int .u64 x13, .int .u64 x14, .int .i64 x15, .int .u64 x16]] w fun e' w' => e' = .returned (.agg #[.int .u64 0, .int .u64 0, .int .u64 0, .int .u64 0, .int .u64 0, .int .u64 0, .int .u64 0, .int .u64 0, .int .u64 0]) ∧ Gr w w' := by
  have HM := Lib.hid hm
  have H5 := Lib.hid h5
  clear hm h5
  go_enter Try.func37, Try.ntmps37
  go_wp2_with (refine wpList_load_all (by rfl) 24 _ rfl _ rfl _ _ _ _ (by repeat (first | (with_reducible refine heap_newS _ _ _ ?_; simp; done) | with_reducible apply heap_gwS | with_reducible apply heap_drewNS | with_reducible apply heap_drewS | with_reducible apply heap_allocS)) Try.underlying24 rfl (by kernel_rfl) ?_)
  refine (cMay x0 x1 x2 x3 x4 x5 x6 x7 x8 x9 x10 x11 x12 x13 x14 x15 x16 _).mono ?_; rintro e' w1 ⟨rfl, n1, os1, rfl⟩
  rw [HM.out]
  go_wp2_with fail
  refine bodyPost_ret (v := .agg #[.int .u64 0, .int .u64 0, .int .u64 0, .int .u64 0, .int .u64 0, .int .u64 0, .int .u64 0, .int .u64 0, .int .u64 0]) (by simp [results, Try.results37, go_sem]) rfl ⟨rfl, ?_⟩
  repeat (first | exact Gr.refl _ | apply Gr.drewN | apply Gr.drew | apply Gr.gw | apply Gr.alloc)

set_option maxHeartbeats 2000000 in
theorem nStaYes (x0 x1 x2 x3 x4 x5 x6 x7 x8 x9 x10 x11 x12 x13 x14 x15 x16 : Int) (h5 : W64 x5) (hm : (confI x0 x1 x2 x3 x4 x5 x6 x7 x8 x9 x10 x11 x12 x13 x14 x15 x16 == 0) = true) (w : World) :
    Calls Try.prog 37 #[.agg #[.int .i64 x0, .int .u64 x1, .int .i64 x2, .int .u64 x3, .int .i64 x4, .int .u64 x5, .int .u64 x6, .int .u64 x7, .int .u64 x8, .int .i64 x9, .int .u64 x10, .int .u64 x11, .int .u64 x12, .int .u64 x13, .int .u64 x14, .int .i64 x15, .int .u64 x16]] w fun e' w' => e' = .returned (.agg #[.int .u64 x6, .int .u64 18446744073709551615, .int .u64 0, .int .u64 0, .int .u64 18446744073709551615, .int .u64 0, .int .u64 0, .int .u64 0, .int .u64 0]) ∧ Gr w w' := by
  have HM := Lib.hid hm
  have H5 := Lib.hid h5
  clear hm h5
  go_enter Try.func37, Try.ntmps37
  go_wp2_with (refine wpList_load_all (by rfl) 24 _ rfl _ rfl _ _ _ _ (by repeat (first | (with_reducible refine heap_newS _ _ _ ?_; simp; done) | with_reducible apply heap_gwS | with_reducible apply heap_drewNS | with_reducible apply heap_drewS | with_reducible apply heap_allocS)) Try.underlying24 rfl (by kernel_rfl) ?_)
  refine (cMay x0 x1 x2 x3 x4 x5 x6 x7 x8 x9 x10 x11 x12 x13 x14 x15 x16 _).mono ?_; rintro e' w1 ⟨rfl, n1, os1, rfl⟩
  rw [HM.out]
  go_wp2_with fail
  refine bodyPost_ret (v := .agg #[.int .u64 x6, .int .u64 18446744073709551615, .int .u64 0, .int .u64 0, .int .u64 18446744073709551615, .int .u64 0, .int .u64 0, .int .u64 0, .int .u64 0]) (by simp [results, Try.results37, go_sem]) rfl ⟨rfl, ?_⟩
  repeat (first | exact Gr.refl _ | apply Gr.drewN | apply Gr.drew | apply Gr.gw | apply Gr.alloc)

theorem nSta (x0 x1 x2 x3 x4 x5 x6 x7 x8 x9 x10 x11 x12 x13 x14 x15 x16 : Int) (R : W9) (m : Bool) (hm : (confI x0 x1 x2 x3 x4 x5 x6 x7 x8 x9 x10 x11 x12 x13 x14 x15 x16 == 0) = m) (hR : staW m x6 = R) (h5 : W64 x5) (w : World) :
    Calls Try.prog 37 #[.agg #[.int .i64 x0, .int .u64 x1, .int .i64 x2, .int .u64 x3, .int .i64 x4, .int .u64 x5, .int .u64 x6, .int .u64 x7, .int .u64 x8, .int .i64 x9, .int .u64 x10, .int .u64 x11, .int .u64 x12, .int .u64 x13, .int .u64 x14, .int .i64 x15, .int .u64 x16]] w fun e' w' => e' = .returned (.agg #[.int .u64 R.c, .int .u64 R.t, .int .u64 R.a, .int .u64 R.p, .int .u64 R.e, .int .u64 R.k, .int .u64 R.f, .int .u64 R.E, .int .u64 R.C]) ∧ Gr w w' := by
  subst hR
  cases m
  · exact nStaNo x0 x1 x2 x3 x4 x5 x6 x7 x8 x9 x10 x11 x12 x13 x14 x15 x16 h5 hm w
  · exact nStaYes x0 x1 x2 x3 x4 x5 x6 x7 x8 x9 x10 x11 x12 x13 x14 x15 x16 h5 hm w

end Go.Proofs.Ytikkmdbaekdolaa
