/- the reference's: Mark. -/
import Derived.Test.YtikkmdbaekdolaaCtrl5
import Derived.Deep.RegionHeld3
namespace Go.Proofs.Ytikkmdbaekdolaa
open Go.RowKit Go.Lib
set_option linter.unusedVariables false
set_option maxRecDepth 100000

set_option maxHeartbeats 2000000 in
theorem qMarkNo (x0 x1 x2 x3 x4 x5 x6 x7 x8 x9 x10 x11 x12 x13 x14 x15 x16 c t a p e k f E C q nx : Int) (h5 : W64 x5) (hm : (confI x0 x1 x2 x3 x4 x5 x6 x7 x8 x9 x10 x11 x12 x13 x14 x15 x16 == 0) = false) (hC : W64 C) (hq : W64 q) (w : World) :
    Calls Try.prog 20 #[.agg #[.int .i64 x0, .int .u64 x1, .int .i64 x2, .int .u64 x3, .int .i64 x4, .int .u64 x5, .int .u64 x6, .int .u64 x7, .int .u64 x8, .int .i64 x9, .int .u64 x10, .int .u64 x11, .int .u64 x12, .int .u64 x13, .int .u64 x14, .int .i64 x15, .int .u64 x16], .agg #[.int .u64 c, .int .u64 t, .int .u64 a, .int .u64 p, .int .u64 e, .int .u64 k, .int .u64 f, .int .u64 E, .int .u64 C], .int .u64 q, .int .u64 nx] w fun e' w' => e' = .returned (.tuple #[.agg #[.int .u64 c, .int .u64 t, .int .u64 a, .int .u64 p, .int .u64 e, .int .u64 k, .int .u64 f, .int .u64 E, .int .u64 C], .bool false]) ∧ Gr w w' := by
  obtain ⟨N, hN⟩ : ∃ N, confI x0 x1 x2 x3 x4 x5 x6 x7 x8 x9 x10 x11 x12 x13 x14 x15 x16 = N := ⟨_, rfl⟩
  have hN0 : (N == 0) = false := by rw [← hN]; exact hm
  have hN1 : (N != 0) = true := by rw [bne, hN0]; rfl
  have HM := Lib.hid hN
  have H5 := Lib.hid h5
  clear hm h5 hN
  have HC := Lib.hid hC
  have Hq := Lib.hid hq
  clear hC hq
  go_enter Try.func20, Try.ntmps20
  go_wp2_with fail
  refine (qBegin E C q nx Hq.out HC.out _).mono ?_; rintro e' w1 ⟨rfl, n1, os1, rfl⟩
  go_wp2_with (refine wpList_load_all (by rfl) 24 _ rfl _ rfl _ _ _ _ (by repeat (first | (with_reducible refine heap_newS _ _ _ ?_; simp; done) | with_reducible apply heap_gwS | with_reducible apply heap_drewNS | with_reducible apply heap_drewS | with_reducible apply heap_allocS)) Try.underlying24 rfl (by kernel_rfl) ?_)
  refine (rCheck x0 x1 x2 x3 x4 x5 x6 x7 x8 x9 x10 x11 x12 x13 x14 x15 x16 H5.out _).mono ?_; rintro e' w1 ⟨rfl, n2', os2, rfl⟩
  rw [HM.out]
  go_wp2_with fail
  refine bodyPost_ret (v := .tuple #[.agg #[.int .u64 c, .int .u64 t, .int .u64 a, .int .u64 p, .int .u64 e, .int .u64 k, .int .u64 f, .int .u64 E, .int .u64 C], .bool false]) (by simp [results, Try.results20, go_sem]) rfl ⟨rfl, ?_⟩
  repeat (first | exact Gr.refl _ | apply Gr.drewN | apply Gr.drew | apply Gr.gw | apply Gr.alloc)

set_option maxHeartbeats 2000000 in
theorem qMarkStale (x0 x1 x2 x3 x4 x5 x6 x7 x8 x9 x10 x11 x12 x13 x14 x15 x16 c t a p e k f E C q nx : Int) (h5 : W64 x5) (hm : (confI x0 x1 x2 x3 x4 x5 x6 x7 x8 x9 x10 x11 x12 x13 x14 x15 x16 == 0) = true) (hC : W64 C) (hq : W64 q) (hE : q < E) (w : World) :
    Calls Try.prog 20 #[.agg #[.int .i64 x0, .int .u64 x1, .int .i64 x2, .int .u64 x3, .int .i64 x4, .int .u64 x5, .int .u64 x6, .int .u64 x7, .int .u64 x8, .int .i64 x9, .int .u64 x10, .int .u64 x11, .int .u64 x12, .int .u64 x13, .int .u64 x14, .int .i64 x15, .int .u64 x16], .agg #[.int .u64 c, .int .u64 t, .int .u64 a, .int .u64 p, .int .u64 e, .int .u64 k, .int .u64 f, .int .u64 E, .int .u64 C], .int .u64 q, .int .u64 nx] w fun e' w' => e' = .returned (.tuple #[.agg #[.int .u64 c, .int .u64 t, .int .u64 a, .int .u64 p, .int .u64 e, .int .u64 k, .int .u64 f, .int .u64 E, .int .u64 C], .bool false]) ∧ Gr w w' := by
  have HE := Lib.hid (decide_eq_false (show ¬ E ≤ q by omega))
  have HM := Lib.hid (eq_of_beq hm)
  have H5 := Lib.hid h5
  clear hm h5
  have HC := Lib.hid hC
  have Hq := Lib.hid hq
  clear hC hq
  clear hE
  go_enter Try.func20, Try.ntmps20
  go_wp2_with fail
  refine (qBegin E C q nx Hq.out HC.out _).mono ?_; rintro e' w1 ⟨rfl, n1, os1, rfl⟩
  rw [HE.out]
  go_wp2_with (refine wpList_load_all (by rfl) 24 _ rfl _ rfl _ _ _ _ (by repeat (first | (with_reducible refine heap_newS _ _ _ ?_; simp; done) | with_reducible apply heap_gwS | with_reducible apply heap_drewNS | with_reducible apply heap_drewS | with_reducible apply heap_allocS)) Try.underlying24 rfl (by kernel_rfl) ?_)
  refine (rCheck x0 x1 x2 x3 x4 x5 x6 x7 x8 x9 x10 x11 x12 x13 x14 x15 x16 H5.out _).mono ?_; rintro e' w1 ⟨rfl, n2', os2, rfl⟩
  rw [HM.out]
  go_wp2_with fail
  refine bodyPost_ret (v := .tuple #[.agg #[.int .u64 c, .int .u64 t, .int .u64 a, .int .u64 p, .int .u64 e, .int .u64 k, .int .u64 f, .int .u64 E, .int .u64 C], .bool false]) (by simp [results, Try.results20, go_sem]) rfl ⟨rfl, ?_⟩
  repeat (first | exact Gr.refl _ | apply Gr.drewN | apply Gr.drew | apply Gr.gw | apply Gr.alloc)

set_option maxHeartbeats 4000000 in
theorem qMarkYes (x0 x1 x2 x3 x4 x5 x6 x7 x8 x9 x10 x11 x12 x13 x14 x15 x16 c t a p e k f E C q nx U V : Int) (R : W9) (hR : cutW x9 x7 x8 16 20 17 20 ⟨c, t, a, p, e, k, f, E, C⟩ = R) (hU : rndE E q nx = U) (hV : rndC E C q = V) (h5 : W64 x5) (hm : (confI x0 x1 x2 x3 x4 x5 x6 x7 x8 x9 x10 x11 x12 x13 x14 x15 x16 == 0) = true) (hc : W64 c) (hC : W64 C) (hq : W64 q) (hE : E ≤ q) (w : World) :
    Calls Try.prog 20 #[.agg #[.int .i64 x0, .int .u64 x1, .int .i64 x2, .int .u64 x3, .int .i64 x4, .int .u64 x5, .int .u64 x6, .int .u64 x7, .int .u64 x8, .int .i64 x9, .int .u64 x10, .int .u64 x11, .int .u64 x12, .int .u64 x13, .int .u64 x14, .int .i64 x15, .int .u64 x16], .agg #[.int .u64 c, .int .u64 t, .int .u64 a, .int .u64 p, .int .u64 e, .int .u64 k, .int .u64 f, .int .u64 E, .int .u64 C], .int .u64 q, .int .u64 nx] w fun e' w' => e' = .returned (.tuple #[.agg #[.int .u64 R.c, .int .u64 R.t, .int .u64 R.a, .int .u64 R.p, .int .u64 R.e, .int .u64 R.k, .int .u64 R.f, .int .u64 U, .int .u64 V], .bool true]) ∧ Gr w w' := by
  have HA := Lib.hid (may_al x0 x1 x2 x3 x4 x5 x6 x7 x8 x9 x10 x11 x12 x13 x14 x15 x16 hm)
  have HE := Lib.hid (decide_eq_true hE)
  have HR := Lib.hid hR
  have HU := Lib.hid hU
  have HV := Lib.hid hV
  have HM := Lib.hid (eq_of_beq hm)
  have H5 := Lib.hid h5
  clear hm h5
  have Hc := Lib.hid hc
  have HC := Lib.hid hC
  have Hq := Lib.hid hq
  clear hc hC hq
  clear hE hR hU hV
  go_enter Try.func20, Try.ntmps20
  go_wp2_with fail
  refine (qBegin E C q nx Hq.out HC.out _).mono ?_; rintro e' w1 ⟨rfl, n1, os1, rfl⟩
  rw [HE.out, HU.out, HV.out]
  go_wp2_with (refine wpList_load_all (by rfl) 24 _ rfl _ rfl _ _ _ _ (by repeat (first | (with_reducible refine heap_newS _ _ _ ?_; simp; done) | with_reducible apply heap_gwS | with_reducible apply heap_drewNS | with_reducible apply heap_drewS | with_reducible apply heap_allocS)) Try.underlying24 rfl (by kernel_rfl) ?_)
  refine (rCheck x0 x1 x2 x3 x4 x5 x6 x7 x8 x9 x10 x11 x12 x13 x14 x15 x16 H5.out _).mono ?_; rintro e' w1 ⟨rfl, n2', os2, rfl⟩
  rw [HM.out]
  go_wp2_with fail
  go_region_held3 (fun W => W.cell? ⟨w.heap.size, 0, none⟩ = some (.int .i64 x0) ∧ W.cell? ⟨w.heap.size, 1, none⟩ = some (.int .u64 x1) ∧ W.cell? ⟨w.heap.size, 2, none⟩ = some (.int .i64 x2) ∧ W.cell? ⟨w.heap.size, 3, none⟩ = some (.int .u64 x3) ∧ W.cell? ⟨w.heap.size, 4, none⟩ = some (.int .i64 x4) ∧ W.cell? ⟨w.heap.size, 5, none⟩ = some (.int .u64 x5) ∧ W.cell? ⟨w.heap.size, 6, none⟩ = some (.int .u64 x6) ∧ W.cell? ⟨w.heap.size, 7, none⟩ = some (.int .u64 x7) ∧ W.cell? ⟨w.heap.size, 8, none⟩ = some (.int .u64 x8) ∧ W.cell? ⟨w.heap.size, 9, none⟩ = some (.int .i64 x9) ∧ W.cell? ⟨w.heap.size, 10, none⟩ = some (.int .u64 x10) ∧ W.cell? ⟨w.heap.size, 11, none⟩ = some (.int .u64 x11) ∧ W.cell? ⟨w.heap.size, 12, none⟩ = some (.int .u64 x12) ∧ W.cell? ⟨w.heap.size, 13, none⟩ = some (.int .u64 x13) ∧ W.cell? ⟨w.heap.size, 14, none⟩ = some (.int .u64 x14) ∧ W.cell? ⟨w.heap.size, 15, none⟩ = some (.int .i64 x15) ∧ W.cell? ⟨w.heap.size, 16, none⟩ = some (.int .u64 x16) ∧ W.cell? ⟨w.heap.size + 1, 0, none⟩ = some (.int .u64 c) ∧ W.cell? ⟨w.heap.size + 1, 1, none⟩ = some (.int .u64 t) ∧ W.cell? ⟨w.heap.size + 1, 2, none⟩ = some (.int .u64 a) ∧ W.cell? ⟨w.heap.size + 1, 3, none⟩ = some (.int .u64 p) ∧ W.cell? ⟨w.heap.size + 1, 4, none⟩ = some (.int .u64 e) ∧ W.cell? ⟨w.heap.size + 1, 5, none⟩ = some (.int .u64 k) ∧ W.cell? ⟨w.heap.size + 1, 6, none⟩ = some (.int .u64 f) ∧ W.cell? ⟨w.heap.size + 3 + os1.size, 0, none⟩ = some (.int .u64 U) ∧ W.cell? ⟨w.heap.size + 3 + os1.size, 1, none⟩ = some (.int .u64 V)) (first | go_simp | go_keep) (((with_reducible refine (qtCut x0 x1 x2 x3 x4 x5 x6 x7 x8 x9 x10 x11 x12 x13 x14 x15 x16 c t a p e k f E C 16 17 R HR.out HA.out Hc.out (Wlit (by omega)) (Wlit (by omega)) _).mono ?_); rintro e' w' ⟨rfl, nA, osA, rfl⟩))
  go_wp2_with fail
  refine bodyPost_ret (v := .tuple #[.agg #[.int .u64 R.c, .int .u64 R.t, .int .u64 R.a, .int .u64 R.p, .int .u64 R.e, .int .u64 R.k, .int .u64 R.f, .int .u64 U, .int .u64 V], .bool true]) (by simp [results, Try.results20, go_sem]) rfl ⟨rfl, ?_⟩
  repeat (first | exact Gr.refl _ | apply Gr.drewN | apply Gr.drew | apply Gr.gw | apply Gr.alloc)

theorem qMark (x0 x1 x2 x3 x4 x5 x6 x7 x8 x9 x10 x11 x12 x13 x14 x15 x16 c t a p e k f E C q nx : Int) (R : W9) (b m : Bool) (hm : (confI x0 x1 x2 x3 x4 x5 x6 x7 x8 x9 x10 x11 x12 x13 x14 x15 x16 == 0) = m) (hR : begW m x9 x7 x8 16 20 17 20 q nx ⟨c, t, a, p, e, k, f, E, C⟩ = R) (hb : begO m q ⟨c, t, a, p, e, k, f, E, C⟩ = b) (h5 : W64 x5) (hc : W64 c) (hC : W64 C) (hq : W64 q) (w : World) :
    Calls Try.prog 20 #[.agg #[.int .i64 x0, .int .u64 x1, .int .i64 x2, .int .u64 x3, .int .i64 x4, .int .u64 x5, .int .u64 x6, .int .u64 x7, .int .u64 x8, .int .i64 x9, .int .u64 x10, .int .u64 x11, .int .u64 x12, .int .u64 x13, .int .u64 x14, .int .i64 x15, .int .u64 x16], .agg #[.int .u64 c, .int .u64 t, .int .u64 a, .int .u64 p, .int .u64 e, .int .u64 k, .int .u64 f, .int .u64 E, .int .u64 C], .int .u64 q, .int .u64 nx] w fun e' w' => e' = .returned (.tuple #[.agg #[.int .u64 R.c, .int .u64 R.t, .int .u64 R.a, .int .u64 R.p, .int .u64 R.e, .int .u64 R.k, .int .u64 R.f, .int .u64 R.E, .int .u64 R.C], .bool b]) ∧ Gr w w' := by
  subst hR hb
  cases m
  · exact qMarkNo x0 x1 x2 x3 x4 x5 x6 x7 x8 x9 x10 x11 x12 x13 x14 x15 x16 c t a p e k f E C q nx h5 hm hC hq w
  · by_cases hE : E ≤ q
    · have e1 : begW true x9 x7 x8 16 20 17 20 q nx ⟨c, t, a, p, e, k, f, E, C⟩ = rndW q nx ⟨c, t, a, p, e, k, f, E, C⟩ (cutW x9 x7 x8 16 20 17 20 ⟨c, t, a, p, e, k, f, E, C⟩) := if_pos hE
      have e2 : begO true q ⟨c, t, a, p, e, k, f, E, C⟩ = true := decide_eq_true hE
      rw [e1, e2]
      exact qMarkYes x0 x1 x2 x3 x4 x5 x6 x7 x8 x9 x10 x11 x12 x13 x14 x15 x16 c t a p e k f E C q nx _ _ _ rfl rfl rfl h5 hm hc hC hq hE w
    · have e1 : begW true x9 x7 x8 16 20 17 20 q nx ⟨c, t, a, p, e, k, f, E, C⟩ = ⟨c, t, a, p, e, k, f, E, C⟩ := if_neg hE
      have e2 : begO true q ⟨c, t, a, p, e, k, f, E, C⟩ = false := decide_eq_false hE
      rw [e1, e2]
      exact qMarkStale x0 x1 x2 x3 x4 x5 x6 x7 x8 x9 x10 x11 x12 x13 x14 x15 x16 c t a p e k f E C q nx h5 hm hC hq (by omega) w

end Go.Proofs.Ytikkmdbaekdolaa
