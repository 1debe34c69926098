/- package control: cut, begun, Loss, Mark. -/
import Derived.Test.YtikkmdbaekdolaaCtrl
import Derived.Test.YtikkmdbaekdolaaCtrlP
import Derived.Test.YtikkmdbaekdolaaConf
import Derived.Deep.RegionHeld3
namespace Go.Proofs.Ytikkmdbaekdolaa
open Go.RowKit Go.Lib
set_option linter.unusedVariables false
set_option maxRecDepth 100000

theorem may_al (x0 x1 x2 x3 x4 x5 x6 x7 x8 x9 x10 x11 x12 x13 x14 x15 x16 : Int) (h : (confI x0 x1 x2 x3 x4 x5 x6 x7 x8 x9 x10 x11 x12 x13 x14 x15 x16 == 0) = true) : x9 = 1 ∨ x9 = 2 := by
  have h := eq_of_beq h
  unfold confI winI at h
  repeat' split at h
  all_goals omega

theorem ctCut (x0 x1 x2 x3 x4 x5 x6 x7 x8 x9 x10 x11 x12 x13 x14 x15 x16 c t a p e k f E C n d n2 d2 : Int) (R : W9) (hR : cutW x9 x7 x8 n d n2 d2 ⟨c, t, a, p, e, k, f, E, C⟩ = R) (hal : x9 = 1 ∨ x9 = 2) (hc : W64 c) (hn : W64 n) (hd : W64 d) (hn2 : W64 n2) (hd2 : W64 d2) (w : World) :
    Calls Try.prog 63 #[.agg #[.int .i64 x0, .int .u64 x1, .int .i64 x2, .int .u64 x3, .int .i64 x4, .int .u64 x5, .int .u64 x6, .int .u64 x7, .int .u64 x8, .int .i64 x9, .int .u64 x10, .int .u64 x11, .int .u64 x12, .int .u64 x13, .int .u64 x14, .int .i64 x15, .int .u64 x16], .agg #[.int .u64 c, .int .u64 t, .int .u64 a, .int .u64 p, .int .u64 e, .int .u64 k, .int .u64 f], .int .u64 n, .int .u64 d, .int .u64 n2, .int .u64 d2] w fun e' w' => e' = .returned (.agg #[.int .u64 R.c, .int .u64 R.t, .int .u64 R.a, .int .u64 R.p, .int .u64 R.e, .int .u64 R.k, .int .u64 R.f]) ∧ Gr w w' := by
  subst hR
  rcases hal with rfl | rfl
  · rw [show cutW 1 x7 x8 n d n2 d2 ⟨c, t, a, p, e, k, f, E, C⟩ = cut1 x7 x8 n d ⟨c, t, a, p, e, k, f, E, C⟩ from if_neg (by decide)]
    exact ctCut1 x0 x1 x2 x3 x4 x5 x6 x7 x8 x10 x11 x12 x13 x14 x15 x16 c t a p e k f n d n2 d2 hc hn hd hn2 hd2 w
  · rw [show cutW 2 x7 x8 n d n2 d2 ⟨c, t, a, p, e, k, f, E, C⟩ = cut2 x7 x8 n2 d2 ⟨c, t, a, p, e, k, f, E, C⟩ from if_pos rfl]
    exact ctCut2 x0 x1 x2 x3 x4 x5 x6 x7 x8 x10 x11 x12 x13 x14 x15 x16 c t a p e k f n d n2 d2 hc hn hd hn2 hd2 w

set_option maxHeartbeats 2000000 in
theorem begunNo (x0 x1 x2 x3 x4 x5 x6 x7 x8 x9 x10 x11 x12 x13 x14 x15 x16 c t a p e k f E C q nx n d n2 d2 : Int) (hm : (confI x0 x1 x2 x3 x4 x5 x6 x7 x8 x9 x10 x11 x12 x13 x14 x15 x16 == 0) = false) (w : World) :
    Calls Try.prog 58 #[.agg #[.int .i64 x0, .int .u64 x1, .int .i64 x2, .int .u64 x3, .int .i64 x4, .int .u64 x5, .int .u64 x6, .int .u64 x7, .int .u64 x8, .int .i64 x9, .int .u64 x10, .int .u64 x11, .int .u64 x12, .int .u64 x13, .int .u64 x14, .int .i64 x15, .int .u64 x16], .agg #[.int .u64 c, .int .u64 t, .int .u64 a, .int .u64 p, .int .u64 e, .int .u64 k, .int .u64 f, .int .u64 E, .int .u64 C], .int .u64 q, .int .u64 nx, .int .u64 n, .int .u64 d, .int .u64 n2, .int .u64 d2] w fun e' w' => e' = .returned (.tuple #[.agg #[.int .u64 c, .int .u64 t, .int .u64 a, .int .u64 p, .int .u64 e, .int .u64 k, .int .u64 f, .int .u64 E, .int .u64 C], .bool false]) ∧ Gr w w' := by
  have HM := Lib.hid hm
  clear hm
  go_enter Try.func58, Try.ntmps58
  go_wp2_with (refine wpList_load_all (by rfl) 24 _ rfl _ rfl _ _ _ _ (by repeat (first | (with_reducible refine heap_newS _ _ _ ?_; simp; done) | with_reducible apply heap_gwS | with_reducible apply heap_drewNS | with_reducible apply heap_drewS | with_reducible apply heap_allocS)) Try.underlying24 rfl (by kernel_rfl) ?_)
  refine (cMay x0 x1 x2 x3 x4 x5 x6 x7 x8 x9 x10 x11 x12 x13 x14 x15 x16 _).mono ?_; rintro e' w1 ⟨rfl, n1, os1, rfl⟩
  rw [HM.out]
  go_wp2_with fail
  refine bodyPost_ret (v := .tuple #[.agg #[.int .u64 c, .int .u64 t, .int .u64 a, .int .u64 p, .int .u64 e, .int .u64 k, .int .u64 f, .int .u64 E, .int .u64 C], .bool false]) (by simp [results, Try.results58, go_sem]) rfl ⟨rfl, ?_⟩
  repeat (first | exact Gr.refl _ | apply Gr.drewN | apply Gr.drew | apply Gr.gw | apply Gr.alloc)

set_option maxHeartbeats 2000000 in
theorem begunStale (x0 x1 x2 x3 x4 x5 x6 x7 x8 x9 x10 x11 x12 x13 x14 x15 x16 c t a p e k f E C q nx n d n2 d2 : Int) (hm : (confI x0 x1 x2 x3 x4 x5 x6 x7 x8 x9 x10 x11 x12 x13 x14 x15 x16 == 0) = true) (hC : W64 C) (hq : W64 q) (hE : q < E) (w : World) :
    Calls Try.prog 58 #[.agg #[.int .i64 x0, .int .u64 x1, .int .i64 x2, .int .u64 x3, .int .i64 x4, .int .u64 x5, .int .u64 x6, .int .u64 x7, .int .u64 x8, .int .i64 x9, .int .u64 x10, .int .u64 x11, .int .u64 x12, .int .u64 x13, .int .u64 x14, .int .i64 x15, .int .u64 x16], .agg #[.int .u64 c, .int .u64 t, .int .u64 a, .int .u64 p, .int .u64 e, .int .u64 k, .int .u64 f, .int .u64 E, .int .u64 C], .int .u64 q, .int .u64 nx, .int .u64 n, .int .u64 d, .int .u64 n2, .int .u64 d2] w fun e' w' => e' = .returned (.tuple #[.agg #[.int .u64 c, .int .u64 t, .int .u64 a, .int .u64 p, .int .u64 e, .int .u64 k, .int .u64 f, .int .u64 E, .int .u64 C], .bool false]) ∧ Gr w w' := by
  have HM := Lib.hid hm
  have HE := Lib.hid (decide_eq_false (show ¬ E ≤ q by omega))
  have HC := Lib.hid hC
  have Hq := Lib.hid hq
  clear hC hq
  clear hm hE
  go_enter Try.func58, Try.ntmps58
  go_wp2_with (refine wpList_load_all (by rfl) 24 _ rfl _ rfl _ _ _ _ (by repeat (first | (with_reducible refine heap_newS _ _ _ ?_; simp; done) | with_reducible apply heap_gwS | with_reducible apply heap_drewNS | with_reducible apply heap_drewS | with_reducible apply heap_allocS)) Try.underlying24 rfl (by kernel_rfl) ?_)
  refine (cMay x0 x1 x2 x3 x4 x5 x6 x7 x8 x9 x10 x11 x12 x13 x14 x15 x16 _).mono ?_; rintro e' w1 ⟨rfl, n1, os1, rfl⟩
  rw [HM.out]
  go_wp2_with fail
  refine (nBegin E C q nx Hq.out HC.out _).mono ?_; rintro e' w1 ⟨rfl, n2', os2, rfl⟩
  rw [HE.out]
  go_wp2_with fail
  refine bodyPost_ret (v := .tuple #[.agg #[.int .u64 c, .int .u64 t, .int .u64 a, .int .u64 p, .int .u64 e, .int .u64 k, .int .u64 f, .int .u64 E, .int .u64 C], .bool false]) (by simp [results, Try.results58, go_sem]) rfl ⟨rfl, ?_⟩
  repeat (first | exact Gr.refl _ | apply Gr.drewN | apply Gr.drew | apply Gr.gw | apply Gr.alloc)

set_option maxHeartbeats 4000000 in
theorem begunYes (x0 x1 x2 x3 x4 x5 x6 x7 x8 x9 x10 x11 x12 x13 x14 x15 x16 c t a p e k f E C q nx n d n2 d2 U V : Int) (R : W9) (hR : cutW x9 x7 x8 n d n2 d2 ⟨c, t, a, p, e, k, f, E, C⟩ = R) (hU : rndE E q nx = U) (hV : rndC E C q = V) (hm : (confI x0 x1 x2 x3 x4 x5 x6 x7 x8 x9 x10 x11 x12 x13 x14 x15 x16 == 0) = true) (hc : W64 c) (hC : W64 C) (hq : W64 q) (hn : W64 n) (hd : W64 d) (hn2 : W64 n2) (hd2 : W64 d2) (hE : E ≤ q) (w : World) :
    Calls Try.prog 58 #[.agg #[.int .i64 x0, .int .u64 x1, .int .i64 x2, .int .u64 x3, .int .i64 x4, .int .u64 x5, .int .u64 x6, .int .u64 x7, .int .u64 x8, .int .i64 x9, .int .u64 x10, .int .u64 x11, .int .u64 x12, .int .u64 x13, .int .u64 x14, .int .i64 x15, .int .u64 x16], .agg #[.int .u64 c, .int .u64 t, .int .u64 a, .int .u64 p, .int .u64 e, .int .u64 k, .int .u64 f, .int .u64 E, .int .u64 C], .int .u64 q, .int .u64 nx, .int .u64 n, .int .u64 d, .int .u64 n2, .int .u64 d2] w fun e' w' => e' = .returned (.tuple #[.agg #[.int .u64 R.c, .int .u64 R.t, .int .u64 R.a, .int .u64 R.p, .int .u64 R.e, .int .u64 R.k, .int .u64 R.f, .int .u64 U, .int .u64 V], .bool true]) ∧ Gr w w' := by
  have HA := Lib.hid (may_al x0 x1 x2 x3 x4 x5 x6 x7 x8 x9 x10 x11 x12 x13 x14 x15 x16 hm)
  have HM := Lib.hid hm
  have HE := Lib.hid (decide_eq_true hE)
  have HR := Lib.hid hR
  have HU := Lib.hid hU
  have HV := Lib.hid hV
  have Hc := Lib.hid hc
  have HC := Lib.hid hC
  have Hq := Lib.hid hq
  have Hn := Lib.hid hn
  have Hd := Lib.hid hd
  have Hn2 := Lib.hid hn2
  have Hd2 := Lib.hid hd2
  clear hc hC hq hn hd hn2 hd2
  clear hm hE hR hU hV
  go_enter Try.func58, Try.ntmps58
  go_wp2_with (refine wpList_load_all (by rfl) 24 _ rfl _ rfl _ _ _ _ (by repeat (first | (with_reducible refine heap_newS _ _ _ ?_; simp; done) | with_reducible apply heap_gwS | with_reducible apply heap_drewNS | with_reducible apply heap_drewS | with_reducible apply heap_allocS)) Try.underlying24 rfl (by kernel_rfl) ?_)
  refine (cMay x0 x1 x2 x3 x4 x5 x6 x7 x8 x9 x10 x11 x12 x13 x14 x15 x16 _).mono ?_; rintro e' w1 ⟨rfl, n1, os1, rfl⟩
  rw [HM.out]
  go_wp2_with fail
  refine (nBegin E C q nx Hq.out HC.out _).mono ?_; rintro e' w1 ⟨rfl, n2', os2, rfl⟩
  rw [HE.out, HU.out, HV.out]
  go_wp2_with fail
  go_region_held3 (fun W => W.cell? ⟨w.heap.size, 0, none⟩ = some (.int .i64 x0) ∧ W.cell? ⟨w.heap.size, 1, none⟩ = some (.int .u64 x1) ∧ W.cell? ⟨w.heap.size, 2, none⟩ = some (.int .i64 x2) ∧ W.cell? ⟨w.heap.size, 3, none⟩ = some (.int .u64 x3) ∧ W.cell? ⟨w.heap.size, 4, none⟩ = some (.int .i64 x4) ∧ W.cell? ⟨w.heap.size, 5, none⟩ = some (.int .u64 x5) ∧ W.cell? ⟨w.heap.size, 6, none⟩ = some (.int .u64 x6) ∧ W.cell? ⟨w.heap.size, 7, none⟩ = some (.int .u64 x7) ∧ W.cell? ⟨w.heap.size, 8, none⟩ = some (.int .u64 x8) ∧ W.cell? ⟨w.heap.size, 9, none⟩ = some (.int .i64 x9) ∧ W.cell? ⟨w.heap.size, 10, none⟩ = some (.int .u64 x10) ∧ W.cell? ⟨w.heap.size, 11, none⟩ = some (.int .u64 x11) ∧ W.cell? ⟨w.heap.size, 12, none⟩ = some (.int .u64 x12) ∧ W.cell? ⟨w.heap.size, 13, none⟩ = some (.int .u64 x13) ∧ W.cell? ⟨w.heap.size, 14, none⟩ = some (.int .u64 x14) ∧ W.cell? ⟨w.heap.size, 15, none⟩ = some (.int .i64 x15) ∧ W.cell? ⟨w.heap.size, 16, none⟩ = some (.int .u64 x16) ∧ W.cell? ⟨w.heap.size + 1, 0, none⟩ = some (.int .u64 c) ∧ W.cell? ⟨w.heap.size + 1, 1, none⟩ = some (.int .u64 t) ∧ W.cell? ⟨w.heap.size + 1, 2, none⟩ = some (.int .u64 a) ∧ W.cell? ⟨w.heap.size + 1, 3, none⟩ = some (.int .u64 p) ∧ W.cell? ⟨w.heap.size + 1, 4, none⟩ = some (.int .u64 e) ∧ W.cell? ⟨w.heap.size + 1, 5, none⟩ = some (.int .u64 k) ∧ W.cell? ⟨w.heap.size + 1, 6, none⟩ = some (.int .u64 f) ∧ W.cell? ⟨w.heap.size + 3 + os1.size + os2.size, 0, none⟩ = some (.int .u64 U) ∧ W.cell? ⟨w.heap.size + 3 + os1.size + os2.size, 1, none⟩ = some (.int .u64 V)) (first | go_simp | go_keep) (((with_reducible refine (ctCut x0 x1 x2 x3 x4 x5 x6 x7 x8 x9 x10 x11 x12 x13 x14 x15 x16 c t a p e k f E C n d n2 d2 R HR.out HA.out Hc.out Hn.out Hd.out Hn2.out Hd2.out _).mono ?_); rintro e' w' ⟨rfl, nA, osA, rfl⟩))
  go_wp2_with fail
  refine bodyPost_ret (v := .tuple #[.agg #[.int .u64 R.c, .int .u64 R.t, .int .u64 R.a, .int .u64 R.p, .int .u64 R.e, .int .u64 R.k, .int .u64 R.f, .int .u64 U, .int .u64 V], .bool true]) (by simp [results, Try.results58, go_sem]) rfl ⟨rfl, ?_⟩
  repeat (first | exact Gr.refl _ | apply Gr.drewN | apply Gr.drew | apply Gr.gw | apply Gr.alloc)

end Go.Proofs.Ytikkmdbaekdolaa
