/- configurations that are made of any numbers: what splittallylaw0.Conf returns. -/
import Derived.Test.YtikkmdbaekdolaaAt0
import Derived.Test.YtikkmdbaekdolaaConfLaw
import Derived.Test.YtikkmdbaekdolaaTurn
import Derived.StillTailTactics
namespace Go.Proofs.Ytikkmdbaekdolaa
open Go.RowKit Go.Lib
set_option linter.unusedVariables false
set_option maxRecDepth 100000

theorem wu {x : Int} (h : 0 ≤ x ∧ x ≤ 18446744073709551615) : IntKind.u64.wrap x = x := by rw [IntKind.wrap_u64]; omega
theorem wi {x : Int} (h : 0 ≤ x ∧ x ≤ 9223372036854775807) : IntKind.i64.wrap x = x := by rw [IntKind.wrap_i64]; omega

theorem heap_top5 (w : World) (old : Array Value) (t : TypeId) (A : Obj) : ((w.alloc A).alloc (.cells old t (0, 0))).drew.drew.drew.drew.drew.heap[w.heap.size + 1]? = some (.cells old t (0, 0)) := by
  show ((w.heap.push A).push (Obj.cells old t (0, 0)))[w.heap.size + 1]? = _
  rw [Array.getElem?_push, if_pos (by simp)]
theorem heap_mid (w : World) (old : Array Value) (t : TypeId) (B : Obj) : ((w.alloc (.cells old t (0, 0))).alloc B).heap[w.heap.size]? = some (.cells old t (0, 0)) := by
  show ((w.heap.push (Obj.cells old t (0, 0))).push B)[w.heap.size]? = _
  rw [Array.getElem?_push, if_neg (by simp), Array.getElem?_push, if_pos rfl]
theorem heap_mid5 (w : World) (old : Array Value) (t : TypeId) (B : Obj) : ((w.alloc (.cells old t (0, 0))).alloc B).drew.drew.drew.drew.drew.heap[w.heap.size]? = some (.cells old t (0, 0)) := heap_mid w old t B
theorem heap_mod (h : Array Obj) (old new : Array Value) (t : TypeId) (B : Obj) : (((h.push (Obj.cells old t (0, 0))).push B).modify h.size fun
      | .cells _ elem frozen => .cells new elem frozen
      | o => o) = (h.push (Obj.cells new t (0, 0))).push B := by
  apply Array.ext_getElem?
  intro i
  rw [Array.getElem?_modify]
  simp only [Array.getElem?_push, Array.size_push]
  by_cases e : h.size = i
  · subst e
    simp
  · have e2 : ¬ i = h.size := fun x => e x.symm
    simp [e, e2]
theorem setRow_mid (w : World) (old new : Array Value) (t : TypeId) (B : Obj) : ((w.alloc (.cells old t (0, 0))).alloc B).setRow w.heap.size new = (w.alloc (.cells new t (0, 0))).alloc B :=
  congrArg (fun x => ({ w with heap := x } : World)) (heap_mod w.heap old new t B)
theorem setRow_mid5 (w : World) (old new : Array Value) (t : TypeId) (B : Obj) : ((w.alloc (.cells old t (0, 0))).alloc B).drew.drew.drew.drew.drew.setRow w.heap.size new = ((w.alloc (.cells new t (0, 0))).alloc B).drew.drew.drew.drew.drew :=
  congrArg (fun x : World => x.drew.drew.drew.drew.drew) (setRow_mid w old new t B)

set_option maxHeartbeats 4000000 in
theorem confWTTT (a : Option Addr) (len cap : Nat) (z : Nat → Int) (w : World) (h : Nums w a len z) (d d4 d5 d7 m0 m1 m10 m11 m12 m13 m14 m15 m16 m2 m3 m4 m5 m6 m7 m8 m9 r4 r5 v0 v1 v10 v11 v12 v13 v14 v16 v2 v3 v4 v5 v6 v7 v8 v9 : Int) (t0 : (atF len z 0).tmod 40 = m0) (t1 : (atF len z 1).tmod 50 = m1) (t2 : (atF len z 2).tmod 100 = m2) (t3 : (atF len z 3).tmod 400 = m3) (t4 : (atF len z 4).tmod 4 = m4) (t5 : (atF len z 5).tmod 4 = m5) (t6 : (atF len z 6).tmod 40 = m6) (t7 : (atF len z 7).tmod 4 = m7) (t8 : (atF len z 8).tmod 300 = m8) (t9 : (atF len z 9).tmod 2 = m9) (t10 : (atF len z 10).tmod 200000 = m10) (t11 : (atF len z 11).tmod 2000 = m11) (t12 : (atF len z 12).tmod 400000 = m12) (t13 : (atF len z 13).tmod 400 = m13) (t14 : (atF len z 14).tmod 100000 = m14) (t15 : (atF len z 15).tmod 5 = m15) (t16 : (atF len z 16).tmod 100000 = m16) (s5 : IntKind.u64.wrap (1 + m0) = v5) (s7a : IntKind.u64.wrap (2 * v5) = d) (s7 : IntKind.u64.wrap (d + m1) = v7) (s6 : IntKind.u64.wrap (v7 + m2) = v6) (s8 : IntKind.u64.wrap (v6 + m3) = v8) (q4a : (atF len z 4).tdiv 4 = d4) (q4b : IntKind.u64.wrap (d4) = d4) (q4 : d4.tmod 64 = r4) (s0a : IntKind.i64.wrap (r4) = r4) (s0 : IntKind.i64.wrap (1 + r4) = v0) (q5a : (atF len z 5).tdiv 4 = d5) (q5b : IntKind.u64.wrap (d5) = d5) (q5 : d5.tmod 30 = r5) (s1 : IntKind.u64.wrap (2 + r5) = v1) (q7a : (atF len z 7).tdiv 4 = d7) (q7b : IntKind.u64.wrap (d7) = d7) (q7 : d7.tmod 60 = v3) (s2a : IntKind.i64.wrap (m6) = m6) (s2 : IntKind.i64.wrap (4 + m6) = v2) (s4a : IntKind.i64.wrap (m8) = m8) (s4 : IntKind.i64.wrap (1 + m8) = v4) (s9a : IntKind.i64.wrap (m9) = m9) (s9 : IntKind.i64.wrap (1 + m9) = v9) (s10 : IntKind.u64.wrap (1 + m10) = v10) (s11 : IntKind.u64.wrap (1 + m11) = v11) (s12 : IntKind.u64.wrap (v11 + m12) = v12) (s13 : IntKind.u64.wrap (v5 + m13) = v13) (s14 : IntKind.u64.wrap (1 + m14) = v14) (s15 : IntKind.i64.wrap (m15) = m15) (s16 : IntKind.u64.wrap (1 + m16) = v16)
    (c4 : (m4 == 1) = true) (c5 : decide (0 < m5) = true) (c7 : (m7 == 1) = true) :
    Calls Try.prog 16 #[.slice a len cap] w fun e w' => e = .returned (.agg #[.int .i64 v0, .int .u64 v1, .int .i64 v2, .int .u64 v3, .int .i64 v4, .int .u64 v5, .int .u64 v6, .int .u64 v7, .int .u64 v8, .int .i64 v9, .int .u64 v10, .int .u64 v11, .int .u64 v12, .int .u64 v13, .int .u64 v14, .int .i64 m15, .int .u64 v16]) ∧ Gr w w' := by
  have HR := Lib.hid h
  clear h
  go_enter Try.func16, Try.ntmps16
  go_wp2_with fail
  refine (zAt a len cap z 0 _ rfl (by decide) _ (HR.out.below (by repeat (first | with_reducible exact Below.refl _ _ | with_reducible apply below_drewN | with_reducible apply Below.drew | with_reducible refine below_gw ?_ (by simp) _ | with_reducible refine Below.alloc ?_ (by simp) _ | with_reducible refine Below.setCell ?_ (by simp) _)))).mono ?_; rintro e' w' ⟨rfl, rfl⟩
  go_wp2_with fail
  refine regionTail 8 (by kernel_rfl) (by kernel_rfl) ?_
  simp only [List.take_succ_cons, List.take_zero, List.drop_succ_cons, List.drop_zero]
  repeat still_step
  still_call (turnS (zAt a len cap z 1 _ rfl (by decide) _ (HR.out.below (by repeat (first | with_reducible exact Below.refl _ _ | with_reducible apply below_drewN | with_reducible apply Below.drew | with_reducible refine below_gw ?_ (by simp) _ | with_reducible refine Below.alloc ?_ (by simp) _ | with_reducible refine Below.setCell ?_ (by simp) _)))))
  repeat still_step
  refine wpStill_nil ?_
  go_wp2_with fail
  refine regionTail 7 (by kernel_rfl) (by kernel_rfl) ?_
  simp only [List.take_succ_cons, List.take_zero, List.drop_succ_cons, List.drop_zero]
  repeat still_step
  still_call (turnS (zAt a len cap z 2 _ rfl (by decide) _ (HR.out.below (by repeat (first | with_reducible exact Below.refl _ _ | with_reducible apply below_drewN | with_reducible apply Below.drew | with_reducible refine below_gw ?_ (by simp) _ | with_reducible refine Below.alloc ?_ (by simp) _ | with_reducible refine Below.setCell ?_ (by simp) _)))))
  repeat still_step
  refine wpStill_nil ?_
  go_wp2_with fail
  refine regionTail 7 (by kernel_rfl) (by kernel_rfl) ?_
  simp only [List.take_succ_cons, List.take_zero, List.drop_succ_cons, List.drop_zero]
  repeat still_step
  still_call (turnS (zAt a len cap z 3 _ rfl (by decide) _ (HR.out.below (by repeat (first | with_reducible exact Below.refl _ _ | with_reducible apply below_drewN | with_reducible apply Below.drew | with_reducible refine below_gw ?_ (by simp) _ | with_reducible refine Below.alloc ?_ (by simp) _ | with_reducible refine Below.setCell ?_ (by simp) _)))))
  repeat still_step
  refine wpStill_nil ?_
  go_wp2_with fail
  refine (zAt a len cap z 4 _ rfl (by decide) _ (HR.out.below (by repeat (first | with_reducible exact Below.refl _ _ | with_reducible apply below_drewN | with_reducible apply Below.drew | with_reducible refine below_gw ?_ (by simp) _ | with_reducible refine Below.alloc ?_ (by simp) _ | with_reducible refine Below.setCell ?_ (by simp) _)))).mono ?_; rintro e' w' ⟨rfl, rfl⟩
  go_wp2_with fail
  refine (zAt a len cap z 4 _ rfl (by decide) _ (HR.out.below (by repeat (first | with_reducible exact Below.refl _ _ | with_reducible apply below_drewN | with_reducible apply Below.drew | with_reducible refine below_gw ?_ (by simp) _ | with_reducible refine Below.alloc ?_ (by simp) _ | with_reducible refine Below.setCell ?_ (by simp) _)))).mono ?_; rintro e' w' ⟨rfl, rfl⟩
  go_wp2_with fail
  refine (zAt a len cap z 5 _ rfl (by decide) _ (HR.out.below (by repeat (first | with_reducible exact Below.refl _ _ | with_reducible apply below_drewN | with_reducible apply Below.drew | with_reducible refine below_gw ?_ (by simp) _ | with_reducible refine Below.alloc ?_ (by simp) _ | with_reducible refine Below.setCell ?_ (by simp) _)))).mono ?_; rintro e' w' ⟨rfl, rfl⟩
  go_wp2_with fail
  refine (zAt a len cap z 5 _ rfl (by decide) _ (HR.out.below (by repeat (first | with_reducible exact Below.refl _ _ | with_reducible apply below_drewN | with_reducible apply Below.drew | with_reducible refine below_gw ?_ (by simp) _ | with_reducible refine Below.alloc ?_ (by simp) _ | with_reducible refine Below.setCell ?_ (by simp) _)))).mono ?_; rintro e' w' ⟨rfl, rfl⟩
  go_wp2_with fail
  refine (zAt a len cap z 6 _ rfl (by decide) _ (HR.out.below (by repeat (first | with_reducible exact Below.refl _ _ | with_reducible apply below_drewN | with_reducible apply Below.drew | with_reducible refine below_gw ?_ (by simp) _ | with_reducible refine Below.alloc ?_ (by simp) _ | with_reducible refine Below.setCell ?_ (by simp) _)))).mono ?_; rintro e' w' ⟨rfl, rfl⟩
  go_wp2_with fail
  refine (zAt a len cap z 7 _ rfl (by decide) _ (HR.out.below (by repeat (first | with_reducible exact Below.refl _ _ | with_reducible apply below_drewN | with_reducible apply Below.drew | with_reducible refine below_gw ?_ (by simp) _ | with_reducible refine Below.alloc ?_ (by simp) _ | with_reducible refine Below.setCell ?_ (by simp) _)))).mono ?_; rintro e' w' ⟨rfl, rfl⟩
  go_wp2_with fail
  refine (zAt a len cap z 7 _ rfl (by decide) _ (HR.out.below (by repeat (first | with_reducible exact Below.refl _ _ | with_reducible apply below_drewN | with_reducible apply Below.drew | with_reducible refine below_gw ?_ (by simp) _ | with_reducible refine Below.alloc ?_ (by simp) _ | with_reducible refine Below.setCell ?_ (by simp) _)))).mono ?_; rintro e' w' ⟨rfl, rfl⟩
  go_wp2_with fail
  refine (zAt a len cap z 8 _ rfl (by decide) _ (HR.out.below (by repeat (first | with_reducible exact Below.refl _ _ | with_reducible apply below_drewN | with_reducible apply Below.drew | with_reducible refine below_gw ?_ (by simp) _ | with_reducible refine Below.alloc ?_ (by simp) _ | with_reducible refine Below.setCell ?_ (by simp) _)))).mono ?_; rintro e' w' ⟨rfl, rfl⟩
  go_wp2_with fail
  refine (zAt a len cap z 9 _ rfl (by decide) _ (HR.out.below (by repeat (first | with_reducible exact Below.refl _ _ | with_reducible apply below_drewN | with_reducible apply Below.drew | with_reducible refine below_gw ?_ (by simp) _ | with_reducible refine Below.alloc ?_ (by simp) _ | with_reducible refine Below.setCell ?_ (by simp) _)))).mono ?_; rintro e' w' ⟨rfl, rfl⟩
  go_wp2_with fail
  refine (zAt a len cap z 10 _ rfl (by decide) _ (HR.out.below (by repeat (first | with_reducible exact Below.refl _ _ | with_reducible apply below_drewN | with_reducible apply Below.drew | with_reducible refine below_gw ?_ (by simp) _ | with_reducible refine Below.alloc ?_ (by simp) _ | with_reducible refine Below.setCell ?_ (by simp) _)))).mono ?_; rintro e' w' ⟨rfl, rfl⟩
  go_wp2_with fail
  refine (zAt a len cap z 11 _ rfl (by decide) _ (HR.out.below (by repeat (first | with_reducible exact Below.refl _ _ | with_reducible apply below_drewN | with_reducible apply Below.drew | with_reducible refine below_gw ?_ (by simp) _ | with_reducible refine Below.alloc ?_ (by simp) _ | with_reducible refine Below.setCell ?_ (by simp) _)))).mono ?_; rintro e' w' ⟨rfl, rfl⟩
  go_wp2_with fail
  refine regionTail 7 (by kernel_rfl) (by kernel_rfl) ?_
  simp only [List.take_succ_cons, List.take_zero, List.drop_succ_cons, List.drop_zero]
  repeat still_step
  still_call (turnS (zAt a len cap z 12 _ rfl (by decide) _ (HR.out.below (by repeat (first | with_reducible exact Below.refl _ _ | with_reducible apply below_drewN | with_reducible apply Below.drew | with_reducible refine below_gw ?_ (by simp) _ | with_reducible refine Below.alloc ?_ (by simp) _ | with_reducible refine Below.setCell ?_ (by simp) _)))))
  repeat still_step
  refine wpStill_nil ?_
  go_wp2_with fail
  refine regionTail 7 (by kernel_rfl) (by kernel_rfl) ?_
  simp only [List.take_succ_cons, List.take_zero, List.drop_succ_cons, List.drop_zero]
  repeat still_step
  still_call (turnS (zAt a len cap z 13 _ rfl (by decide) _ (HR.out.below (by repeat (first | with_reducible exact Below.refl _ _ | with_reducible apply below_drewN | with_reducible apply Below.drew | with_reducible refine below_gw ?_ (by simp) _ | with_reducible refine Below.alloc ?_ (by simp) _ | with_reducible refine Below.setCell ?_ (by simp) _)))))
  repeat still_step
  refine wpStill_nil ?_
  go_wp2_with fail
  refine (zAt a len cap z 14 _ rfl (by decide) _ (HR.out.below (by repeat (first | with_reducible exact Below.refl _ _ | with_reducible apply below_drewN | with_reducible apply Below.drew | with_reducible refine below_gw ?_ (by simp) _ | with_reducible refine Below.alloc ?_ (by simp) _ | with_reducible refine Below.setCell ?_ (by simp) _)))).mono ?_; rintro e' w' ⟨rfl, rfl⟩
  go_wp2_with fail
  refine (zAt a len cap z 15 _ rfl (by decide) _ (HR.out.below (by repeat (first | with_reducible exact Below.refl _ _ | with_reducible apply below_drewN | with_reducible apply Below.drew | with_reducible refine below_gw ?_ (by simp) _ | with_reducible refine Below.alloc ?_ (by simp) _ | with_reducible refine Below.setCell ?_ (by simp) _)))).mono ?_; rintro e' w' ⟨rfl, rfl⟩
  go_wp2_with fail
  refine (zAt a len cap z 16 _ rfl (by decide) _ (HR.out.below (by repeat (first | with_reducible exact Below.refl _ _ | with_reducible apply below_drewN | with_reducible apply Below.drew | with_reducible refine below_gw ?_ (by simp) _ | with_reducible refine Below.alloc ?_ (by simp) _ | with_reducible refine Below.setCell ?_ (by simp) _)))).mono ?_; rintro e' w' ⟨rfl, rfl⟩
  go_upto_region 24 with fail
  go_wp2_with (refine wpList_load_row rfl 24 (.tmp 3) rfl (w.heap.size + 1) rfl 24 #[.int .i64 v0, .int .u64 v1, .int .i64 v2, .int .u64 v3, .int .i64 v4, .int .u64 v5, .int .u64 v6, .int .u64 v7, .int .u64 v8, .int .i64 v9, .int .u64 v10, .int .u64 v11, .int .u64 v12, .int .u64 v13, .int .u64 v14, .int .i64 m15, .int .u64 v16] (0, 0) _ (heap_top5 _ _ _ _) Try.underlying24 rfl (by kernel_rfl) ?_; refine wpList_store_row rfl 24 (.tmp 2) (.tmp 120) rfl w.heap.size #[.int .i64 v0, .int .u64 v1, .int .i64 v2, .int .u64 v3, .int .i64 v4, .int .u64 v5, .int .u64 v6, .int .u64 v7, .int .u64 v8, .int .i64 v9, .int .u64 v10, .int .u64 v11, .int .u64 v12, .int .u64 v13, .int .u64 v14, .int .i64 m15, .int .u64 v16] rfl rfl 24 #[.int .i64 0, .int .u64 0, .int .i64 0, .int .u64 0, .int .i64 0, .int .u64 0, .int .u64 0, .int .u64 0, .int .u64 0, .int .i64 0, .int .u64 0, .int .u64 0, .int .u64 0, .int .u64 0, .int .u64 0, .int .i64 0, .int .u64 0] (heap_mid5 _ _ _ _) (by kernel_rfl) rfl (by first | kernel_rfl | simp [Value.oneCell'] | rfl) ?_; rw [setRow_mid5])
  exact bodyPost_ret (v := .agg #[.int .i64 v0, .int .u64 v1, .int .i64 v2, .int .u64 v3, .int .i64 v4, .int .u64 v5, .int .u64 v6, .int .u64 v7, .int .u64 v8, .int .i64 v9, .int .u64 v10, .int .u64 v11, .int .u64 v12, .int .u64 v13, .int .u64 v14, .int .i64 m15, .int .u64 v16]) (results_cell_row Try.results16 _ _ w.heap.size _ _ _ _ rfl (heap_mid5 _ _ _ _) Try.underlying24 rfl (by kernel_rfl)) rfl ⟨rfl, by repeat (first | exact Gr.refl _ | apply Gr.drewN | apply Gr.drew | apply Gr.gw | apply Gr.alloc)⟩

set_option maxHeartbeats 4000000 in
theorem confWTTF (a : Option Addr) (len cap : Nat) (z : Nat → Int) (w : World) (h : Nums w a len z) (d d4 d5 m0 m1 m10 m11 m12 m13 m14 m15 m16 m2 m3 m4 m5 m6 m7 m8 m9 r4 r5 v0 v1 v10 v11 v12 v13 v14 v16 v2 v4 v5 v6 v7 v8 v9 : Int) (t0 : (atF len z 0).tmod 40 = m0) (t1 : (atF len z 1).tmod 50 = m1) (t2 : (atF len z 2).tmod 100 = m2) (t3 : (atF len z 3).tmod 400 = m3) (t4 : (atF len z 4).tmod 4 = m4) (t5 : (atF len z 5).tmod 4 = m5) (t6 : (atF len z 6).tmod 40 = m6) (t7 : (atF len z 7).tmod 4 = m7) (t8 : (atF len z 8).tmod 300 = m8) (t9 : (atF len z 9).tmod 2 = m9) (t10 : (atF len z 10).tmod 200000 = m10) (t11 : (atF len z 11).tmod 2000 = m11) (t12 : (atF len z 12).tmod 400000 = m12) (t13 : (atF len z 13).tmod 400 = m13) (t14 : (atF len z 14).tmod 100000 = m14) (t15 : (atF len z 15).tmod 5 = m15) (t16 : (atF len z 16).tmod 100000 = m16) (s5 : IntKind.u64.wrap (1 + m0) = v5) (s7a : IntKind.u64.wrap (2 * v5) = d) (s7 : IntKind.u64.wrap (d + m1) = v7) (s6 : IntKind.u64.wrap (v7 + m2) = v6) (s8 : IntKind.u64.wrap (v6 + m3) = v8) (q4a : (atF len z 4).tdiv 4 = d4) (q4b : IntKind.u64.wrap (d4) = d4) (q4 : d4.tmod 64 = r4) (s0a : IntKind.i64.wrap (r4) = r4) (s0 : IntKind.i64.wrap (1 + r4) = v0) (q5a : (atF len z 5).tdiv 4 = d5) (q5b : IntKind.u64.wrap (d5) = d5) (q5 : d5.tmod 30 = r5) (s1 : IntKind.u64.wrap (2 + r5) = v1) (s2a : IntKind.i64.wrap (m6) = m6) (s2 : IntKind.i64.wrap (4 + m6) = v2) (s4a : IntKind.i64.wrap (m8) = m8) (s4 : IntKind.i64.wrap (1 + m8) = v4) (s9a : IntKind.i64.wrap (m9) = m9) (s9 : IntKind.i64.wrap (1 + m9) = v9) (s10 : IntKind.u64.wrap (1 + m10) = v10) (s11 : IntKind.u64.wrap (1 + m11) = v11) (s12 : IntKind.u64.wrap (v11 + m12) = v12) (s13 : IntKind.u64.wrap (v5 + m13) = v13) (s14 : IntKind.u64.wrap (1 + m14) = v14) (s15 : IntKind.i64.wrap (m15) = m15) (s16 : IntKind.u64.wrap (1 + m16) = v16)
    (c4 : (m4 == 1) = true) (c5 : decide (0 < m5) = true) (c7 : (m7 == 1) = false) :
    Calls Try.prog 16 #[.slice a len cap] w fun e w' => e = .returned (.agg #[.int .i64 v0, .int .u64 v1, .int .i64 v2, .int .u64 4611686018427387903, .int .i64 v4, .int .u64 v5, .int .u64 v6, .int .u64 v7, .int .u64 v8, .int .i64 v9, .int .u64 v10, .int .u64 v11, .int .u64 v12, .int .u64 v13, .int .u64 v14, .int .i64 m15, .int .u64 v16]) ∧ Gr w w' := by
  have HR := Lib.hid h
  clear h
  go_enter Try.func16, Try.ntmps16
  go_wp2_with fail
  refine (zAt a len cap z 0 _ rfl (by decide) _ (HR.out.below (by repeat (first | with_reducible exact Below.refl _ _ | with_reducible apply below_drewN | with_reducible apply Below.drew | with_reducible refine below_gw ?_ (by simp) _ | with_reducible refine Below.alloc ?_ (by simp) _ | with_reducible refine Below.setCell ?_ (by simp) _)))).mono ?_; rintro e' w' ⟨rfl, rfl⟩
  go_wp2_with fail
  refine regionTail 8 (by kernel_rfl) (by kernel_rfl) ?_
  simp only [List.take_succ_cons, List.take_zero, List.drop_succ_cons, List.drop_zero]
  repeat still_step
  still_call (turnS (zAt a len cap z 1 _ rfl (by decide) _ (HR.out.below (by repeat (first | with_reducible exact Below.refl _ _ | with_reducible apply below_drewN | with_reducible apply Below.drew | with_reducible refine below_gw ?_ (by simp) _ | with_reducible refine Below.alloc ?_ (by simp) _ | with_reducible refine Below.setCell ?_ (by simp) _)))))
  repeat still_step
  refine wpStill_nil ?_
  go_wp2_with fail
  refine regionTail 7 (by kernel_rfl) (by kernel_rfl) ?_
  simp only [List.take_succ_cons, List.take_zero, List.drop_succ_cons, List.drop_zero]
  repeat still_step
  still_call (turnS (zAt a len cap z 2 _ rfl (by decide) _ (HR.out.below (by repeat (first | with_reducible exact Below.refl _ _ | with_reducible apply below_drewN | with_reducible apply Below.drew | with_reducible refine below_gw ?_ (by simp) _ | with_reducible refine Below.alloc ?_ (by simp) _ | with_reducible refine Below.setCell ?_ (by simp) _)))))
  repeat still_step
  refine wpStill_nil ?_
  go_wp2_with fail
  refine regionTail 7 (by kernel_rfl) (by kernel_rfl) ?_
  simp only [List.take_succ_cons, List.take_zero, List.drop_succ_cons, List.drop_zero]
  repeat still_step
  still_call (turnS (zAt a len cap z 3 _ rfl (by decide) _ (HR.out.below (by repeat (first | with_reducible exact Below.refl _ _ | with_reducible apply below_drewN | with_reducible apply Below.drew | with_reducible refine below_gw ?_ (by simp) _ | with_reducible refine Below.alloc ?_ (by simp) _ | with_reducible refine Below.setCell ?_ (by simp) _)))))
  repeat still_step
  refine wpStill_nil ?_
  go_wp2_with fail
  refine (zAt a len cap z 4 _ rfl (by decide) _ (HR.out.below (by repeat (first | with_reducible exact Below.refl _ _ | with_reducible apply below_drewN | with_reducible apply Below.drew | with_reducible refine below_gw ?_ (by simp) _ | with_reducible refine Below.alloc ?_ (by simp) _ | with_reducible refine Below.setCell ?_ (by simp) _)))).mono ?_; rintro e' w' ⟨rfl, rfl⟩
  go_wp2_with fail
  refine (zAt a len cap z 4 _ rfl (by decide) _ (HR.out.below (by repeat (first | with_reducible exact Below.refl _ _ | with_reducible apply below_drewN | with_reducible apply Below.drew | with_reducible refine below_gw ?_ (by simp) _ | with_reducible refine Below.alloc ?_ (by simp) _ | with_reducible refine Below.setCell ?_ (by simp) _)))).mono ?_; rintro e' w' ⟨rfl, rfl⟩
  go_wp2_with fail
  refine (zAt a len cap z 5 _ rfl (by decide) _ (HR.out.below (by repeat (first | with_reducible exact Below.refl _ _ | with_reducible apply below_drewN | with_reducible apply Below.drew | with_reducible refine below_gw ?_ (by simp) _ | with_reducible refine Below.alloc ?_ (by simp) _ | with_reducible refine Below.setCell ?_ (by simp) _)))).mono ?_; rintro e' w' ⟨rfl, rfl⟩
  go_wp2_with fail
  refine (zAt a len cap z 5 _ rfl (by decide) _ (HR.out.below (by repeat (first | with_reducible exact Below.refl _ _ | with_reducible apply below_drewN | with_reducible apply Below.drew | with_reducible refine below_gw ?_ (by simp) _ | with_reducible refine Below.alloc ?_ (by simp) _ | with_reducible refine Below.setCell ?_ (by simp) _)))).mono ?_; rintro e' w' ⟨rfl, rfl⟩
  go_wp2_with fail
  refine (zAt a len cap z 6 _ rfl (by decide) _ (HR.out.below (by repeat (first | with_reducible exact Below.refl _ _ | with_reducible apply below_drewN | with_reducible apply Below.drew | with_reducible refine below_gw ?_ (by simp) _ | with_reducible refine Below.alloc ?_ (by simp) _ | with_reducible refine Below.setCell ?_ (by simp) _)))).mono ?_; rintro e' w' ⟨rfl, rfl⟩
  go_wp2_with fail
  refine (zAt a len cap z 7 _ rfl (by decide) _ (HR.out.below (by repeat (first | with_reducible exact Below.refl _ _ | with_reducible apply below_drewN | with_reducible apply Below.drew | with_reducible refine below_gw ?_ (by simp) _ | with_reducible refine Below.alloc ?_ (by simp) _ | with_reducible refine Below.setCell ?_ (by simp) _)))).mono ?_; rintro e' w' ⟨rfl, rfl⟩
  go_wp2_with fail
  refine (zAt a len cap z 8 _ rfl (by decide) _ (HR.out.below (by repeat (first | with_reducible exact Below.refl _ _ | with_reducible apply below_drewN | with_reducible apply Below.drew | with_reducible refine below_gw ?_ (by simp) _ | with_reducible refine Below.alloc ?_ (by simp) _ | with_reducible refine Below.setCell ?_ (by simp) _)))).mono ?_; rintro e' w' ⟨rfl, rfl⟩
  go_wp2_with fail
  refine (zAt a len cap z 9 _ rfl (by decide) _ (HR.out.below (by repeat (first | with_reducible exact Below.refl _ _ | with_reducible apply below_drewN | with_reducible apply Below.drew | with_reducible refine below_gw ?_ (by simp) _ | with_reducible refine Below.alloc ?_ (by simp) _ | with_reducible refine Below.setCell ?_ (by simp) _)))).mono ?_; rintro e' w' ⟨rfl, rfl⟩
  go_wp2_with fail
  refine (zAt a len cap z 10 _ rfl (by decide) _ (HR.out.below (by repeat (first | with_reducible exact Below.refl _ _ | with_reducible apply below_drewN | with_reducible apply Below.drew | with_reducible refine below_gw ?_ (by simp) _ | with_reducible refine Below.alloc ?_ (by simp) _ | with_reducible refine Below.setCell ?_ (by simp) _)))).mono ?_; rintro e' w' ⟨rfl, rfl⟩
  go_wp2_with fail
  refine (zAt a len cap z 11 _ rfl (by decide) _ (HR.out.below (by repeat (first | with_reducible exact Below.refl _ _ | with_reducible apply below_drewN | with_reducible apply Below.drew | with_reducible refine below_gw ?_ (by simp) _ | with_reducible refine Below.alloc ?_ (by simp) _ | with_reducible refine Below.setCell ?_ (by simp) _)))).mono ?_; rintro e' w' ⟨rfl, rfl⟩
  go_wp2_with fail
  refine regionTail 7 (by kernel_rfl) (by kernel_rfl) ?_
  simp only [List.take_succ_cons, List.take_zero, List.drop_succ_cons, List.drop_zero]
  repeat still_step
  still_call (turnS (zAt a len cap z 12 _ rfl (by decide) _ (HR.out.below (by repeat (first | with_reducible exact Below.refl _ _ | with_reducible apply below_drewN | with_reducible apply Below.drew | with_reducible refine below_gw ?_ (by simp) _ | with_reducible refine Below.alloc ?_ (by simp) _ | with_reducible refine Below.setCell ?_ (by simp) _)))))
  repeat still_step
  refine wpStill_nil ?_
  go_wp2_with fail
  refine regionTail 7 (by kernel_rfl) (by kernel_rfl) ?_
  simp only [List.take_succ_cons, List.take_zero, List.drop_succ_cons, List.drop_zero]
  repeat still_step
  still_call (turnS (zAt a len cap z 13 _ rfl (by decide) _ (HR.out.below (by repeat (first | with_reducible exact Below.refl _ _ | with_reducible apply below_drewN | with_reducible apply Below.drew | with_reducible refine below_gw ?_ (by simp) _ | with_reducible refine Below.alloc ?_ (by simp) _ | with_reducible refine Below.setCell ?_ (by simp) _)))))
  repeat still_step
  refine wpStill_nil ?_
  go_wp2_with fail
  refine (zAt a len cap z 14 _ rfl (by decide) _ (HR.out.below (by repeat (first | with_reducible exact Below.refl _ _ | with_reducible apply below_drewN | with_reducible apply Below.drew | with_reducible refine below_gw ?_ (by simp) _ | with_reducible refine Below.alloc ?_ (by simp) _ | with_reducible refine Below.setCell ?_ (by simp) _)))).mono ?_; rintro e' w' ⟨rfl, rfl⟩
  go_wp2_with fail
  refine (zAt a len cap z 15 _ rfl (by decide) _ (HR.out.below (by repeat (first | with_reducible exact Below.refl _ _ | with_reducible apply below_drewN | with_reducible apply Below.drew | with_reducible refine below_gw ?_ (by simp) _ | with_reducible refine Below.alloc ?_ (by simp) _ | with_reducible refine Below.setCell ?_ (by simp) _)))).mono ?_; rintro e' w' ⟨rfl, rfl⟩
  go_wp2_with fail
  refine (zAt a len cap z 16 _ rfl (by decide) _ (HR.out.below (by repeat (first | with_reducible exact Below.refl _ _ | with_reducible apply below_drewN | with_reducible apply Below.drew | with_reducible refine below_gw ?_ (by simp) _ | with_reducible refine Below.alloc ?_ (by simp) _ | with_reducible refine Below.setCell ?_ (by simp) _)))).mono ?_; rintro e' w' ⟨rfl, rfl⟩
  go_upto_region 24 with fail
  go_wp2_with (refine wpList_load_row rfl 24 (.tmp 3) rfl (w.heap.size + 1) rfl 24 #[.int .i64 v0, .int .u64 v1, .int .i64 v2, .int .u64 4611686018427387903, .int .i64 v4, .int .u64 v5, .int .u64 v6, .int .u64 v7, .int .u64 v8, .int .i64 v9, .int .u64 v10, .int .u64 v11, .int .u64 v12, .int .u64 v13, .int .u64 v14, .int .i64 m15, .int .u64 v16] (0, 0) _ (heap_top5 _ _ _ _) Try.underlying24 rfl (by kernel_rfl) ?_; refine wpList_store_row rfl 24 (.tmp 2) (.tmp 120) rfl w.heap.size #[.int .i64 v0, .int .u64 v1, .int .i64 v2, .int .u64 4611686018427387903, .int .i64 v4, .int .u64 v5, .int .u64 v6, .int .u64 v7, .int .u64 v8, .int .i64 v9, .int .u64 v10, .int .u64 v11, .int .u64 v12, .int .u64 v13, .int .u64 v14, .int .i64 m15, .int .u64 v16] rfl rfl 24 #[.int .i64 0, .int .u64 0, .int .i64 0, .int .u64 0, .int .i64 0, .int .u64 0, .int .u64 0, .int .u64 0, .int .u64 0, .int .i64 0, .int .u64 0, .int .u64 0, .int .u64 0, .int .u64 0, .int .u64 0, .int .i64 0, .int .u64 0] (heap_mid5 _ _ _ _) (by kernel_rfl) rfl (by first | kernel_rfl | simp [Value.oneCell'] | rfl) ?_; rw [setRow_mid5])
  exact bodyPost_ret (v := .agg #[.int .i64 v0, .int .u64 v1, .int .i64 v2, .int .u64 4611686018427387903, .int .i64 v4, .int .u64 v5, .int .u64 v6, .int .u64 v7, .int .u64 v8, .int .i64 v9, .int .u64 v10, .int .u64 v11, .int .u64 v12, .int .u64 v13, .int .u64 v14, .int .i64 m15, .int .u64 v16]) (results_cell_row Try.results16 _ _ w.heap.size _ _ _ _ rfl (heap_mid5 _ _ _ _) Try.underlying24 rfl (by kernel_rfl)) rfl ⟨rfl, by repeat (first | exact Gr.refl _ | apply Gr.drewN | apply Gr.drew | apply Gr.gw | apply Gr.alloc)⟩

set_option maxHeartbeats 4000000 in
theorem confWTFT (a : Option Addr) (len cap : Nat) (z : Nat → Int) (w : World) (h : Nums w a len z) (d d4 d7 m0 m1 m10 m11 m12 m13 m14 m15 m16 m2 m3 m4 m5 m6 m7 m8 m9 r4 v0 v10 v11 v12 v13 v14 v16 v2 v3 v4 v5 v6 v7 v8 v9 : Int) (t0 : (atF len z 0).tmod 40 = m0) (t1 : (atF len z 1).tmod 50 = m1) (t2 : (atF len z 2).tmod 100 = m2) (t3 : (atF len z 3).tmod 400 = m3) (t4 : (atF len z 4).tmod 4 = m4) (t5 : (atF len z 5).tmod 4 = m5) (t6 : (atF len z 6).tmod 40 = m6) (t7 : (atF len z 7).tmod 4 = m7) (t8 : (atF len z 8).tmod 300 = m8) (t9 : (atF len z 9).tmod 2 = m9) (t10 : (atF len z 10).tmod 200000 = m10) (t11 : (atF len z 11).tmod 2000 = m11) (t12 : (atF len z 12).tmod 400000 = m12) (t13 : (atF len z 13).tmod 400 = m13) (t14 : (atF len z 14).tmod 100000 = m14) (t15 : (atF len z 15).tmod 5 = m15) (t16 : (atF len z 16).tmod 100000 = m16) (s5 : IntKind.u64.wrap (1 + m0) = v5) (s7a : IntKind.u64.wrap (2 * v5) = d) (s7 : IntKind.u64.wrap (d + m1) = v7) (s6 : IntKind.u64.wrap (v7 + m2) = v6) (s8 : IntKind.u64.wrap (v6 + m3) = v8) (q4a : (atF len z 4).tdiv 4 = d4) (q4b : IntKind.u64.wrap (d4) = d4) (q4 : d4.tmod 64 = r4) (s0a : IntKind.i64.wrap (r4) = r4) (s0 : IntKind.i64.wrap (1 + r4) = v0) (q7a : (atF len z 7).tdiv 4 = d7) (q7b : IntKind.u64.wrap (d7) = d7) (q7 : d7.tmod 60 = v3) (s2a : IntKind.i64.wrap (m6) = m6) (s2 : IntKind.i64.wrap (4 + m6) = v2) (s4a : IntKind.i64.wrap (m8) = m8) (s4 : IntKind.i64.wrap (1 + m8) = v4) (s9a : IntKind.i64.wrap (m9) = m9) (s9 : IntKind.i64.wrap (1 + m9) = v9) (s10 : IntKind.u64.wrap (1 + m10) = v10) (s11 : IntKind.u64.wrap (1 + m11) = v11) (s12 : IntKind.u64.wrap (v11 + m12) = v12) (s13 : IntKind.u64.wrap (v5 + m13) = v13) (s14 : IntKind.u64.wrap (1 + m14) = v14) (s15 : IntKind.i64.wrap (m15) = m15) (s16 : IntKind.u64.wrap (1 + m16) = v16)
    (c4 : (m4 == 1) = true) (c5 : decide (0 < m5) = false) (c7 : (m7 == 1) = true) :
    Calls Try.prog 16 #[.slice a len cap] w fun e w' => e = .returned (.agg #[.int .i64 v0, .int .u64 0, .int .i64 v2, .int .u64 v3, .int .i64 v4, .int .u64 v5, .int .u64 v6, .int .u64 v7, .int .u64 v8, .int .i64 v9, .int .u64 v10, .int .u64 v11, .int .u64 v12, .int .u64 v13, .int .u64 v14, .int .i64 m15, .int .u64 v16]) ∧ Gr w w' := by
  have HR := Lib.hid h
  clear h
  go_enter Try.func16, Try.ntmps16
  go_wp2_with fail
  refine (zAt a len cap z 0 _ rfl (by decide) _ (HR.out.below (by repeat (first | with_reducible exact Below.refl _ _ | with_reducible apply below_drewN | with_reducible apply Below.drew | with_reducible refine below_gw ?_ (by simp) _ | with_reducible refine Below.alloc ?_ (by simp) _ | with_reducible refine Below.setCell ?_ (by simp) _)))).mono ?_; rintro e' w' ⟨rfl, rfl⟩
  go_wp2_with fail
  refine regionTail 8 (by kernel_rfl) (by kernel_rfl) ?_
  simp only [List.take_succ_cons, List.take_zero, List.drop_succ_cons, List.drop_zero]
  repeat still_step
  still_call (turnS (zAt a len cap z 1 _ rfl (by decide) _ (HR.out.below (by repeat (first | with_reducible exact Below.refl _ _ | with_reducible apply below_drewN | with_reducible apply Below.drew | with_reducible refine below_gw ?_ (by simp) _ | with_reducible refine Below.alloc ?_ (by simp) _ | with_reducible refine Below.setCell ?_ (by simp) _)))))
  repeat still_step
  refine wpStill_nil ?_
  go_wp2_with fail
  refine regionTail 7 (by kernel_rfl) (by kernel_rfl) ?_
  simp only [List.take_succ_cons, List.take_zero, List.drop_succ_cons, List.drop_zero]
  repeat still_step
  still_call (turnS (zAt a len cap z 2 _ rfl (by decide) _ (HR.out.below (by repeat (first | with_reducible exact Below.refl _ _ | with_reducible apply below_drewN | with_reducible apply Below.drew | with_reducible refine below_gw ?_ (by simp) _ | with_reducible refine Below.alloc ?_ (by simp) _ | with_reducible refine Below.setCell ?_ (by simp) _)))))
  repeat still_step
  refine wpStill_nil ?_
  go_wp2_with fail
  refine regionTail 7 (by kernel_rfl) (by kernel_rfl) ?_
  simp only [List.take_succ_cons, List.take_zero, List.drop_succ_cons, List.drop_zero]
  repeat still_step
  still_call (turnS (zAt a len cap z 3 _ rfl (by decide) _ (HR.out.below (by repeat (first | with_reducible exact Below.refl _ _ | with_reducible apply below_drewN | with_reducible apply Below.drew | with_reducible refine below_gw ?_ (by simp) _ | with_reducible refine Below.alloc ?_ (by simp) _ | with_reducible refine Below.setCell ?_ (by simp) _)))))
  repeat still_step
  refine wpStill_nil ?_
  go_wp2_with fail
  refine (zAt a len cap z 4 _ rfl (by decide) _ (HR.out.below (by repeat (first | with_reducible exact Below.refl _ _ | with_reducible apply below_drewN | with_reducible apply Below.drew | with_reducible refine below_gw ?_ (by simp) _ | with_reducible refine Below.alloc ?_ (by simp) _ | with_reducible refine Below.setCell ?_ (by simp) _)))).mono ?_; rintro e' w' ⟨rfl, rfl⟩
  go_wp2_with fail
  refine (zAt a len cap z 4 _ rfl (by decide) _ (HR.out.below (by repeat (first | with_reducible exact Below.refl _ _ | with_reducible apply below_drewN | with_reducible apply Below.drew | with_reducible refine below_gw ?_ (by simp) _ | with_reducible refine Below.alloc ?_ (by simp) _ | with_reducible refine Below.setCell ?_ (by simp) _)))).mono ?_; rintro e' w' ⟨rfl, rfl⟩
  go_wp2_with fail
  refine (zAt a len cap z 5 _ rfl (by decide) _ (HR.out.below (by repeat (first | with_reducible exact Below.refl _ _ | with_reducible apply below_drewN | with_reducible apply Below.drew | with_reducible refine below_gw ?_ (by simp) _ | with_reducible refine Below.alloc ?_ (by simp) _ | with_reducible refine Below.setCell ?_ (by simp) _)))).mono ?_; rintro e' w' ⟨rfl, rfl⟩
  go_wp2_with fail
  refine (zAt a len cap z 6 _ rfl (by decide) _ (HR.out.below (by repeat (first | with_reducible exact Below.refl _ _ | with_reducible apply below_drewN | with_reducible apply Below.drew | with_reducible refine below_gw ?_ (by simp) _ | with_reducible refine Below.alloc ?_ (by simp) _ | with_reducible refine Below.setCell ?_ (by simp) _)))).mono ?_; rintro e' w' ⟨rfl, rfl⟩
  go_wp2_with fail
  refine (zAt a len cap z 7 _ rfl (by decide) _ (HR.out.below (by repeat (first | with_reducible exact Below.refl _ _ | with_reducible apply below_drewN | with_reducible apply Below.drew | with_reducible refine below_gw ?_ (by simp) _ | with_reducible refine Below.alloc ?_ (by simp) _ | with_reducible refine Below.setCell ?_ (by simp) _)))).mono ?_; rintro e' w' ⟨rfl, rfl⟩
  go_wp2_with fail
  refine (zAt a len cap z 7 _ rfl (by decide) _ (HR.out.below (by repeat (first | with_reducible exact Below.refl _ _ | with_reducible apply below_drewN | with_reducible apply Below.drew | with_reducible refine below_gw ?_ (by simp) _ | with_reducible refine Below.alloc ?_ (by simp) _ | with_reducible refine Below.setCell ?_ (by simp) _)))).mono ?_; rintro e' w' ⟨rfl, rfl⟩
  go_wp2_with fail
  refine (zAt a len cap z 8 _ rfl (by decide) _ (HR.out.below (by repeat (first | with_reducible exact Below.refl _ _ | with_reducible apply below_drewN | with_reducible apply Below.drew | with_reducible refine below_gw ?_ (by simp) _ | with_reducible refine Below.alloc ?_ (by simp) _ | with_reducible refine Below.setCell ?_ (by simp) _)))).mono ?_; rintro e' w' ⟨rfl, rfl⟩
  go_wp2_with fail
  refine (zAt a len cap z 9 _ rfl (by decide) _ (HR.out.below (by repeat (first | with_reducible exact Below.refl _ _ | with_reducible apply below_drewN | with_reducible apply Below.drew | with_reducible refine below_gw ?_ (by simp) _ | with_reducible refine Below.alloc ?_ (by simp) _ | with_reducible refine Below.setCell ?_ (by simp) _)))).mono ?_; rintro e' w' ⟨rfl, rfl⟩
  go_wp2_with fail
  refine (zAt a len cap z 10 _ rfl (by decide) _ (HR.out.below (by repeat (first | with_reducible exact Below.refl _ _ | with_reducible apply below_drewN | with_reducible apply Below.drew | with_reducible refine below_gw ?_ (by simp) _ | with_reducible refine Below.alloc ?_ (by simp) _ | with_reducible refine Below.setCell ?_ (by simp) _)))).mono ?_; rintro e' w' ⟨rfl, rfl⟩
  go_wp2_with fail
  refine (zAt a len cap z 11 _ rfl (by decide) _ (HR.out.below (by repeat (first | with_reducible exact Below.refl _ _ | with_reducible apply below_drewN | with_reducible apply Below.drew | with_reducible refine below_gw ?_ (by simp) _ | with_reducible refine Below.alloc ?_ (by simp) _ | with_reducible refine Below.setCell ?_ (by simp) _)))).mono ?_; rintro e' w' ⟨rfl, rfl⟩
  go_wp2_with fail
  refine regionTail 7 (by kernel_rfl) (by kernel_rfl) ?_
  simp only [List.take_succ_cons, List.take_zero, List.drop_succ_cons, List.drop_zero]
  repeat still_step
  still_call (turnS (zAt a len cap z 12 _ rfl (by decide) _ (HR.out.below (by repeat (first | with_reducible exact Below.refl _ _ | with_reducible apply below_drewN | with_reducible apply Below.drew | with_reducible refine below_gw ?_ (by simp) _ | with_reducible refine Below.alloc ?_ (by simp) _ | with_reducible refine Below.setCell ?_ (by simp) _)))))
  repeat still_step
  refine wpStill_nil ?_
  go_wp2_with fail
  refine regionTail 7 (by kernel_rfl) (by kernel_rfl) ?_
  simp only [List.take_succ_cons, List.take_zero, List.drop_succ_cons, List.drop_zero]
  repeat still_step
  still_call (turnS (zAt a len cap z 13 _ rfl (by decide) _ (HR.out.below (by repeat (first | with_reducible exact Below.refl _ _ | with_reducible apply below_drewN | with_reducible apply Below.drew | with_reducible refine below_gw ?_ (by simp) _ | with_reducible refine Below.alloc ?_ (by simp) _ | with_reducible refine Below.setCell ?_ (by simp) _)))))
  repeat still_step
  refine wpStill_nil ?_
  go_wp2_with fail
  refine (zAt a len cap z 14 _ rfl (by decide) _ (HR.out.below (by repeat (first | with_reducible exact Below.refl _ _ | with_reducible apply below_drewN | with_reducible apply Below.drew | with_reducible refine below_gw ?_ (by simp) _ | with_reducible refine Below.alloc ?_ (by simp) _ | with_reducible refine Below.setCell ?_ (by simp) _)))).mono ?_; rintro e' w' ⟨rfl, rfl⟩
  go_wp2_with fail
  refine (zAt a len cap z 15 _ rfl (by decide) _ (HR.out.below (by repeat (first | with_reducible exact Below.refl _ _ | with_reducible apply below_drewN | with_reducible apply Below.drew | with_reducible refine below_gw ?_ (by simp) _ | with_reducible refine Below.alloc ?_ (by simp) _ | with_reducible refine Below.setCell ?_ (by simp) _)))).mono ?_; rintro e' w' ⟨rfl, rfl⟩
  go_wp2_with fail
  refine (zAt a len cap z 16 _ rfl (by decide) _ (HR.out.below (by repeat (first | with_reducible exact Below.refl _ _ | with_reducible apply below_drewN | with_reducible apply Below.drew | with_reducible refine below_gw ?_ (by simp) _ | with_reducible refine Below.alloc ?_ (by simp) _ | with_reducible refine Below.setCell ?_ (by simp) _)))).mono ?_; rintro e' w' ⟨rfl, rfl⟩
  go_upto_region 24 with fail
  go_wp2_with (refine wpList_load_row rfl 24 (.tmp 3) rfl (w.heap.size + 1) rfl 24 #[.int .i64 v0, .int .u64 0, .int .i64 v2, .int .u64 v3, .int .i64 v4, .int .u64 v5, .int .u64 v6, .int .u64 v7, .int .u64 v8, .int .i64 v9, .int .u64 v10, .int .u64 v11, .int .u64 v12, .int .u64 v13, .int .u64 v14, .int .i64 m15, .int .u64 v16] (0, 0) _ (heap_top5 _ _ _ _) Try.underlying24 rfl (by kernel_rfl) ?_; refine wpList_store_row rfl 24 (.tmp 2) (.tmp 120) rfl w.heap.size #[.int .i64 v0, .int .u64 0, .int .i64 v2, .int .u64 v3, .int .i64 v4, .int .u64 v5, .int .u64 v6, .int .u64 v7, .int .u64 v8, .int .i64 v9, .int .u64 v10, .int .u64 v11, .int .u64 v12, .int .u64 v13, .int .u64 v14, .int .i64 m15, .int .u64 v16] rfl rfl 24 #[.int .i64 0, .int .u64 0, .int .i64 0, .int .u64 0, .int .i64 0, .int .u64 0, .int .u64 0, .int .u64 0, .int .u64 0, .int .i64 0, .int .u64 0, .int .u64 0, .int .u64 0, .int .u64 0, .int .u64 0, .int .i64 0, .int .u64 0] (heap_mid5 _ _ _ _) (by kernel_rfl) rfl (by first | kernel_rfl | simp [Value.oneCell'] | rfl) ?_; rw [setRow_mid5])
  exact bodyPost_ret (v := .agg #[.int .i64 v0, .int .u64 0, .int .i64 v2, .int .u64 v3, .int .i64 v4, .int .u64 v5, .int .u64 v6, .int .u64 v7, .int .u64 v8, .int .i64 v9, .int .u64 v10, .int .u64 v11, .int .u64 v12, .int .u64 v13, .int .u64 v14, .int .i64 m15, .int .u64 v16]) (results_cell_row Try.results16 _ _ w.heap.size _ _ _ _ rfl (heap_mid5 _ _ _ _) Try.underlying24 rfl (by kernel_rfl)) rfl ⟨rfl, by repeat (first | exact Gr.refl _ | apply Gr.drewN | apply Gr.drew | apply Gr.gw | apply Gr.alloc)⟩

set_option maxHeartbeats 4000000 in
theorem confWTFF (a : Option Addr) (len cap : Nat) (z : Nat → Int) (w : World) (h : Nums w a len z) (d d4 m0 m1 m10 m11 m12 m13 m14 m15 m16 m2 m3 m4 m5 m6 m7 m8 m9 r4 v0 v10 v11 v12 v13 v14 v16 v2 v4 v5 v6 v7 v8 v9 : Int) (t0 : (atF len z 0).tmod 40 = m0) (t1 : (atF len z 1).tmod 50 = m1) (t2 : (atF len z 2).tmod 100 = m2) (t3 : (atF len z 3).tmod 400 = m3) (t4 : (atF len z 4).tmod 4 = m4) (t5 : (atF len z 5).tmod 4 = m5) (t6 : (atF len z 6).tmod 40 = m6) (t7 : (atF len z 7).tmod 4 = m7) (t8 : (atF len z 8).tmod 300 = m8) (t9 : (atF len z 9).tmod 2 = m9) (t10 : (atF len z 10).tmod 200000 = m10) (t11 : (atF len z 11).tmod 2000 = m11) (t12 : (atF len z 12).tmod 400000 = m12) (t13 : (atF len z 13).tmod 400 = m13) (t14 : (atF len z 14).tmod 100000 = m14) (t15 : (atF len z 15).tmod 5 = m15) (t16 : (atF len z 16).tmod 100000 = m16) (s5 : IntKind.u64.wrap (1 + m0) = v5) (s7a : IntKind.u64.wrap (2 * v5) = d) (s7 : IntKind.u64.wrap (d + m1) = v7) (s6 : IntKind.u64.wrap (v7 + m2) = v6) (s8 : IntKind.u64.wrap (v6 + m3) = v8) (q4a : (atF len z 4).tdiv 4 = d4) (q4b : IntKind.u64.wrap (d4) = d4) (q4 : d4.tmod 64 = r4) (s0a : IntKind.i64.wrap (r4) = r4) (s0 : IntKind.i64.wrap (1 + r4) = v0) (s2a : IntKind.i64.wrap (m6) = m6) (s2 : IntKind.i64.wrap (4 + m6) = v2) (s4a : IntKind.i64.wrap (m8) = m8) (s4 : IntKind.i64.wrap (1 + m8) = v4) (s9a : IntKind.i64.wrap (m9) = m9) (s9 : IntKind.i64.wrap (1 + m9) = v9) (s10 : IntKind.u64.wrap (1 + m10) = v10) (s11 : IntKind.u64.wrap (1 + m11) = v11) (s12 : IntKind.u64.wrap (v11 + m12) = v12) (s13 : IntKind.u64.wrap (v5 + m13) = v13) (s14 : IntKind.u64.wrap (1 + m14) = v14) (s15 : IntKind.i64.wrap (m15) = m15) (s16 : IntKind.u64.wrap (1 + m16) = v16)
    (c4 : (m4 == 1) = true) (c5 : decide (0 < m5) = false) (c7 : (m7 == 1) = false) :
    Calls Try.prog 16 #[.slice a len cap] w fun e w' => e = .returned (.agg #[.int .i64 v0, .int .u64 0, .int .i64 v2, .int .u64 4611686018427387903, .int .i64 v4, .int .u64 v5, .int .u64 v6, .int .u64 v7, .int .u64 v8, .int .i64 v9, .int .u64 v10, .int .u64 v11, .int .u64 v12, .int .u64 v13, .int .u64 v14, .int .i64 m15, .int .u64 v16]) ∧ Gr w w' := by
  have HR := Lib.hid h
  clear h
  go_enter Try.func16, Try.ntmps16
  go_wp2_with fail
  refine (zAt a len cap z 0 _ rfl (by decide) _ (HR.out.below (by repeat (first | with_reducible exact Below.refl _ _ | with_reducible apply below_drewN | with_reducible apply Below.drew | with_reducible refine below_gw ?_ (by simp) _ | with_reducible refine Below.alloc ?_ (by simp) _ | with_reducible refine Below.setCell ?_ (by simp) _)))).mono ?_; rintro e' w' ⟨rfl, rfl⟩
  go_wp2_with fail
  refine regionTail 8 (by kernel_rfl) (by kernel_rfl) ?_
  simp only [List.take_succ_cons, List.take_zero, List.drop_succ_cons, List.drop_zero]
  repeat still_step
  still_call (turnS (zAt a len cap z 1 _ rfl (by decide) _ (HR.out.below (by repeat (first | with_reducible exact Below.refl _ _ | with_reducible apply below_drewN | with_reducible apply Below.drew | with_reducible refine below_gw ?_ (by simp) _ | with_reducible refine Below.alloc ?_ (by simp) _ | with_reducible refine Below.setCell ?_ (by simp) _)))))
  repeat still_step
  refine wpStill_nil ?_
  go_wp2_with fail
  refine regionTail 7 (by kernel_rfl) (by kernel_rfl) ?_
  simp only [List.take_succ_cons, List.take_zero, List.drop_succ_cons, List.drop_zero]
  repeat still_step
  still_call (turnS (zAt a len cap z 2 _ rfl (by decide) _ (HR.out.below (by repeat (first | with_reducible exact Below.refl _ _ | with_reducible apply below_drewN | with_reducible apply Below.drew | with_reducible refine below_gw ?_ (by simp) _ | with_reducible refine Below.alloc ?_ (by simp) _ | with_reducible refine Below.setCell ?_ (by simp) _)))))
  repeat still_step
  refine wpStill_nil ?_
  go_wp2_with fail
  refine regionTail 7 (by kernel_rfl) (by kernel_rfl) ?_
  simp only [List.take_succ_cons, List.take_zero, List.drop_succ_cons, List.drop_zero]
  repeat still_step
  still_call (turnS (zAt a len cap z 3 _ rfl (by decide) _ (HR.out.below (by repeat (first | with_reducible exact Below.refl _ _ | with_reducible apply below_drewN | with_reducible apply Below.drew | with_reducible refine below_gw ?_ (by simp) _ | with_reducible refine Below.alloc ?_ (by simp) _ | with_reducible refine Below.setCell ?_ (by simp) _)))))
  repeat still_step
  refine wpStill_nil ?_
  go_wp2_with fail
  refine (zAt a len cap z 4 _ rfl (by decide) _ (HR.out.below (by repeat (first | with_reducible exact Below.refl _ _ | with_reducible apply below_drewN | with_reducible apply Below.drew | with_reducible refine below_gw ?_ (by simp) _ | with_reducible refine Below.alloc ?_ (by simp) _ | with_reducible refine Below.setCell ?_ (by simp) _)))).mono ?_; rintro e' w' ⟨rfl, rfl⟩
  go_wp2_with fail
  refine (zAt a len cap z 4 _ rfl (by decide) _ (HR.out.below (by repeat (first | with_reducible exact Below.refl _ _ | with_reducible apply below_drewN | with_reducible apply Below.drew | with_reducible refine below_gw ?_ (by simp) _ | with_reducible refine Below.alloc ?_ (by simp) _ | with_reducible refine Below.setCell ?_ (by simp) _)))).mono ?_; rintro e' w' ⟨rfl, rfl⟩
  go_wp2_with fail
  refine (zAt a len cap z 5 _ rfl (by decide) _ (HR.out.below (by repeat (first | with_reducible exact Below.refl _ _ | with_reducible apply below_drewN | with_reducible apply Below.drew | with_reducible refine below_gw ?_ (by simp) _ | with_reducible refine Below.alloc ?_ (by simp) _ | with_reducible refine Below.setCell ?_ (by simp) _)))).mono ?_; rintro e' w' ⟨rfl, rfl⟩
  go_wp2_with fail
  refine (zAt a len cap z 6 _ rfl (by decide) _ (HR.out.below (by repeat (first | with_reducible exact Below.refl _ _ | with_reducible apply below_drewN | with_reducible apply Below.drew | with_reducible refine below_gw ?_ (by simp) _ | with_reducible refine Below.alloc ?_ (by simp) _ | with_reducible refine Below.setCell ?_ (by simp) _)))).mono ?_; rintro e' w' ⟨rfl, rfl⟩
  go_wp2_with fail
  refine (zAt a len cap z 7 _ rfl (by decide) _ (HR.out.below (by repeat (first | with_reducible exact Below.refl _ _ | with_reducible apply below_drewN | with_reducible apply Below.drew | with_reducible refine below_gw ?_ (by simp) _ | with_reducible refine Below.alloc ?_ (by simp) _ | with_reducible refine Below.setCell ?_ (by simp) _)))).mono ?_; rintro e' w' ⟨rfl, rfl⟩
  go_wp2_with fail
  refine (zAt a len cap z 8 _ rfl (by decide) _ (HR.out.below (by repeat (first | with_reducible exact Below.refl _ _ | with_reducible apply below_drewN | with_reducible apply Below.drew | with_reducible refine below_gw ?_ (by simp) _ | with_reducible refine Below.alloc ?_ (by simp) _ | with_reducible refine Below.setCell ?_ (by simp) _)))).mono ?_; rintro e' w' ⟨rfl, rfl⟩
  go_wp2_with fail
  refine (zAt a len cap z 9 _ rfl (by decide) _ (HR.out.below (by repeat (first | with_reducible exact Below.refl _ _ | with_reducible apply below_drewN | with_reducible apply Below.drew | with_reducible refine below_gw ?_ (by simp) _ | with_reducible refine Below.alloc ?_ (by simp) _ | with_reducible refine Below.setCell ?_ (by simp) _)))).mono ?_; rintro e' w' ⟨rfl, rfl⟩
  go_wp2_with fail
  refine (zAt a len cap z 10 _ rfl (by decide) _ (HR.out.below (by repeat (first | with_reducible exact Below.refl _ _ | with_reducible apply below_drewN | with_reducible apply Below.drew | with_reducible refine below_gw ?_ (by simp) _ | with_reducible refine Below.alloc ?_ (by simp) _ | with_reducible refine Below.setCell ?_ (by simp) _)))).mono ?_; rintro e' w' ⟨rfl, rfl⟩
  go_wp2_with fail
  refine (zAt a len cap z 11 _ rfl (by decide) _ (HR.out.below (by repeat (first | with_reducible exact Below.refl _ _ | with_reducible apply below_drewN | with_reducible apply Below.drew | with_reducible refine below_gw ?_ (by simp) _ | with_reducible refine Below.alloc ?_ (by simp) _ | with_reducible refine Below.setCell ?_ (by simp) _)))).mono ?_; rintro e' w' ⟨rfl, rfl⟩
  go_wp2_with fail
  refine regionTail 7 (by kernel_rfl) (by kernel_rfl) ?_
  simp only [List.take_succ_cons, List.take_zero, List.drop_succ_cons, List.drop_zero]
  repeat still_step
  still_call (turnS (zAt a len cap z 12 _ rfl (by decide) _ (HR.out.below (by repeat (first | with_reducible exact Below.refl _ _ | with_reducible apply below_drewN | with_reducible apply Below.drew | with_reducible refine below_gw ?_ (by simp) _ | with_reducible refine Below.alloc ?_ (by simp) _ | with_reducible refine Below.setCell ?_ (by simp) _)))))
  repeat still_step
  refine wpStill_nil ?_
  go_wp2_with fail
  refine regionTail 7 (by kernel_rfl) (by kernel_rfl) ?_
  simp only [List.take_succ_cons, List.take_zero, List.drop_succ_cons, List.drop_zero]
  repeat still_step
  still_call (turnS (zAt a len cap z 13 _ rfl (by decide) _ (HR.out.below (by repeat (first | with_reducible exact Below.refl _ _ | with_reducible apply below_drewN | with_reducible apply Below.drew | with_reducible refine below_gw ?_ (by simp) _ | with_reducible refine Below.alloc ?_ (by simp) _ | with_reducible refine Below.setCell ?_ (by simp) _)))))
  repeat still_step
  refine wpStill_nil ?_
  go_wp2_with fail
  refine (zAt a len cap z 14 _ rfl (by decide) _ (HR.out.below (by repeat (first | with_reducible exact Below.refl _ _ | with_reducible apply below_drewN | with_reducible apply Below.drew | with_reducible refine below_gw ?_ (by simp) _ | with_reducible refine Below.alloc ?_ (by simp) _ | with_reducible refine Below.setCell ?_ (by simp) _)))).mono ?_; rintro e' w' ⟨rfl, rfl⟩
  go_wp2_with fail
  refine (zAt a len cap z 15 _ rfl (by decide) _ (HR.out.below (by repeat (first | with_reducible exact Below.refl _ _ | with_reducible apply below_drewN | with_reducible apply Below.drew | with_reducible refine below_gw ?_ (by simp) _ | with_reducible refine Below.alloc ?_ (by simp) _ | with_reducible refine Below.setCell ?_ (by simp) _)))).mono ?_; rintro e' w' ⟨rfl, rfl⟩
  go_wp2_with fail
  refine (zAt a len cap z 16 _ rfl (by decide) _ (HR.out.below (by repeat (first | with_reducible exact Below.refl _ _ | with_reducible apply below_drewN | with_reducible apply Below.drew | with_reducible refine below_gw ?_ (by simp) _ | with_reducible refine Below.alloc ?_ (by simp) _ | with_reducible refine Below.setCell ?_ (by simp) _)))).mono ?_; rintro e' w' ⟨rfl, rfl⟩
  go_upto_region 24 with fail
  go_wp2_with (refine wpList_load_row rfl 24 (.tmp 3) rfl (w.heap.size + 1) rfl 24 #[.int .i64 v0, .int .u64 0, .int .i64 v2, .int .u64 4611686018427387903, .int .i64 v4, .int .u64 v5, .int .u64 v6, .int .u64 v7, .int .u64 v8, .int .i64 v9, .int .u64 v10, .int .u64 v11, .int .u64 v12, .int .u64 v13, .int .u64 v14, .int .i64 m15, .int .u64 v16] (0, 0) _ (heap_top5 _ _ _ _) Try.underlying24 rfl (by kernel_rfl) ?_; refine wpList_store_row rfl 24 (.tmp 2) (.tmp 120) rfl w.heap.size #[.int .i64 v0, .int .u64 0, .int .i64 v2, .int .u64 4611686018427387903, .int .i64 v4, .int .u64 v5, .int .u64 v6, .int .u64 v7, .int .u64 v8, .int .i64 v9, .int .u64 v10, .int .u64 v11, .int .u64 v12, .int .u64 v13, .int .u64 v14, .int .i64 m15, .int .u64 v16] rfl rfl 24 #[.int .i64 0, .int .u64 0, .int .i64 0, .int .u64 0, .int .i64 0, .int .u64 0, .int .u64 0, .int .u64 0, .int .u64 0, .int .i64 0, .int .u64 0, .int .u64 0, .int .u64 0, .int .u64 0, .int .u64 0, .int .i64 0, .int .u64 0] (heap_mid5 _ _ _ _) (by kernel_rfl) rfl (by first | kernel_rfl | simp [Value.oneCell'] | rfl) ?_; rw [setRow_mid5])
  exact bodyPost_ret (v := .agg #[.int .i64 v0, .int .u64 0, .int .i64 v2, .int .u64 4611686018427387903, .int .i64 v4, .int .u64 v5, .int .u64 v6, .int .u64 v7, .int .u64 v8, .int .i64 v9, .int .u64 v10, .int .u64 v11, .int .u64 v12, .int .u64 v13, .int .u64 v14, .int .i64 m15, .int .u64 v16]) (results_cell_row Try.results16 _ _ w.heap.size _ _ _ _ rfl (heap_mid5 _ _ _ _) Try.underlying24 rfl (by kernel_rfl)) rfl ⟨rfl, by repeat (first | exact Gr.refl _ | apply Gr.drewN | apply Gr.drew | apply Gr.gw | apply Gr.alloc)⟩

set_option maxHeartbeats 4000000 in
theorem confWFTT (a : Option Addr) (len cap : Nat) (z : Nat → Int) (w : World) (h : Nums w a len z) (d d5 d7 m0 m1 m10 m11 m12 m13 m14 m15 m16 m2 m3 m4 m5 m6 m7 m8 m9 r5 v1 v10 v11 v12 v13 v14 v16 v2 v3 v4 v5 v6 v7 v8 v9 : Int) (t0 : (atF len z 0).tmod 40 = m0) (t1 : (atF len z 1).tmod 50 = m1) (t2 : (atF len z 2).tmod 100 = m2) (t3 : (atF len z 3).tmod 400 = m3) (t4 : (atF len z 4).tmod 4 = m4) (t5 : (atF len z 5).tmod 4 = m5) (t6 : (atF len z 6).tmod 40 = m6) (t7 : (atF len z 7).tmod 4 = m7) (t8 : (atF len z 8).tmod 300 = m8) (t9 : (atF len z 9).tmod 2 = m9) (t10 : (atF len z 10).tmod 200000 = m10) (t11 : (atF len z 11).tmod 2000 = m11) (t12 : (atF len z 12).tmod 400000 = m12) (t13 : (atF len z 13).tmod 400 = m13) (t14 : (atF len z 14).tmod 100000 = m14) (t15 : (atF len z 15).tmod 5 = m15) (t16 : (atF len z 16).tmod 100000 = m16) (s5 : IntKind.u64.wrap (1 + m0) = v5) (s7a : IntKind.u64.wrap (2 * v5) = d) (s7 : IntKind.u64.wrap (d + m1) = v7) (s6 : IntKind.u64.wrap (v7 + m2) = v6) (s8 : IntKind.u64.wrap (v6 + m3) = v8) (q5a : (atF len z 5).tdiv 4 = d5) (q5b : IntKind.u64.wrap (d5) = d5) (q5 : d5.tmod 30 = r5) (s1 : IntKind.u64.wrap (2 + r5) = v1) (q7a : (atF len z 7).tdiv 4 = d7) (q7b : IntKind.u64.wrap (d7) = d7) (q7 : d7.tmod 60 = v3) (s2a : IntKind.i64.wrap (m6) = m6) (s2 : IntKind.i64.wrap (4 + m6) = v2) (s4a : IntKind.i64.wrap (m8) = m8) (s4 : IntKind.i64.wrap (1 + m8) = v4) (s9a : IntKind.i64.wrap (m9) = m9) (s9 : IntKind.i64.wrap (1 + m9) = v9) (s10 : IntKind.u64.wrap (1 + m10) = v10) (s11 : IntKind.u64.wrap (1 + m11) = v11) (s12 : IntKind.u64.wrap (v11 + m12) = v12) (s13 : IntKind.u64.wrap (v5 + m13) = v13) (s14 : IntKind.u64.wrap (1 + m14) = v14) (s15 : IntKind.i64.wrap (m15) = m15) (s16 : IntKind.u64.wrap (1 + m16) = v16)
    (c4 : (m4 == 1) = false) (c5 : decide (0 < m5) = true) (c7 : (m7 == 1) = true) :
    Calls Try.prog 16 #[.slice a len cap] w fun e w' => e = .returned (.agg #[.int .i64 64, .int .u64 v1, .int .i64 v2, .int .u64 v3, .int .i64 v4, .int .u64 v5, .int .u64 v6, .int .u64 v7, .int .u64 v8, .int .i64 v9, .int .u64 v10, .int .u64 v11, .int .u64 v12, .int .u64 v13, .int .u64 v14, .int .i64 m15, .int .u64 v16]) ∧ Gr w w' := by
  have HR := Lib.hid h
  clear h
  go_enter Try.func16, Try.ntmps16
  go_wp2_with fail
  refine (zAt a len cap z 0 _ rfl (by decide) _ (HR.out.below (by repeat (first | with_reducible exact Below.refl _ _ | with_reducible apply below_drewN | with_reducible apply Below.drew | with_reducible refine below_gw ?_ (by simp) _ | with_reducible refine Below.alloc ?_ (by simp) _ | with_reducible refine Below.setCell ?_ (by simp) _)))).mono ?_; rintro e' w' ⟨rfl, rfl⟩
  go_wp2_with fail
  refine regionTail 8 (by kernel_rfl) (by kernel_rfl) ?_
  simp only [List.take_succ_cons, List.take_zero, List.drop_succ_cons, List.drop_zero]
  repeat still_step
  still_call (turnS (zAt a len cap z 1 _ rfl (by decide) _ (HR.out.below (by repeat (first | with_reducible exact Below.refl _ _ | with_reducible apply below_drewN | with_reducible apply Below.drew | with_reducible refine below_gw ?_ (by simp) _ | with_reducible refine Below.alloc ?_ (by simp) _ | with_reducible refine Below.setCell ?_ (by simp) _)))))
  repeat still_step
  refine wpStill_nil ?_
  go_wp2_with fail
  refine regionTail 7 (by kernel_rfl) (by kernel_rfl) ?_
  simp only [List.take_succ_cons, List.take_zero, List.drop_succ_cons, List.drop_zero]
  repeat still_step
  still_call (turnS (zAt a len cap z 2 _ rfl (by decide) _ (HR.out.below (by repeat (first | with_reducible exact Below.refl _ _ | with_reducible apply below_drewN | with_reducible apply Below.drew | with_reducible refine below_gw ?_ (by simp) _ | with_reducible refine Below.alloc ?_ (by simp) _ | with_reducible refine Below.setCell ?_ (by simp) _)))))
  repeat still_step
  refine wpStill_nil ?_
  go_wp2_with fail
  refine regionTail 7 (by kernel_rfl) (by kernel_rfl) ?_
  simp only [List.take_succ_cons, List.take_zero, List.drop_succ_cons, List.drop_zero]
  repeat still_step
  still_call (turnS (zAt a len cap z 3 _ rfl (by decide) _ (HR.out.below (by repeat (first | with_reducible exact Below.refl _ _ | with_reducible apply below_drewN | with_reducible apply Below.drew | with_reducible refine below_gw ?_ (by simp) _ | with_reducible refine Below.alloc ?_ (by simp) _ | with_reducible refine Below.setCell ?_ (by simp) _)))))
  repeat still_step
  refine wpStill_nil ?_
  go_wp2_with fail
  refine (zAt a len cap z 4 _ rfl (by decide) _ (HR.out.below (by repeat (first | with_reducible exact Below.refl _ _ | with_reducible apply below_drewN | with_reducible apply Below.drew | with_reducible refine below_gw ?_ (by simp) _ | with_reducible refine Below.alloc ?_ (by simp) _ | with_reducible refine Below.setCell ?_ (by simp) _)))).mono ?_; rintro e' w' ⟨rfl, rfl⟩
  go_wp2_with fail
  refine (zAt a len cap z 5 _ rfl (by decide) _ (HR.out.below (by repeat (first | with_reducible exact Below.refl _ _ | with_reducible apply below_drewN | with_reducible apply Below.drew | with_reducible refine below_gw ?_ (by simp) _ | with_reducible refine Below.alloc ?_ (by simp) _ | with_reducible refine Below.setCell ?_ (by simp) _)))).mono ?_; rintro e' w' ⟨rfl, rfl⟩
  go_wp2_with fail
  refine (zAt a len cap z 5 _ rfl (by decide) _ (HR.out.below (by repeat (first | with_reducible exact Below.refl _ _ | with_reducible apply below_drewN | with_reducible apply Below.drew | with_reducible refine below_gw ?_ (by simp) _ | with_reducible refine Below.alloc ?_ (by simp) _ | with_reducible refine Below.setCell ?_ (by simp) _)))).mono ?_; rintro e' w' ⟨rfl, rfl⟩
  go_wp2_with fail
  refine (zAt a len cap z 6 _ rfl (by decide) _ (HR.out.below (by repeat (first | with_reducible exact Below.refl _ _ | with_reducible apply below_drewN | with_reducible apply Below.drew | with_reducible refine below_gw ?_ (by simp) _ | with_reducible refine Below.alloc ?_ (by simp) _ | with_reducible refine Below.setCell ?_ (by simp) _)))).mono ?_; rintro e' w' ⟨rfl, rfl⟩
  go_wp2_with fail
  refine (zAt a len cap z 7 _ rfl (by decide) _ (HR.out.below (by repeat (first | with_reducible exact Below.refl _ _ | with_reducible apply below_drewN | with_reducible apply Below.drew | with_reducible refine below_gw ?_ (by simp) _ | with_reducible refine Below.alloc ?_ (by simp) _ | with_reducible refine Below.setCell ?_ (by simp) _)))).mono ?_; rintro e' w' ⟨rfl, rfl⟩
  go_wp2_with fail
  refine (zAt a len cap z 7 _ rfl (by decide) _ (HR.out.below (by repeat (first | with_reducible exact Below.refl _ _ | with_reducible apply below_drewN | with_reducible apply Below.drew | with_reducible refine below_gw ?_ (by simp) _ | with_reducible refine Below.alloc ?_ (by simp) _ | with_reducible refine Below.setCell ?_ (by simp) _)))).mono ?_; rintro e' w' ⟨rfl, rfl⟩
  go_wp2_with fail
  refine (zAt a len cap z 8 _ rfl (by decide) _ (HR.out.below (by repeat (first | with_reducible exact Below.refl _ _ | with_reducible apply below_drewN | with_reducible apply Below.drew | with_reducible refine below_gw ?_ (by simp) _ | with_reducible refine Below.alloc ?_ (by simp) _ | with_reducible refine Below.setCell ?_ (by simp) _)))).mono ?_; rintro e' w' ⟨rfl, rfl⟩
  go_wp2_with fail
  refine (zAt a len cap z 9 _ rfl (by decide) _ (HR.out.below (by repeat (first | with_reducible exact Below.refl _ _ | with_reducible apply below_drewN | with_reducible apply Below.drew | with_reducible refine below_gw ?_ (by simp) _ | with_reducible refine Below.alloc ?_ (by simp) _ | with_reducible refine Below.setCell ?_ (by simp) _)))).mono ?_; rintro e' w' ⟨rfl, rfl⟩
  go_wp2_with fail
  refine (zAt a len cap z 10 _ rfl (by decide) _ (HR.out.below (by repeat (first | with_reducible exact Below.refl _ _ | with_reducible apply below_drewN | with_reducible apply Below.drew | with_reducible refine below_gw ?_ (by simp) _ | with_reducible refine Below.alloc ?_ (by simp) _ | with_reducible refine Below.setCell ?_ (by simp) _)))).mono ?_; rintro e' w' ⟨rfl, rfl⟩
  go_wp2_with fail
  refine (zAt a len cap z 11 _ rfl (by decide) _ (HR.out.below (by repeat (first | with_reducible exact Below.refl _ _ | with_reducible apply below_drewN | with_reducible apply Below.drew | with_reducible refine below_gw ?_ (by simp) _ | with_reducible refine Below.alloc ?_ (by simp) _ | with_reducible refine Below.setCell ?_ (by simp) _)))).mono ?_; rintro e' w' ⟨rfl, rfl⟩
  go_wp2_with fail
  refine regionTail 7 (by kernel_rfl) (by kernel_rfl) ?_
  simp only [List.take_succ_cons, List.take_zero, List.drop_succ_cons, List.drop_zero]
  repeat still_step
  still_call (turnS (zAt a len cap z 12 _ rfl (by decide) _ (HR.out.below (by repeat (first | with_reducible exact Below.refl _ _ | with_reducible apply below_drewN | with_reducible apply Below.drew | with_reducible refine below_gw ?_ (by simp) _ | with_reducible refine Below.alloc ?_ (by simp) _ | with_reducible refine Below.setCell ?_ (by simp) _)))))
  repeat still_step
  refine wpStill_nil ?_
  go_wp2_with fail
  refine regionTail 7 (by kernel_rfl) (by kernel_rfl) ?_
  simp only [List.take_succ_cons, List.take_zero, List.drop_succ_cons, List.drop_zero]
  repeat still_step
  still_call (turnS (zAt a len cap z 13 _ rfl (by decide) _ (HR.out.below (by repeat (first | with_reducible exact Below.refl _ _ | with_reducible apply below_drewN | with_reducible apply Below.drew | with_reducible refine below_gw ?_ (by simp) _ | with_reducible refine Below.alloc ?_ (by simp) _ | with_reducible refine Below.setCell ?_ (by simp) _)))))
  repeat still_step
  refine wpStill_nil ?_
  go_wp2_with fail
  refine (zAt a len cap z 14 _ rfl (by decide) _ (HR.out.below (by repeat (first | with_reducible exact Below.refl _ _ | with_reducible apply below_drewN | with_reducible apply Below.drew | with_reducible refine below_gw ?_ (by simp) _ | with_reducible refine Below.alloc ?_ (by simp) _ | with_reducible refine Below.setCell ?_ (by simp) _)))).mono ?_; rintro e' w' ⟨rfl, rfl⟩
  go_wp2_with fail
  refine (zAt a len cap z 15 _ rfl (by decide) _ (HR.out.below (by repeat (first | with_reducible exact Below.refl _ _ | with_reducible apply below_drewN | with_reducible apply Below.drew | with_reducible refine below_gw ?_ (by simp) _ | with_reducible refine Below.alloc ?_ (by simp) _ | with_reducible refine Below.setCell ?_ (by simp) _)))).mono ?_; rintro e' w' ⟨rfl, rfl⟩
  go_wp2_with fail
  refine (zAt a len cap z 16 _ rfl (by decide) _ (HR.out.below (by repeat (first | with_reducible exact Below.refl _ _ | with_reducible apply below_drewN | with_reducible apply Below.drew | with_reducible refine below_gw ?_ (by simp) _ | with_reducible refine Below.alloc ?_ (by simp) _ | with_reducible refine Below.setCell ?_ (by simp) _)))).mono ?_; rintro e' w' ⟨rfl, rfl⟩
  go_upto_region 24 with fail
  go_wp2_with (refine wpList_load_row rfl 24 (.tmp 3) rfl (w.heap.size + 1) rfl 24 #[.int .i64 64, .int .u64 v1, .int .i64 v2, .int .u64 v3, .int .i64 v4, .int .u64 v5, .int .u64 v6, .int .u64 v7, .int .u64 v8, .int .i64 v9, .int .u64 v10, .int .u64 v11, .int .u64 v12, .int .u64 v13, .int .u64 v14, .int .i64 m15, .int .u64 v16] (0, 0) _ (heap_top5 _ _ _ _) Try.underlying24 rfl (by kernel_rfl) ?_; refine wpList_store_row rfl 24 (.tmp 2) (.tmp 120) rfl w.heap.size #[.int .i64 64, .int .u64 v1, .int .i64 v2, .int .u64 v3, .int .i64 v4, .int .u64 v5, .int .u64 v6, .int .u64 v7, .int .u64 v8, .int .i64 v9, .int .u64 v10, .int .u64 v11, .int .u64 v12, .int .u64 v13, .int .u64 v14, .int .i64 m15, .int .u64 v16] rfl rfl 24 #[.int .i64 0, .int .u64 0, .int .i64 0, .int .u64 0, .int .i64 0, .int .u64 0, .int .u64 0, .int .u64 0, .int .u64 0, .int .i64 0, .int .u64 0, .int .u64 0, .int .u64 0, .int .u64 0, .int .u64 0, .int .i64 0, .int .u64 0] (heap_mid5 _ _ _ _) (by kernel_rfl) rfl (by first | kernel_rfl | simp [Value.oneCell'] | rfl) ?_; rw [setRow_mid5])
  exact bodyPost_ret (v := .agg #[.int .i64 64, .int .u64 v1, .int .i64 v2, .int .u64 v3, .int .i64 v4, .int .u64 v5, .int .u64 v6, .int .u64 v7, .int .u64 v8, .int .i64 v9, .int .u64 v10, .int .u64 v11, .int .u64 v12, .int .u64 v13, .int .u64 v14, .int .i64 m15, .int .u64 v16]) (results_cell_row Try.results16 _ _ w.heap.size _ _ _ _ rfl (heap_mid5 _ _ _ _) Try.underlying24 rfl (by kernel_rfl)) rfl ⟨rfl, by repeat (first | exact Gr.refl _ | apply Gr.drewN | apply Gr.drew | apply Gr.gw | apply Gr.alloc)⟩

set_option maxHeartbeats 4000000 in
theorem confWFTF (a : Option Addr) (len cap : Nat) (z : Nat → Int) (w : World) (h : Nums w a len z) (d d5 m0 m1 m10 m11 m12 m13 m14 m15 m16 m2 m3 m4 m5 m6 m7 m8 m9 r5 v1 v10 v11 v12 v13 v14 v16 v2 v4 v5 v6 v7 v8 v9 : Int) (t0 : (atF len z 0).tmod 40 = m0) (t1 : (atF len z 1).tmod 50 = m1) (t2 : (atF len z 2).tmod 100 = m2) (t3 : (atF len z 3).tmod 400 = m3) (t4 : (atF len z 4).tmod 4 = m4) (t5 : (atF len z 5).tmod 4 = m5) (t6 : (atF len z 6).tmod 40 = m6) (t7 : (atF len z 7).tmod 4 = m7) (t8 : (atF len z 8).tmod 300 = m8) (t9 : (atF len z 9).tmod 2 = m9) (t10 : (atF len z 10).tmod 200000 = m10) (t11 : (atF len z 11).tmod 2000 = m11) (t12 : (atF len z 12).tmod 400000 = m12) (t13 : (atF len z 13).tmod 400 = m13) (t14 : (atF len z 14).tmod 100000 = m14) (t15 : (atF len z 15).tmod 5 = m15) (t16 : (atF len z 16).tmod 100000 = m16) (s5 : IntKind.u64.wrap (1 + m0) = v5) (s7a : IntKind.u64.wrap (2 * v5) = d) (s7 : IntKind.u64.wrap (d + m1) = v7) (s6 : IntKind.u64.wrap (v7 + m2) = v6) (s8 : IntKind.u64.wrap (v6 + m3) = v8) (q5a : (atF len z 5).tdiv 4 = d5) (q5b : IntKind.u64.wrap (d5) = d5) (q5 : d5.tmod 30 = r5) (s1 : IntKind.u64.wrap (2 + r5) = v1) (s2a : IntKind.i64.wrap (m6) = m6) (s2 : IntKind.i64.wrap (4 + m6) = v2) (s4a : IntKind.i64.wrap (m8) = m8) (s4 : IntKind.i64.wrap (1 + m8) = v4) (s9a : IntKind.i64.wrap (m9) = m9) (s9 : IntKind.i64.wrap (1 + m9) = v9) (s10 : IntKind.u64.wrap (1 + m10) = v10) (s11 : IntKind.u64.wrap (1 + m11) = v11) (s12 : IntKind.u64.wrap (v11 + m12) = v12) (s13 : IntKind.u64.wrap (v5 + m13) = v13) (s14 : IntKind.u64.wrap (1 + m14) = v14) (s15 : IntKind.i64.wrap (m15) = m15) (s16 : IntKind.u64.wrap (1 + m16) = v16)
    (c4 : (m4 == 1) = false) (c5 : decide (0 < m5) = true) (c7 : (m7 == 1) = false) :
    Calls Try.prog 16 #[.slice a len cap] w fun e w' => e = .returned (.agg #[.int .i64 64, .int .u64 v1, .int .i64 v2, .int .u64 4611686018427387903, .int .i64 v4, .int .u64 v5, .int .u64 v6, .int .u64 v7, .int .u64 v8, .int .i64 v9, .int .u64 v10, .int .u64 v11, .int .u64 v12, .int .u64 v13, .int .u64 v14, .int .i64 m15, .int .u64 v16]) ∧ Gr w w' := by
  have HR := Lib.hid h
  clear h
  go_enter Try.func16, Try.ntmps16
  go_wp2_with fail
  refine (zAt a len cap z 0 _ rfl (by decide) _ (HR.out.below (by repeat (first | with_reducible exact Below.refl _ _ | with_reducible apply below_drewN | with_reducible apply Below.drew | with_reducible refine below_gw ?_ (by simp) _ | with_reducible refine Below.alloc ?_ (by simp) _ | with_reducible refine Below.setCell ?_ (by simp) _)))).mono ?_; rintro e' w' ⟨rfl, rfl⟩
  go_wp2_with fail
  refine regionTail 8 (by kernel_rfl) (by kernel_rfl) ?_
  simp only [List.take_succ_cons, List.take_zero, List.drop_succ_cons, List.drop_zero]
  repeat still_step
  still_call (turnS (zAt a len cap z 1 _ rfl (by decide) _ (HR.out.below (by repeat (first | with_reducible exact Below.refl _ _ | with_reducible apply below_drewN | with_reducible apply Below.drew | with_reducible refine below_gw ?_ (by simp) _ | with_reducible refine Below.alloc ?_ (by simp) _ | with_reducible refine Below.setCell ?_ (by simp) _)))))
  repeat still_step
  refine wpStill_nil ?_
  go_wp2_with fail
  refine regionTail 7 (by kernel_rfl) (by kernel_rfl) ?_
  simp only [List.take_succ_cons, List.take_zero, List.drop_succ_cons, List.drop_zero]
  repeat still_step
  still_call (turnS (zAt a len cap z 2 _ rfl (by decide) _ (HR.out.below (by repeat (first | with_reducible exact Below.refl _ _ | with_reducible apply below_drewN | with_reducible apply Below.drew | with_reducible refine below_gw ?_ (by simp) _ | with_reducible refine Below.alloc ?_ (by simp) _ | with_reducible refine Below.setCell ?_ (by simp) _)))))
  repeat still_step
  refine wpStill_nil ?_
  go_wp2_with fail
  refine regionTail 7 (by kernel_rfl) (by kernel_rfl) ?_
  simp only [List.take_succ_cons, List.take_zero, List.drop_succ_cons, List.drop_zero]
  repeat still_step
  still_call (turnS (zAt a len cap z 3 _ rfl (by decide) _ (HR.out.below (by repeat (first | with_reducible exact Below.refl _ _ | with_reducible apply below_drewN | with_reducible apply Below.drew | with_reducible refine below_gw ?_ (by simp) _ | with_reducible refine Below.alloc ?_ (by simp) _ | with_reducible refine Below.setCell ?_ (by simp) _)))))
  repeat still_step
  refine wpStill_nil ?_
  go_wp2_with fail
  refine (zAt a len cap z 4 _ rfl (by decide) _ (HR.out.below (by repeat (first | with_reducible exact Below.refl _ _ | with_reducible apply below_drewN | with_reducible apply Below.drew | with_reducible refine below_gw ?_ (by simp) _ | with_reducible refine Below.alloc ?_ (by simp) _ | with_reducible refine Below.setCell ?_ (by simp) _)))).mono ?_; rintro e' w' ⟨rfl, rfl⟩
  go_wp2_with fail
  refine (zAt a len cap z 5 _ rfl (by decide) _ (HR.out.below (by repeat (first | with_reducible exact Below.refl _ _ | with_reducible apply below_drewN | with_reducible apply Below.drew | with_reducible refine below_gw ?_ (by simp) _ | with_reducible refine Below.alloc ?_ (by simp) _ | with_reducible refine Below.setCell ?_ (by simp) _)))).mono ?_; rintro e' w' ⟨rfl, rfl⟩
  go_wp2_with fail
  refine (zAt a len cap z 5 _ rfl (by decide) _ (HR.out.below (by repeat (first | with_reducible exact Below.refl _ _ | with_reducible apply below_drewN | with_reducible apply Below.drew | with_reducible refine below_gw ?_ (by simp) _ | with_reducible refine Below.alloc ?_ (by simp) _ | with_reducible refine Below.setCell ?_ (by simp) _)))).mono ?_; rintro e' w' ⟨rfl, rfl⟩
  go_wp2_with fail
  refine (zAt a len cap z 6 _ rfl (by decide) _ (HR.out.below (by repeat (first | with_reducible exact Below.refl _ _ | with_reducible apply below_drewN | with_reducible apply Below.drew | with_reducible refine below_gw ?_ (by simp) _ | with_reducible refine Below.alloc ?_ (by simp) _ | with_reducible refine Below.setCell ?_ (by simp) _)))).mono ?_; rintro e' w' ⟨rfl, rfl⟩
  go_wp2_with fail
  refine (zAt a len cap z 7 _ rfl (by decide) _ (HR.out.below (by repeat (first | with_reducible exact Below.refl _ _ | with_reducible apply below_drewN | with_reducible apply Below.drew | with_reducible refine below_gw ?_ (by simp) _ | with_reducible refine Below.alloc ?_ (by simp) _ | with_reducible refine Below.setCell ?_ (by simp) _)))).mono ?_; rintro e' w' ⟨rfl, rfl⟩
  go_wp2_with fail
  refine (zAt a len cap z 8 _ rfl (by decide) _ (HR.out.below (by repeat (first | with_reducible exact Below.refl _ _ | with_reducible apply below_drewN | with_reducible apply Below.drew | with_reducible refine below_gw ?_ (by simp) _ | with_reducible refine Below.alloc ?_ (by simp) _ | with_reducible refine Below.setCell ?_ (by simp) _)))).mono ?_; rintro e' w' ⟨rfl, rfl⟩
  go_wp2_with fail
  refine (zAt a len cap z 9 _ rfl (by decide) _ (HR.out.below (by repeat (first | with_reducible exact Below.refl _ _ | with_reducible apply below_drewN | with_reducible apply Below.drew | with_reducible refine below_gw ?_ (by simp) _ | with_reducible refine Below.alloc ?_ (by simp) _ | with_reducible refine Below.setCell ?_ (by simp) _)))).mono ?_; rintro e' w' ⟨rfl, rfl⟩
  go_wp2_with fail
  refine (zAt a len cap z 10 _ rfl (by decide) _ (HR.out.below (by repeat (first | with_reducible exact Below.refl _ _ | with_reducible apply below_drewN | with_reducible apply Below.drew | with_reducible refine below_gw ?_ (by simp) _ | with_reducible refine Below.alloc ?_ (by simp) _ | with_reducible refine Below.setCell ?_ (by simp) _)))).mono ?_; rintro e' w' ⟨rfl, rfl⟩
  go_wp2_with fail
  refine (zAt a len cap z 11 _ rfl (by decide) _ (HR.out.below (by repeat (first | with_reducible exact Below.refl _ _ | with_reducible apply below_drewN | with_reducible apply Below.drew | with_reducible refine below_gw ?_ (by simp) _ | with_reducible refine Below.alloc ?_ (by simp) _ | with_reducible refine Below.setCell ?_ (by simp) _)))).mono ?_; rintro e' w' ⟨rfl, rfl⟩
  go_wp2_with fail
  refine regionTail 7 (by kernel_rfl) (by kernel_rfl) ?_
  simp only [List.take_succ_cons, List.take_zero, List.drop_succ_cons, List.drop_zero]
  repeat still_step
  still_call (turnS (zAt a len cap z 12 _ rfl (by decide) _ (HR.out.below (by repeat (first | with_reducible exact Below.refl _ _ | with_reducible apply below_drewN | with_reducible apply Below.drew | with_reducible refine below_gw ?_ (by simp) _ | with_reducible refine Below.alloc ?_ (by simp) _ | with_reducible refine Below.setCell ?_ (by simp) _)))))
  repeat still_step
  refine wpStill_nil ?_
  go_wp2_with fail
  refine regionTail 7 (by kernel_rfl) (by kernel_rfl) ?_
  simp only [List.take_succ_cons, List.take_zero, List.drop_succ_cons, List.drop_zero]
  repeat still_step
  still_call (turnS (zAt a len cap z 13 _ rfl (by decide) _ (HR.out.below (by repeat (first | with_reducible exact Below.refl _ _ | with_reducible apply below_drewN | with_reducible apply Below.drew | with_reducible refine below_gw ?_ (by simp) _ | with_reducible refine Below.alloc ?_ (by simp) _ | with_reducible refine Below.setCell ?_ (by simp) _)))))
  repeat still_step
  refine wpStill_nil ?_
  go_wp2_with fail
  refine (zAt a len cap z 14 _ rfl (by decide) _ (HR.out.below (by repeat (first | with_reducible exact Below.refl _ _ | with_reducible apply below_drewN | with_reducible apply Below.drew | with_reducible refine below_gw ?_ (by simp) _ | with_reducible refine Below.alloc ?_ (by simp) _ | with_reducible refine Below.setCell ?_ (by simp) _)))).mono ?_; rintro e' w' ⟨rfl, rfl⟩
  go_wp2_with fail
  refine (zAt a len cap z 15 _ rfl (by decide) _ (HR.out.below (by repeat (first | with_reducible exact Below.refl _ _ | with_reducible apply below_drewN | with_reducible apply Below.drew | with_reducible refine below_gw ?_ (by simp) _ | with_reducible refine Below.alloc ?_ (by simp) _ | with_reducible refine Below.setCell ?_ (by simp) _)))).mono ?_; rintro e' w' ⟨rfl, rfl⟩
  go_wp2_with fail
  refine (zAt a len cap z 16 _ rfl (by decide) _ (HR.out.below (by repeat (first | with_reducible exact Below.refl _ _ | with_reducible apply below_drewN | with_reducible apply Below.drew | with_reducible refine below_gw ?_ (by simp) _ | with_reducible refine Below.alloc ?_ (by simp) _ | with_reducible refine Below.setCell ?_ (by simp) _)))).mono ?_; rintro e' w' ⟨rfl, rfl⟩
  go_upto_region 24 with fail
  go_wp2_with (refine wpList_load_row rfl 24 (.tmp 3) rfl (w.heap.size + 1) rfl 24 #[.int .i64 64, .int .u64 v1, .int .i64 v2, .int .u64 4611686018427387903, .int .i64 v4, .int .u64 v5, .int .u64 v6, .int .u64 v7, .int .u64 v8, .int .i64 v9, .int .u64 v10, .int .u64 v11, .int .u64 v12, .int .u64 v13, .int .u64 v14, .int .i64 m15, .int .u64 v16] (0, 0) _ (heap_top5 _ _ _ _) Try.underlying24 rfl (by kernel_rfl) ?_; refine wpList_store_row rfl 24 (.tmp 2) (.tmp 120) rfl w.heap.size #[.int .i64 64, .int .u64 v1, .int .i64 v2, .int .u64 4611686018427387903, .int .i64 v4, .int .u64 v5, .int .u64 v6, .int .u64 v7, .int .u64 v8, .int .i64 v9, .int .u64 v10, .int .u64 v11, .int .u64 v12, .int .u64 v13, .int .u64 v14, .int .i64 m15, .int .u64 v16] rfl rfl 24 #[.int .i64 0, .int .u64 0, .int .i64 0, .int .u64 0, .int .i64 0, .int .u64 0, .int .u64 0, .int .u64 0, .int .u64 0, .int .i64 0, .int .u64 0, .int .u64 0, .int .u64 0, .int .u64 0, .int .u64 0, .int .i64 0, .int .u64 0] (heap_mid5 _ _ _ _) (by kernel_rfl) rfl (by first | kernel_rfl | simp [Value.oneCell'] | rfl) ?_; rw [setRow_mid5])
  exact bodyPost_ret (v := .agg #[.int .i64 64, .int .u64 v1, .int .i64 v2, .int .u64 4611686018427387903, .int .i64 v4, .int .u64 v5, .int .u64 v6, .int .u64 v7, .int .u64 v8, .int .i64 v9, .int .u64 v10, .int .u64 v11, .int .u64 v12, .int .u64 v13, .int .u64 v14, .int .i64 m15, .int .u64 v16]) (results_cell_row Try.results16 _ _ w.heap.size _ _ _ _ rfl (heap_mid5 _ _ _ _) Try.underlying24 rfl (by kernel_rfl)) rfl ⟨rfl, by repeat (first | exact Gr.refl _ | apply Gr.drewN | apply Gr.drew | apply Gr.gw | apply Gr.alloc)⟩

set_option maxHeartbeats 4000000 in
theorem confWFFT (a : Option Addr) (len cap : Nat) (z : Nat → Int) (w : World) (h : Nums w a len z) (d d7 m0 m1 m10 m11 m12 m13 m14 m15 m16 m2 m3 m4 m5 m6 m7 m8 m9 v10 v11 v12 v13 v14 v16 v2 v3 v4 v5 v6 v7 v8 v9 : Int) (t0 : (atF len z 0).tmod 40 = m0) (t1 : (atF len z 1).tmod 50 = m1) (t2 : (atF len z 2).tmod 100 = m2) (t3 : (atF len z 3).tmod 400 = m3) (t4 : (atF len z 4).tmod 4 = m4) (t5 : (atF len z 5).tmod 4 = m5) (t6 : (atF len z 6).tmod 40 = m6) (t7 : (atF len z 7).tmod 4 = m7) (t8 : (atF len z 8).tmod 300 = m8) (t9 : (atF len z 9).tmod 2 = m9) (t10 : (atF len z 10).tmod 200000 = m10) (t11 : (atF len z 11).tmod 2000 = m11) (t12 : (atF len z 12).tmod 400000 = m12) (t13 : (atF len z 13).tmod 400 = m13) (t14 : (atF len z 14).tmod 100000 = m14) (t15 : (atF len z 15).tmod 5 = m15) (t16 : (atF len z 16).tmod 100000 = m16) (s5 : IntKind.u64.wrap (1 + m0) = v5) (s7a : IntKind.u64.wrap (2 * v5) = d) (s7 : IntKind.u64.wrap (d + m1) = v7) (s6 : IntKind.u64.wrap (v7 + m2) = v6) (s8 : IntKind.u64.wrap (v6 + m3) = v8) (q7a : (atF len z 7).tdiv 4 = d7) (q7b : IntKind.u64.wrap (d7) = d7) (q7 : d7.tmod 60 = v3) (s2a : IntKind.i64.wrap (m6) = m6) (s2 : IntKind.i64.wrap (4 + m6) = v2) (s4a : IntKind.i64.wrap (m8) = m8) (s4 : IntKind.i64.wrap (1 + m8) = v4) (s9a : IntKind.i64.wrap (m9) = m9) (s9 : IntKind.i64.wrap (1 + m9) = v9) (s10 : IntKind.u64.wrap (1 + m10) = v10) (s11 : IntKind.u64.wrap (1 + m11) = v11) (s12 : IntKind.u64.wrap (v11 + m12) = v12) (s13 : IntKind.u64.wrap (v5 + m13) = v13) (s14 : IntKind.u64.wrap (1 + m14) = v14) (s15 : IntKind.i64.wrap (m15) = m15) (s16 : IntKind.u64.wrap (1 + m16) = v16)
    (c4 : (m4 == 1) = false) (c5 : decide (0 < m5) = false) (c7 : (m7 == 1) = true) :
    Calls Try.prog 16 #[.slice a len cap] w fun e w' => e = .returned (.agg #[.int .i64 64, .int .u64 0, .int .i64 v2, .int .u64 v3, .int .i64 v4, .int .u64 v5, .int .u64 v6, .int .u64 v7, .int .u64 v8, .int .i64 v9, .int .u64 v10, .int .u64 v11, .int .u64 v12, .int .u64 v13, .int .u64 v14, .int .i64 m15, .int .u64 v16]) ∧ Gr w w' := by
  have HR := Lib.hid h
  clear h
  go_enter Try.func16, Try.ntmps16
  go_wp2_with fail
  refine (zAt a len cap z 0 _ rfl (by decide) _ (HR.out.below (by repeat (first | with_reducible exact Below.refl _ _ | with_reducible apply below_drewN | with_reducible apply Below.drew | with_reducible refine below_gw ?_ (by simp) _ | with_reducible refine Below.alloc ?_ (by simp) _ | with_reducible refine Below.setCell ?_ (by simp) _)))).mono ?_; rintro e' w' ⟨rfl, rfl⟩
  go_wp2_with fail
  refine regionTail 8 (by kernel_rfl) (by kernel_rfl) ?_
  simp only [List.take_succ_cons, List.take_zero, List.drop_succ_cons, List.drop_zero]
  repeat still_step
  still_call (turnS (zAt a len cap z 1 _ rfl (by decide) _ (HR.out.below (by repeat (first | with_reducible exact Below.refl _ _ | with_reducible apply below_drewN | with_reducible apply Below.drew | with_reducible refine below_gw ?_ (by simp) _ | with_reducible refine Below.alloc ?_ (by simp) _ | with_reducible refine Below.setCell ?_ (by simp) _)))))
  repeat still_step
  refine wpStill_nil ?_
  go_wp2_with fail
  refine regionTail 7 (by kernel_rfl) (by kernel_rfl) ?_
  simp only [List.take_succ_cons, List.take_zero, List.drop_succ_cons, List.drop_zero]
  repeat still_step
  still_call (turnS (zAt a len cap z 2 _ rfl (by decide) _ (HR.out.below (by repeat (first | with_reducible exact Below.refl _ _ | with_reducible apply below_drewN | with_reducible apply Below.drew | with_reducible refine below_gw ?_ (by simp) _ | with_reducible refine Below.alloc ?_ (by simp) _ | with_reducible refine Below.setCell ?_ (by simp) _)))))
  repeat still_step
  refine wpStill_nil ?_
  go_wp2_with fail
  refine regionTail 7 (by kernel_rfl) (by kernel_rfl) ?_
  simp only [List.take_succ_cons, List.take_zero, List.drop_succ_cons, List.drop_zero]
  repeat still_step
  still_call (turnS (zAt a len cap z 3 _ rfl (by decide) _ (HR.out.below (by repeat (first | with_reducible exact Below.refl _ _ | with_reducible apply below_drewN | with_reducible apply Below.drew | with_reducible refine below_gw ?_ (by simp) _ | with_reducible refine Below.alloc ?_ (by simp) _ | with_reducible refine Below.setCell ?_ (by simp) _)))))
  repeat still_step
  refine wpStill_nil ?_
  go_wp2_with fail
  refine (zAt a len cap z 4 _ rfl (by decide) _ (HR.out.below (by repeat (first | with_reducible exact Below.refl _ _ | with_reducible apply below_drewN | with_reducible apply Below.drew | with_reducible refine below_gw ?_ (by simp) _ | with_reducible refine Below.alloc ?_ (by simp) _ | with_reducible refine Below.setCell ?_ (by simp) _)))).mono ?_; rintro e' w' ⟨rfl, rfl⟩
  go_wp2_with fail
  refine (zAt a len cap z 5 _ rfl (by decide) _ (HR.out.below (by repeat (first | with_reducible exact Below.refl _ _ | with_reducible apply below_drewN | with_reducible apply Below.drew | with_reducible refine below_gw ?_ (by simp) _ | with_reducible refine Below.alloc ?_ (by simp) _ | with_reducible refine Below.setCell ?_ (by simp) _)))).mono ?_; rintro e' w' ⟨rfl, rfl⟩
  go_wp2_with fail
  refine (zAt a len cap z 6 _ rfl (by decide) _ (HR.out.below (by repeat (first | with_reducible exact Below.refl _ _ | with_reducible apply below_drewN | with_reducible apply Below.drew | with_reducible refine below_gw ?_ (by simp) _ | with_reducible refine Below.alloc ?_ (by simp) _ | with_reducible refine Below.setCell ?_ (by simp) _)))).mono ?_; rintro e' w' ⟨rfl, rfl⟩
  go_wp2_with fail
  refine (zAt a len cap z 7 _ rfl (by decide) _ (HR.out.below (by repeat (first | with_reducible exact Below.refl _ _ | with_reducible apply below_drewN | with_reducible apply Below.drew | with_reducible refine below_gw ?_ (by simp) _ | with_reducible refine Below.alloc ?_ (by simp) _ | with_reducible refine Below.setCell ?_ (by simp) _)))).mono ?_; rintro e' w' ⟨rfl, rfl⟩
  go_wp2_with fail
  refine (zAt a len cap z 7 _ rfl (by decide) _ (HR.out.below (by repeat (first | with_reducible exact Below.refl _ _ | with_reducible apply below_drewN | with_reducible apply Below.drew | with_reducible refine below_gw ?_ (by simp) _ | with_reducible refine Below.alloc ?_ (by simp) _ | with_reducible refine Below.setCell ?_ (by simp) _)))).mono ?_; rintro e' w' ⟨rfl, rfl⟩
  go_wp2_with fail
  refine (zAt a len cap z 8 _ rfl (by decide) _ (HR.out.below (by repeat (first | with_reducible exact Below.refl _ _ | with_reducible apply below_drewN | with_reducible apply Below.drew | with_reducible refine below_gw ?_ (by simp) _ | with_reducible refine Below.alloc ?_ (by simp) _ | with_reducible refine Below.setCell ?_ (by simp) _)))).mono ?_; rintro e' w' ⟨rfl, rfl⟩
  go_wp2_with fail
  refine (zAt a len cap z 9 _ rfl (by decide) _ (HR.out.below (by repeat (first | with_reducible exact Below.refl _ _ | with_reducible apply below_drewN | with_reducible apply Below.drew | with_reducible refine below_gw ?_ (by simp) _ | with_reducible refine Below.alloc ?_ (by simp) _ | with_reducible refine Below.setCell ?_ (by simp) _)))).mono ?_; rintro e' w' ⟨rfl, rfl⟩
  go_wp2_with fail
  refine (zAt a len cap z 10 _ rfl (by decide) _ (HR.out.below (by repeat (first | with_reducible exact Below.refl _ _ | with_reducible apply below_drewN | with_reducible apply Below.drew | with_reducible refine below_gw ?_ (by simp) _ | with_reducible refine Below.alloc ?_ (by simp) _ | with_reducible refine Below.setCell ?_ (by simp) _)))).mono ?_; rintro e' w' ⟨rfl, rfl⟩
  go_wp2_with fail
  refine (zAt a len cap z 11 _ rfl (by decide) _ (HR.out.below (by repeat (first | with_reducible exact Below.refl _ _ | with_reducible apply below_drewN | with_reducible apply Below.drew | with_reducible refine below_gw ?_ (by simp) _ | with_reducible refine Below.alloc ?_ (by simp) _ | with_reducible refine Below.setCell ?_ (by simp) _)))).mono ?_; rintro e' w' ⟨rfl, rfl⟩
  go_wp2_with fail
  refine regionTail 7 (by kernel_rfl) (by kernel_rfl) ?_
  simp only [List.take_succ_cons, List.take_zero, List.drop_succ_cons, List.drop_zero]
  repeat still_step
  still_call (turnS (zAt a len cap z 12 _ rfl (by decide) _ (HR.out.below (by repeat (first | with_reducible exact Below.refl _ _ | with_reducible apply below_drewN | with_reducible apply Below.drew | with_reducible refine below_gw ?_ (by simp) _ | with_reducible refine Below.alloc ?_ (by simp) _ | with_reducible refine Below.setCell ?_ (by simp) _)))))
  repeat still_step
  refine wpStill_nil ?_
  go_wp2_with fail
  refine regionTail 7 (by kernel_rfl) (by kernel_rfl) ?_
  simp only [List.take_succ_cons, List.take_zero, List.drop_succ_cons, List.drop_zero]
  repeat still_step
  still_call (turnS (zAt a len cap z 13 _ rfl (by decide) _ (HR.out.below (by repeat (first | with_reducible exact Below.refl _ _ | with_reducible apply below_drewN | with_reducible apply Below.drew | with_reducible refine below_gw ?_ (by simp) _ | with_reducible refine Below.alloc ?_ (by simp) _ | with_reducible refine Below.setCell ?_ (by simp) _)))))
  repeat still_step
  refine wpStill_nil ?_
  go_wp2_with fail
  refine (zAt a len cap z 14 _ rfl (by decide) _ (HR.out.below (by repeat (first | with_reducible exact Below.refl _ _ | with_reducible apply below_drewN | with_reducible apply Below.drew | with_reducible refine below_gw ?_ (by simp) _ | with_reducible refine Below.alloc ?_ (by simp) _ | with_reducible refine Below.setCell ?_ (by simp) _)))).mono ?_; rintro e' w' ⟨rfl, rfl⟩
  go_wp2_with fail
  refine (zAt a len cap z 15 _ rfl (by decide) _ (HR.out.below (by repeat (first | with_reducible exact Below.refl _ _ | with_reducible apply below_drewN | with_reducible apply Below.drew | with_reducible refine below_gw ?_ (by simp) _ | with_reducible refine Below.alloc ?_ (by simp) _ | with_reducible refine Below.setCell ?_ (by simp) _)))).mono ?_; rintro e' w' ⟨rfl, rfl⟩
  go_wp2_with fail
  refine (zAt a len cap z 16 _ rfl (by decide) _ (HR.out.below (by repeat (first | with_reducible exact Below.refl _ _ | with_reducible apply below_drewN | with_reducible apply Below.drew | with_reducible refine below_gw ?_ (by simp) _ | with_reducible refine Below.alloc ?_ (by simp) _ | with_reducible refine Below.setCell ?_ (by simp) _)))).mono ?_; rintro e' w' ⟨rfl, rfl⟩
  go_upto_region 24 with fail
  go_wp2_with (refine wpList_load_row rfl 24 (.tmp 3) rfl (w.heap.size + 1) rfl 24 #[.int .i64 64, .int .u64 0, .int .i64 v2, .int .u64 v3, .int .i64 v4, .int .u64 v5, .int .u64 v6, .int .u64 v7, .int .u64 v8, .int .i64 v9, .int .u64 v10, .int .u64 v11, .int .u64 v12, .int .u64 v13, .int .u64 v14, .int .i64 m15, .int .u64 v16] (0, 0) _ (heap_top5 _ _ _ _) Try.underlying24 rfl (by kernel_rfl) ?_; refine wpList_store_row rfl 24 (.tmp 2) (.tmp 120) rfl w.heap.size #[.int .i64 64, .int .u64 0, .int .i64 v2, .int .u64 v3, .int .i64 v4, .int .u64 v5, .int .u64 v6, .int .u64 v7, .int .u64 v8, .int .i64 v9, .int .u64 v10, .int .u64 v11, .int .u64 v12, .int .u64 v13, .int .u64 v14, .int .i64 m15, .int .u64 v16] rfl rfl 24 #[.int .i64 0, .int .u64 0, .int .i64 0, .int .u64 0, .int .i64 0, .int .u64 0, .int .u64 0, .int .u64 0, .int .u64 0, .int .i64 0, .int .u64 0, .int .u64 0, .int .u64 0, .int .u64 0, .int .u64 0, .int .i64 0, .int .u64 0] (heap_mid5 _ _ _ _) (by kernel_rfl) rfl (by first | kernel_rfl | simp [Value.oneCell'] | rfl) ?_; rw [setRow_mid5])
  exact bodyPost_ret (v := .agg #[.int .i64 64, .int .u64 0, .int .i64 v2, .int .u64 v3, .int .i64 v4, .int .u64 v5, .int .u64 v6, .int .u64 v7, .int .u64 v8, .int .i64 v9, .int .u64 v10, .int .u64 v11, .int .u64 v12, .int .u64 v13, .int .u64 v14, .int .i64 m15, .int .u64 v16]) (results_cell_row Try.results16 _ _ w.heap.size _ _ _ _ rfl (heap_mid5 _ _ _ _) Try.underlying24 rfl (by kernel_rfl)) rfl ⟨rfl, by repeat (first | exact Gr.refl _ | apply Gr.drewN | apply Gr.drew | apply Gr.gw | apply Gr.alloc)⟩

set_option maxHeartbeats 4000000 in
theorem confWFFF (a : Option Addr) (len cap : Nat) (z : Nat → Int) (w : World) (h : Nums w a len z) (d m0 m1 m10 m11 m12 m13 m14 m15 m16 m2 m3 m4 m5 m6 m7 m8 m9 v10 v11 v12 v13 v14 v16 v2 v4 v5 v6 v7 v8 v9 : Int) (t0 : (atF len z 0).tmod 40 = m0) (t1 : (atF len z 1).tmod 50 = m1) (t2 : (atF len z 2).tmod 100 = m2) (t3 : (atF len z 3).tmod 400 = m3) (t4 : (atF len z 4).tmod 4 = m4) (t5 : (atF len z 5).tmod 4 = m5) (t6 : (atF len z 6).tmod 40 = m6) (t7 : (atF len z 7).tmod 4 = m7) (t8 : (atF len z 8).tmod 300 = m8) (t9 : (atF len z 9).tmod 2 = m9) (t10 : (atF len z 10).tmod 200000 = m10) (t11 : (atF len z 11).tmod 2000 = m11) (t12 : (atF len z 12).tmod 400000 = m12) (t13 : (atF len z 13).tmod 400 = m13) (t14 : (atF len z 14).tmod 100000 = m14) (t15 : (atF len z 15).tmod 5 = m15) (t16 : (atF len z 16).tmod 100000 = m16) (s5 : IntKind.u64.wrap (1 + m0) = v5) (s7a : IntKind.u64.wrap (2 * v5) = d) (s7 : IntKind.u64.wrap (d + m1) = v7) (s6 : IntKind.u64.wrap (v7 + m2) = v6) (s8 : IntKind.u64.wrap (v6 + m3) = v8) (s2a : IntKind.i64.wrap (m6) = m6) (s2 : IntKind.i64.wrap (4 + m6) = v2) (s4a : IntKind.i64.wrap (m8) = m8) (s4 : IntKind.i64.wrap (1 + m8) = v4) (s9a : IntKind.i64.wrap (m9) = m9) (s9 : IntKind.i64.wrap (1 + m9) = v9) (s10 : IntKind.u64.wrap (1 + m10) = v10) (s11 : IntKind.u64.wrap (1 + m11) = v11) (s12 : IntKind.u64.wrap (v11 + m12) = v12) (s13 : IntKind.u64.wrap (v5 + m13) = v13) (s14 : IntKind.u64.wrap (1 + m14) = v14) (s15 : IntKind.i64.wrap (m15) = m15) (s16 : IntKind.u64.wrap (1 + m16) = v16)
    (c4 : (m4 == 1) = false) (c5 : decide (0 < m5) = false) (c7 : (m7 == 1) = false) :
    Calls Try.prog 16 #[.slice a len cap] w fun e w' => e = .returned (.agg #[.int .i64 64, .int .u64 0, .int .i64 v2, .int .u64 4611686018427387903, .int .i64 v4, .int .u64 v5, .int .u64 v6, .int .u64 v7, .int .u64 v8, .int .i64 v9, .int .u64 v10, .int .u64 v11, .int .u64 v12, .int .u64 v13, .int .u64 v14, .int .i64 m15, .int .u64 v16]) ∧ Gr w w' := by
  have HR := Lib.hid h
  clear h
  go_enter Try.func16, Try.ntmps16
  go_wp2_with fail
  refine (zAt a len cap z 0 _ rfl (by decide) _ (HR.out.below (by repeat (first | with_reducible exact Below.refl _ _ | with_reducible apply below_drewN | with_reducible apply Below.drew | with_reducible refine below_gw ?_ (by simp) _ | with_reducible refine Below.alloc ?_ (by simp) _ | with_reducible refine Below.setCell ?_ (by simp) _)))).mono ?_; rintro e' w' ⟨rfl, rfl⟩
  go_wp2_with fail
  refine regionTail 8 (by kernel_rfl) (by kernel_rfl) ?_
  simp only [List.take_succ_cons, List.take_zero, List.drop_succ_cons, List.drop_zero]
  repeat still_step
  still_call (turnS (zAt a len cap z 1 _ rfl (by decide) _ (HR.out.below (by repeat (first | with_reducible exact Below.refl _ _ | with_reducible apply below_drewN | with_reducible apply Below.drew | with_reducible refine below_gw ?_ (by simp) _ | with_reducible refine Below.alloc ?_ (by simp) _ | with_reducible refine Below.setCell ?_ (by simp) _)))))
  repeat still_step
  refine wpStill_nil ?_
  go_wp2_with fail
  refine regionTail 7 (by kernel_rfl) (by kernel_rfl) ?_
  simp only [List.take_succ_cons, List.take_zero, List.drop_succ_cons, List.drop_zero]
  repeat still_step
  still_call (turnS (zAt a len cap z 2 _ rfl (by decide) _ (HR.out.below (by repeat (first | with_reducible exact Below.refl _ _ | with_reducible apply below_drewN | with_reducible apply Below.drew | with_reducible refine below_gw ?_ (by simp) _ | with_reducible refine Below.alloc ?_ (by simp) _ | with_reducible refine Below.setCell ?_ (by simp) _)))))
  repeat still_step
  refine wpStill_nil ?_
  go_wp2_with fail
  refine regionTail 7 (by kernel_rfl) (by kernel_rfl) ?_
  simp only [List.take_succ_cons, List.take_zero, List.drop_succ_cons, List.drop_zero]
  repeat still_step
  still_call (turnS (zAt a len cap z 3 _ rfl (by decide) _ (HR.out.below (by repeat (first | with_reducible exact Below.refl _ _ | with_reducible apply below_drewN | with_reducible apply Below.drew | with_reducible refine below_gw ?_ (by simp) _ | with_reducible refine Below.alloc ?_ (by simp) _ | with_reducible refine Below.setCell ?_ (by simp) _)))))
  repeat still_step
  refine wpStill_nil ?_
  go_wp2_with fail
  refine (zAt a len cap z 4 _ rfl (by decide) _ (HR.out.below (by repeat (first | with_reducible exact Below.refl _ _ | with_reducible apply below_drewN | with_reducible apply Below.drew | with_reducible refine below_gw ?_ (by simp) _ | with_reducible refine Below.alloc ?_ (by simp) _ | with_reducible refine Below.setCell ?_ (by simp) _)))).mono ?_; rintro e' w' ⟨rfl, rfl⟩
  go_wp2_with fail
  refine (zAt a len cap z 5 _ rfl (by decide) _ (HR.out.below (by repeat (first | with_reducible exact Below.refl _ _ | with_reducible apply below_drewN | with_reducible apply Below.drew | with_reducible refine below_gw ?_ (by simp) _ | with_reducible refine Below.alloc ?_ (by simp) _ | with_reducible refine Below.setCell ?_ (by simp) _)))).mono ?_; rintro e' w' ⟨rfl, rfl⟩
  go_wp2_with fail
  refine (zAt a len cap z 6 _ rfl (by decide) _ (HR.out.below (by repeat (first | with_reducible exact Below.refl _ _ | with_reducible apply below_drewN | with_reducible apply Below.drew | with_reducible refine below_gw ?_ (by simp) _ | with_reducible refine Below.alloc ?_ (by simp) _ | with_reducible refine Below.setCell ?_ (by simp) _)))).mono ?_; rintro e' w' ⟨rfl, rfl⟩
  go_wp2_with fail
  refine (zAt a len cap z 7 _ rfl (by decide) _ (HR.out.below (by repeat (first | with_reducible exact Below.refl _ _ | with_reducible apply below_drewN | with_reducible apply Below.drew | with_reducible refine below_gw ?_ (by simp) _ | with_reducible refine Below.alloc ?_ (by simp) _ | with_reducible refine Below.setCell ?_ (by simp) _)))).mono ?_; rintro e' w' ⟨rfl, rfl⟩
  go_wp2_with fail
  refine (zAt a len cap z 8 _ rfl (by decide) _ (HR.out.below (by repeat (first | with_reducible exact Below.refl _ _ | with_reducible apply below_drewN | with_reducible apply Below.drew | with_reducible refine below_gw ?_ (by simp) _ | with_reducible refine Below.alloc ?_ (by simp) _ | with_reducible refine Below.setCell ?_ (by simp) _)))).mono ?_; rintro e' w' ⟨rfl, rfl⟩
  go_wp2_with fail
  refine (zAt a len cap z 9 _ rfl (by decide) _ (HR.out.below (by repeat (first | with_reducible exact Below.refl _ _ | with_reducible apply below_drewN | with_reducible apply Below.drew | with_reducible refine below_gw ?_ (by simp) _ | with_reducible refine Below.alloc ?_ (by simp) _ | with_reducible refine Below.setCell ?_ (by simp) _)))).mono ?_; rintro e' w' ⟨rfl, rfl⟩
  go_wp2_with fail
  refine (zAt a len cap z 10 _ rfl (by decide) _ (HR.out.below (by repeat (first | with_reducible exact Below.refl _ _ | with_reducible apply below_drewN | with_reducible apply Below.drew | with_reducible refine below_gw ?_ (by simp) _ | with_reducible refine Below.alloc ?_ (by simp) _ | with_reducible refine Below.setCell ?_ (by simp) _)))).mono ?_; rintro e' w' ⟨rfl, rfl⟩
  go_wp2_with fail
  refine (zAt a len cap z 11 _ rfl (by decide) _ (HR.out.below (by repeat (first | with_reducible exact Below.refl _ _ | with_reducible apply below_drewN | with_reducible apply Below.drew | with_reducible refine below_gw ?_ (by simp) _ | with_reducible refine Below.alloc ?_ (by simp) _ | with_reducible refine Below.setCell ?_ (by simp) _)))).mono ?_; rintro e' w' ⟨rfl, rfl⟩
  go_wp2_with fail
  refine regionTail 7 (by kernel_rfl) (by kernel_rfl) ?_
  simp only [List.take_succ_cons, List.take_zero, List.drop_succ_cons, List.drop_zero]
  repeat still_step
  still_call (turnS (zAt a len cap z 12 _ rfl (by decide) _ (HR.out.below (by repeat (first | with_reducible exact Below.refl _ _ | with_reducible apply below_drewN | with_reducible apply Below.drew | with_reducible refine below_gw ?_ (by simp) _ | with_reducible refine Below.alloc ?_ (by simp) _ | with_reducible refine Below.setCell ?_ (by simp) _)))))
  repeat still_step
  refine wpStill_nil ?_
  go_wp2_with fail
  refine regionTail 7 (by kernel_rfl) (by kernel_rfl) ?_
  simp only [List.take_succ_cons, List.take_zero, List.drop_succ_cons, List.drop_zero]
  repeat still_step
  still_call (turnS (zAt a len cap z 13 _ rfl (by decide) _ (HR.out.below (by repeat (first | with_reducible exact Below.refl _ _ | with_reducible apply below_drewN | with_reducible apply Below.drew | with_reducible refine below_gw ?_ (by simp) _ | with_reducible refine Below.alloc ?_ (by simp) _ | with_reducible refine Below.setCell ?_ (by simp) _)))))
  repeat still_step
  refine wpStill_nil ?_
  go_wp2_with fail
  refine (zAt a len cap z 14 _ rfl (by decide) _ (HR.out.below (by repeat (first | with_reducible exact Below.refl _ _ | with_reducible apply below_drewN | with_reducible apply Below.drew | with_reducible refine below_gw ?_ (by simp) _ | with_reducible refine Below.alloc ?_ (by simp) _ | with_reducible refine Below.setCell ?_ (by simp) _)))).mono ?_; rintro e' w' ⟨rfl, rfl⟩
  go_wp2_with fail
  refine (zAt a len cap z 15 _ rfl (by decide) _ (HR.out.below (by repeat (first | with_reducible exact Below.refl _ _ | with_reducible apply below_drewN | with_reducible apply Below.drew | with_reducible refine below_gw ?_ (by simp) _ | with_reducible refine Below.alloc ?_ (by simp) _ | with_reducible refine Below.setCell ?_ (by simp) _)))).mono ?_; rintro e' w' ⟨rfl, rfl⟩
  go_wp2_with fail
  refine (zAt a len cap z 16 _ rfl (by decide) _ (HR.out.below (by repeat (first | with_reducible exact Below.refl _ _ | with_reducible apply below_drewN | with_reducible apply Below.drew | with_reducible refine below_gw ?_ (by simp) _ | with_reducible refine Below.alloc ?_ (by simp) _ | with_reducible refine Below.setCell ?_ (by simp) _)))).mono ?_; rintro e' w' ⟨rfl, rfl⟩
  go_upto_region 24 with fail
  go_wp2_with (refine wpList_load_row rfl 24 (.tmp 3) rfl (w.heap.size + 1) rfl 24 #[.int .i64 64, .int .u64 0, .int .i64 v2, .int .u64 4611686018427387903, .int .i64 v4, .int .u64 v5, .int .u64 v6, .int .u64 v7, .int .u64 v8, .int .i64 v9, .int .u64 v10, .int .u64 v11, .int .u64 v12, .int .u64 v13, .int .u64 v14, .int .i64 m15, .int .u64 v16] (0, 0) _ (heap_top5 _ _ _ _) Try.underlying24 rfl (by kernel_rfl) ?_; refine wpList_store_row rfl 24 (.tmp 2) (.tmp 120) rfl w.heap.size #[.int .i64 64, .int .u64 0, .int .i64 v2, .int .u64 4611686018427387903, .int .i64 v4, .int .u64 v5, .int .u64 v6, .int .u64 v7, .int .u64 v8, .int .i64 v9, .int .u64 v10, .int .u64 v11, .int .u64 v12, .int .u64 v13, .int .u64 v14, .int .i64 m15, .int .u64 v16] rfl rfl 24 #[.int .i64 0, .int .u64 0, .int .i64 0, .int .u64 0, .int .i64 0, .int .u64 0, .int .u64 0, .int .u64 0, .int .u64 0, .int .i64 0, .int .u64 0, .int .u64 0, .int .u64 0, .int .u64 0, .int .u64 0, .int .i64 0, .int .u64 0] (heap_mid5 _ _ _ _) (by kernel_rfl) rfl (by first | kernel_rfl | simp [Value.oneCell'] | rfl) ?_; rw [setRow_mid5])
  exact bodyPost_ret (v := .agg #[.int .i64 64, .int .u64 0, .int .i64 v2, .int .u64 4611686018427387903, .int .i64 v4, .int .u64 v5, .int .u64 v6, .int .u64 v7, .int .u64 v8, .int .i64 v9, .int .u64 v10, .int .u64 v11, .int .u64 v12, .int .u64 v13, .int .u64 v14, .int .i64 m15, .int .u64 v16]) (results_cell_row Try.results16 _ _ w.heap.size _ _ _ _ rfl (heap_mid5 _ _ _ _) Try.underlying24 rfl (by kernel_rfl)) rfl ⟨rfl, by repeat (first | exact Gr.refl _ | apply Gr.drewN | apply Gr.drew | apply Gr.gw | apply Gr.alloc)⟩

set_option maxHeartbeats 1000000 in
theorem zConf (a : Option Addr) (len cap : Nat) (z : Nat → Int) (w : World) (h : Nums w a len z) :
    Calls Try.prog 16 #[.slice a len cap] w fun e w' => e = .returned (.agg #[.int .i64 (cf0 (atF len z)), .int .u64 (cf1 (atF len z)), .int .i64 (cf2 (atF len z)), .int .u64 (cf3 (atF len z)), .int .i64 (cf4 (atF len z)), .int .u64 (cf5 (atF len z)), .int .u64 (cf6 (atF len z)), .int .u64 (cf7 (atF len z)), .int .u64 (cf8 (atF len z)), .int .i64 (cf9 (atF len z)), .int .u64 (cf10 (atF len z)), .int .u64 (cf11 (atF len z)), .int .u64 (cf12 (atF len z)), .int .u64 (cf13 (atF len z)), .int .u64 (cf14 (atF len z)), .int .i64 (cf15 (atF len z)), .int .u64 (cf16 (atF len z))]) ∧ Gr w w' := by
  have a0 := h.atF 0
  have a1 := h.atF 1
  have a2 := h.atF 2
  have a3 := h.atF 3
  have a4 := h.atF 4
  have a5 := h.atF 5
  have a6 := h.atF 6
  have a7 := h.atF 7
  have a8 := h.atF 8
  have a9 := h.atF 9
  have a10 := h.atF 10
  have a11 := h.atF 11
  have a12 := h.atF 12
  have a13 := h.atF 13
  have a14 := h.atF 14
  have a15 := h.atF 15
  have a16 := h.atF 16
  by_cases c4 : atF len z 4 % 4 = 1 <;> by_cases c5 : 0 < atF len z 5 % 4 <;> by_cases c7 : atF len z 7 % 4 = 1
  · have z0 : cf0 (atF len z) = 1 + atF len z 4 / 4 % 64 := by unfold cf0; rw [if_pos c4]
    have z1 : cf1 (atF len z) = 2 + atF len z 5 / 4 % 30 := by unfold cf1; rw [if_pos c5]
    have z3 : cf3 (atF len z) = atF len z 7 / 4 % 60 := by unfold cf3; rw [if_pos c7]
    refine (confWTTT a len cap z w h (2 * cf5 (atF len z)) (atF len z 4 / 4) (atF len z 5 / 4) (atF len z 7 / 4) (atF len z 0 % 40) (atF len z 1 % 50) (atF len z 10 % 200000) (atF len z 11 % 2000) (atF len z 12 % 400000) (atF len z 13 % 400) (atF len z 14 % 100000) (atF len z 15 % 5) (atF len z 16 % 100000) (atF len z 2 % 100) (atF len z 3 % 400) (atF len z 4 % 4) (atF len z 5 % 4) (atF len z 6 % 40) (atF len z 7 % 4) (atF len z 8 % 300) (atF len z 9 % 2) (atF len z 4 / 4 % 64) (atF len z 5 / 4 % 30) (cf0 (atF len z)) (cf1 (atF len z)) (cf10 (atF len z)) (cf11 (atF len z)) (cf12 (atF len z)) (cf13 (atF len z)) (cf14 (atF len z)) (cf16 (atF len z)) (cf2 (atF len z)) (cf3 (atF len z)) (cf4 (atF len z)) (cf5 (atF len z)) (cf6 (atF len z)) (cf7 (atF len z)) (cf8 (atF len z)) (cf9 (atF len z)) (by rw [Int.tmod_eq_emod_of_nonneg (by omega)]) (by rw [Int.tmod_eq_emod_of_nonneg (by omega)]) (by rw [Int.tmod_eq_emod_of_nonneg (by omega)]) (by rw [Int.tmod_eq_emod_of_nonneg (by omega)]) (by rw [Int.tmod_eq_emod_of_nonneg (by omega)]) (by rw [Int.tmod_eq_emod_of_nonneg (by omega)]) (by rw [Int.tmod_eq_emod_of_nonneg (by omega)]) (by rw [Int.tmod_eq_emod_of_nonneg (by omega)]) (by rw [Int.tmod_eq_emod_of_nonneg (by omega)]) (by rw [Int.tmod_eq_emod_of_nonneg (by omega)]) (by rw [Int.tmod_eq_emod_of_nonneg (by omega)]) (by rw [Int.tmod_eq_emod_of_nonneg (by omega)]) (by rw [Int.tmod_eq_emod_of_nonneg (by omega)]) (by rw [Int.tmod_eq_emod_of_nonneg (by omega)]) (by rw [Int.tmod_eq_emod_of_nonneg (by omega)]) (by rw [Int.tmod_eq_emod_of_nonneg (by omega)]) (by rw [Int.tmod_eq_emod_of_nonneg (by omega)]) (by unfold cf5; rw [wu (by omega)]) (by unfold cf5; rw [wu (by omega)]) (by unfold cf5 cf7; rw [wu (by omega)]) (by unfold cf6 cf7; rw [wu (by omega)]) (by unfold cf6 cf8; rw [wu (by omega)]) (by rw [Int.tdiv_eq_ediv_of_nonneg (by omega)]) (wu (by omega)) (by rw [Int.tmod_eq_emod_of_nonneg (by omega)]) (wi (by omega)) (by rw [z0, wi (by omega)]) (by rw [Int.tdiv_eq_ediv_of_nonneg (by omega)]) (wu (by omega)) (by rw [Int.tmod_eq_emod_of_nonneg (by omega)]) (by rw [z1, wu (by omega)]) (by rw [Int.tdiv_eq_ediv_of_nonneg (by omega)]) (wu (by omega)) (by rw [Int.tmod_eq_emod_of_nonneg (by omega), z3]) (wi (by omega)) (by unfold cf2; rw [wi (by omega)]) (wi (by omega)) (by unfold cf4; rw [wi (by omega)]) (wi (by omega)) (by unfold cf9; rw [wi (by omega)]) (by unfold cf10; rw [wu (by omega)]) (by unfold cf11; rw [wu (by omega)]) (by unfold cf11 cf12; rw [wu (by omega)]) (by unfold cf5 cf13; rw [wu (by omega)]) (by unfold cf14; rw [wu (by omega)]) (wi (by omega)) (by unfold cf16; rw [wu (by omega)]) (by rw [beq_iff_eq]; exact c4) (by exact decide_eq_true c5) (by rw [beq_iff_eq]; exact c7)).mono fun e' w' h' => ⟨?_, h'.2⟩
    rw [h'.1]
    try rfl
  · have z0 : cf0 (atF len z) = 1 + atF len z 4 / 4 % 64 := by unfold cf0; rw [if_pos c4]
    have z1 : cf1 (atF len z) = 2 + atF len z 5 / 4 % 30 := by unfold cf1; rw [if_pos c5]
    have z3 : cf3 (atF len z) = 4611686018427387903 := by unfold cf3; rw [if_neg c7]
    refine (confWTTF a len cap z w h (2 * cf5 (atF len z)) (atF len z 4 / 4) (atF len z 5 / 4) (atF len z 0 % 40) (atF len z 1 % 50) (atF len z 10 % 200000) (atF len z 11 % 2000) (atF len z 12 % 400000) (atF len z 13 % 400) (atF len z 14 % 100000) (atF len z 15 % 5) (atF len z 16 % 100000) (atF len z 2 % 100) (atF len z 3 % 400) (atF len z 4 % 4) (atF len z 5 % 4) (atF len z 6 % 40) (atF len z 7 % 4) (atF len z 8 % 300) (atF len z 9 % 2) (atF len z 4 / 4 % 64) (atF len z 5 / 4 % 30) (cf0 (atF len z)) (cf1 (atF len z)) (cf10 (atF len z)) (cf11 (atF len z)) (cf12 (atF len z)) (cf13 (atF len z)) (cf14 (atF len z)) (cf16 (atF len z)) (cf2 (atF len z)) (cf4 (atF len z)) (cf5 (atF len z)) (cf6 (atF len z)) (cf7 (atF len z)) (cf8 (atF len z)) (cf9 (atF len z)) (by rw [Int.tmod_eq_emod_of_nonneg (by omega)]) (by rw [Int.tmod_eq_emod_of_nonneg (by omega)]) (by rw [Int.tmod_eq_emod_of_nonneg (by omega)]) (by rw [Int.tmod_eq_emod_of_nonneg (by omega)]) (by rw [Int.tmod_eq_emod_of_nonneg (by omega)]) (by rw [Int.tmod_eq_emod_of_nonneg (by omega)]) (by rw [Int.tmod_eq_emod_of_nonneg (by omega)]) (by rw [Int.tmod_eq_emod_of_nonneg (by omega)]) (by rw [Int.tmod_eq_emod_of_nonneg (by omega)]) (by rw [Int.tmod_eq_emod_of_nonneg (by omega)]) (by rw [Int.tmod_eq_emod_of_nonneg (by omega)]) (by rw [Int.tmod_eq_emod_of_nonneg (by omega)]) (by rw [Int.tmod_eq_emod_of_nonneg (by omega)]) (by rw [Int.tmod_eq_emod_of_nonneg (by omega)]) (by rw [Int.tmod_eq_emod_of_nonneg (by omega)]) (by rw [Int.tmod_eq_emod_of_nonneg (by omega)]) (by rw [Int.tmod_eq_emod_of_nonneg (by omega)]) (by unfold cf5; rw [wu (by omega)]) (by unfold cf5; rw [wu (by omega)]) (by unfold cf5 cf7; rw [wu (by omega)]) (by unfold cf6 cf7; rw [wu (by omega)]) (by unfold cf6 cf8; rw [wu (by omega)]) (by rw [Int.tdiv_eq_ediv_of_nonneg (by omega)]) (wu (by omega)) (by rw [Int.tmod_eq_emod_of_nonneg (by omega)]) (wi (by omega)) (by rw [z0, wi (by omega)]) (by rw [Int.tdiv_eq_ediv_of_nonneg (by omega)]) (wu (by omega)) (by rw [Int.tmod_eq_emod_of_nonneg (by omega)]) (by rw [z1, wu (by omega)]) (wi (by omega)) (by unfold cf2; rw [wi (by omega)]) (wi (by omega)) (by unfold cf4; rw [wi (by omega)]) (wi (by omega)) (by unfold cf9; rw [wi (by omega)]) (by unfold cf10; rw [wu (by omega)]) (by unfold cf11; rw [wu (by omega)]) (by unfold cf11 cf12; rw [wu (by omega)]) (by unfold cf5 cf13; rw [wu (by omega)]) (by unfold cf14; rw [wu (by omega)]) (wi (by omega)) (by unfold cf16; rw [wu (by omega)]) (by rw [beq_iff_eq]; exact c4) (by exact decide_eq_true c5) (by rw [beq_eq_false_iff_ne]; exact c7)).mono fun e' w' h' => ⟨?_, h'.2⟩
    rw [h'.1, z3]
    try rfl
  · have z0 : cf0 (atF len z) = 1 + atF len z 4 / 4 % 64 := by unfold cf0; rw [if_pos c4]
    have z1 : cf1 (atF len z) = 0 := by unfold cf1; rw [if_neg c5]
    have z3 : cf3 (atF len z) = atF len z 7 / 4 % 60 := by unfold cf3; rw [if_pos c7]
    refine (confWTFT a len cap z w h (2 * cf5 (atF len z)) (atF len z 4 / 4) (atF len z 7 / 4) (atF len z 0 % 40) (atF len z 1 % 50) (atF len z 10 % 200000) (atF len z 11 % 2000) (atF len z 12 % 400000) (atF len z 13 % 400) (atF len z 14 % 100000) (atF len z 15 % 5) (atF len z 16 % 100000) (atF len z 2 % 100) (atF len z 3 % 400) (atF len z 4 % 4) (atF len z 5 % 4) (atF len z 6 % 40) (atF len z 7 % 4) (atF len z 8 % 300) (atF len z 9 % 2) (atF len z 4 / 4 % 64) (cf0 (atF len z)) (cf10 (atF len z)) (cf11 (atF len z)) (cf12 (atF len z)) (cf13 (atF len z)) (cf14 (atF len z)) (cf16 (atF len z)) (cf2 (atF len z)) (cf3 (atF len z)) (cf4 (atF len z)) (cf5 (atF len z)) (cf6 (atF len z)) (cf7 (atF len z)) (cf8 (atF len z)) (cf9 (atF len z)) (by rw [Int.tmod_eq_emod_of_nonneg (by omega)]) (by rw [Int.tmod_eq_emod_of_nonneg (by omega)]) (by rw [Int.tmod_eq_emod_of_nonneg (by omega)]) (by rw [Int.tmod_eq_emod_of_nonneg (by omega)]) (by rw [Int.tmod_eq_emod_of_nonneg (by omega)]) (by rw [Int.tmod_eq_emod_of_nonneg (by omega)]) (by rw [Int.tmod_eq_emod_of_nonneg (by omega)]) (by rw [Int.tmod_eq_emod_of_nonneg (by omega)]) (by rw [Int.tmod_eq_emod_of_nonneg (by omega)]) (by rw [Int.tmod_eq_emod_of_nonneg (by omega)]) (by rw [Int.tmod_eq_emod_of_nonneg (by omega)]) (by rw [Int.tmod_eq_emod_of_nonneg (by omega)]) (by rw [Int.tmod_eq_emod_of_nonneg (by omega)]) (by rw [Int.tmod_eq_emod_of_nonneg (by omega)]) (by rw [Int.tmod_eq_emod_of_nonneg (by omega)]) (by rw [Int.tmod_eq_emod_of_nonneg (by omega)]) (by rw [Int.tmod_eq_emod_of_nonneg (by omega)]) (by unfold cf5; rw [wu (by omega)]) (by unfold cf5; rw [wu (by omega)]) (by unfold cf5 cf7; rw [wu (by omega)]) (by unfold cf6 cf7; rw [wu (by omega)]) (by unfold cf6 cf8; rw [wu (by omega)]) (by rw [Int.tdiv_eq_ediv_of_nonneg (by omega)]) (wu (by omega)) (by rw [Int.tmod_eq_emod_of_nonneg (by omega)]) (wi (by omega)) (by rw [z0, wi (by omega)]) (by rw [Int.tdiv_eq_ediv_of_nonneg (by omega)]) (wu (by omega)) (by rw [Int.tmod_eq_emod_of_nonneg (by omega), z3]) (wi (by omega)) (by unfold cf2; rw [wi (by omega)]) (wi (by omega)) (by unfold cf4; rw [wi (by omega)]) (wi (by omega)) (by unfold cf9; rw [wi (by omega)]) (by unfold cf10; rw [wu (by omega)]) (by unfold cf11; rw [wu (by omega)]) (by unfold cf11 cf12; rw [wu (by omega)]) (by unfold cf5 cf13; rw [wu (by omega)]) (by unfold cf14; rw [wu (by omega)]) (wi (by omega)) (by unfold cf16; rw [wu (by omega)]) (by rw [beq_iff_eq]; exact c4) (by exact decide_eq_false c5) (by rw [beq_iff_eq]; exact c7)).mono fun e' w' h' => ⟨?_, h'.2⟩
    rw [h'.1, z1]
    try rfl
  · have z0 : cf0 (atF len z) = 1 + atF len z 4 / 4 % 64 := by unfold cf0; rw [if_pos c4]
    have z1 : cf1 (atF len z) = 0 := by unfold cf1; rw [if_neg c5]
    have z3 : cf3 (atF len z) = 4611686018427387903 := by unfold cf3; rw [if_neg c7]
    refine (confWTFF a len cap z w h (2 * cf5 (atF len z)) (atF len z 4 / 4) (atF len z 0 % 40) (atF len z 1 % 50) (atF len z 10 % 200000) (atF len z 11 % 2000) (atF len z 12 % 400000) (atF len z 13 % 400) (atF len z 14 % 100000) (atF len z 15 % 5) (atF len z 16 % 100000) (atF len z 2 % 100) (atF len z 3 % 400) (atF len z 4 % 4) (atF len z 5 % 4) (atF len z 6 % 40) (atF len z 7 % 4) (atF len z 8 % 300) (atF len z 9 % 2) (atF len z 4 / 4 % 64) (cf0 (atF len z)) (cf10 (atF len z)) (cf11 (atF len z)) (cf12 (atF len z)) (cf13 (atF len z)) (cf14 (atF len z)) (cf16 (atF len z)) (cf2 (atF len z)) (cf4 (atF len z)) (cf5 (atF len z)) (cf6 (atF len z)) (cf7 (atF len z)) (cf8 (atF len z)) (cf9 (atF len z)) (by rw [Int.tmod_eq_emod_of_nonneg (by omega)]) (by rw [Int.tmod_eq_emod_of_nonneg (by omega)]) (by rw [Int.tmod_eq_emod_of_nonneg (by omega)]) (by rw [Int.tmod_eq_emod_of_nonneg (by omega)]) (by rw [Int.tmod_eq_emod_of_nonneg (by omega)]) (by rw [Int.tmod_eq_emod_of_nonneg (by omega)]) (by rw [Int.tmod_eq_emod_of_nonneg (by omega)]) (by rw [Int.tmod_eq_emod_of_nonneg (by omega)]) (by rw [Int.tmod_eq_emod_of_nonneg (by omega)]) (by rw [Int.tmod_eq_emod_of_nonneg (by omega)]) (by rw [Int.tmod_eq_emod_of_nonneg (by omega)]) (by rw [Int.tmod_eq_emod_of_nonneg (by omega)]) (by rw [Int.tmod_eq_emod_of_nonneg (by omega)]) (by rw [Int.tmod_eq_emod_of_nonneg (by omega)]) (by rw [Int.tmod_eq_emod_of_nonneg (by omega)]) (by rw [Int.tmod_eq_emod_of_nonneg (by omega)]) (by rw [Int.tmod_eq_emod_of_nonneg (by omega)]) (by unfold cf5; rw [wu (by omega)]) (by unfold cf5; rw [wu (by omega)]) (by unfold cf5 cf7; rw [wu (by omega)]) (by unfold cf6 cf7; rw [wu (by omega)]) (by unfold cf6 cf8; rw [wu (by omega)]) (by rw [Int.tdiv_eq_ediv_of_nonneg (by omega)]) (wu (by omega)) (by rw [Int.tmod_eq_emod_of_nonneg (by omega)]) (wi (by omega)) (by rw [z0, wi (by omega)]) (wi (by omega)) (by unfold cf2; rw [wi (by omega)]) (wi (by omega)) (by unfold cf4; rw [wi (by omega)]) (wi (by omega)) (by unfold cf9; rw [wi (by omega)]) (by unfold cf10; rw [wu (by omega)]) (by unfold cf11; rw [wu (by omega)]) (by unfold cf11 cf12; rw [wu (by omega)]) (by unfold cf5 cf13; rw [wu (by omega)]) (by unfold cf14; rw [wu (by omega)]) (wi (by omega)) (by unfold cf16; rw [wu (by omega)]) (by rw [beq_iff_eq]; exact c4) (by exact decide_eq_false c5) (by rw [beq_eq_false_iff_ne]; exact c7)).mono fun e' w' h' => ⟨?_, h'.2⟩
    rw [h'.1, z1, z3]
    try rfl
  · have z0 : cf0 (atF len z) = 64 := by unfold cf0; rw [if_neg c4]
    have z1 : cf1 (atF len z) = 2 + atF len z 5 / 4 % 30 := by unfold cf1; rw [if_pos c5]
    have z3 : cf3 (atF len z) = atF len z 7 / 4 % 60 := by unfold cf3; rw [if_pos c7]
    refine (confWFTT a len cap z w h (2 * cf5 (atF len z)) (atF len z 5 / 4) (atF len z 7 / 4) (atF len z 0 % 40) (atF len z 1 % 50) (atF len z 10 % 200000) (atF len z 11 % 2000) (atF len z 12 % 400000) (atF len z 13 % 400) (atF len z 14 % 100000) (atF len z 15 % 5) (atF len z 16 % 100000) (atF len z 2 % 100) (atF len z 3 % 400) (atF len z 4 % 4) (atF len z 5 % 4) (atF len z 6 % 40) (atF len z 7 % 4) (atF len z 8 % 300) (atF len z 9 % 2) (atF len z 5 / 4 % 30) (cf1 (atF len z)) (cf10 (atF len z)) (cf11 (atF len z)) (cf12 (atF len z)) (cf13 (atF len z)) (cf14 (atF len z)) (cf16 (atF len z)) (cf2 (atF len z)) (cf3 (atF len z)) (cf4 (atF len z)) (cf5 (atF len z)) (cf6 (atF len z)) (cf7 (atF len z)) (cf8 (atF len z)) (cf9 (atF len z)) (by rw [Int.tmod_eq_emod_of_nonneg (by omega)]) (by rw [Int.tmod_eq_emod_of_nonneg (by omega)]) (by rw [Int.tmod_eq_emod_of_nonneg (by omega)]) (by rw [Int.tmod_eq_emod_of_nonneg (by omega)]) (by rw [Int.tmod_eq_emod_of_nonneg (by omega)]) (by rw [Int.tmod_eq_emod_of_nonneg (by omega)]) (by rw [Int.tmod_eq_emod_of_nonneg (by omega)]) (by rw [Int.tmod_eq_emod_of_nonneg (by omega)]) (by rw [Int.tmod_eq_emod_of_nonneg (by omega)]) (by rw [Int.tmod_eq_emod_of_nonneg (by omega)]) (by rw [Int.tmod_eq_emod_of_nonneg (by omega)]) (by rw [Int.tmod_eq_emod_of_nonneg (by omega)]) (by rw [Int.tmod_eq_emod_of_nonneg (by omega)]) (by rw [Int.tmod_eq_emod_of_nonneg (by omega)]) (by rw [Int.tmod_eq_emod_of_nonneg (by omega)]) (by rw [Int.tmod_eq_emod_of_nonneg (by omega)]) (by rw [Int.tmod_eq_emod_of_nonneg (by omega)]) (by unfold cf5; rw [wu (by omega)]) (by unfold cf5; rw [wu (by omega)]) (by unfold cf5 cf7; rw [wu (by omega)]) (by unfold cf6 cf7; rw [wu (by omega)]) (by unfold cf6 cf8; rw [wu (by omega)]) (by rw [Int.tdiv_eq_ediv_of_nonneg (by omega)]) (wu (by omega)) (by rw [Int.tmod_eq_emod_of_nonneg (by omega)]) (by rw [z1, wu (by omega)]) (by rw [Int.tdiv_eq_ediv_of_nonneg (by omega)]) (wu (by omega)) (by rw [Int.tmod_eq_emod_of_nonneg (by omega), z3]) (wi (by omega)) (by unfold cf2; rw [wi (by omega)]) (wi (by omega)) (by unfold cf4; rw [wi (by omega)]) (wi (by omega)) (by unfold cf9; rw [wi (by omega)]) (by unfold cf10; rw [wu (by omega)]) (by unfold cf11; rw [wu (by omega)]) (by unfold cf11 cf12; rw [wu (by omega)]) (by unfold cf5 cf13; rw [wu (by omega)]) (by unfold cf14; rw [wu (by omega)]) (wi (by omega)) (by unfold cf16; rw [wu (by omega)]) (by rw [beq_eq_false_iff_ne]; exact c4) (by exact decide_eq_true c5) (by rw [beq_iff_eq]; exact c7)).mono fun e' w' h' => ⟨?_, h'.2⟩
    rw [h'.1, z0]
    try rfl
  · have z0 : cf0 (atF len z) = 64 := by unfold cf0; rw [if_neg c4]
    have z1 : cf1 (atF len z) = 2 + atF len z 5 / 4 % 30 := by unfold cf1; rw [if_pos c5]
    have z3 : cf3 (atF len z) = 4611686018427387903 := by unfold cf3; rw [if_neg c7]
    refine (confWFTF a len cap z w h (2 * cf5 (atF len z)) (atF len z 5 / 4) (atF len z 0 % 40) (atF len z 1 % 50) (atF len z 10 % 200000) (atF len z 11 % 2000) (atF len z 12 % 400000) (atF len z 13 % 400) (atF len z 14 % 100000) (atF len z 15 % 5) (atF len z 16 % 100000) (atF len z 2 % 100) (atF len z 3 % 400) (atF len z 4 % 4) (atF len z 5 % 4) (atF len z 6 % 40) (atF len z 7 % 4) (atF len z 8 % 300) (atF len z 9 % 2) (atF len z 5 / 4 % 30) (cf1 (atF len z)) (cf10 (atF len z)) (cf11 (atF len z)) (cf12 (atF len z)) (cf13 (atF len z)) (cf14 (atF len z)) (cf16 (atF len z)) (cf2 (atF len z)) (cf4 (atF len z)) (cf5 (atF len z)) (cf6 (atF len z)) (cf7 (atF len z)) (cf8 (atF len z)) (cf9 (atF len z)) (by rw [Int.tmod_eq_emod_of_nonneg (by omega)]) (by rw [Int.tmod_eq_emod_of_nonneg (by omega)]) (by rw [Int.tmod_eq_emod_of_nonneg (by omega)]) (by rw [Int.tmod_eq_emod_of_nonneg (by omega)]) (by rw [Int.tmod_eq_emod_of_nonneg (by omega)]) (by rw [Int.tmod_eq_emod_of_nonneg (by omega)]) (by rw [Int.tmod_eq_emod_of_nonneg (by omega)]) (by rw [Int.tmod_eq_emod_of_nonneg (by omega)]) (by rw [Int.tmod_eq_emod_of_nonneg (by omega)]) (by rw [Int.tmod_eq_emod_of_nonneg (by omega)]) (by rw [Int.tmod_eq_emod_of_nonneg (by omega)]) (by rw [Int.tmod_eq_emod_of_nonneg (by omega)]) (by rw [Int.tmod_eq_emod_of_nonneg (by omega)]) (by rw [Int.tmod_eq_emod_of_nonneg (by omega)]) (by rw [Int.tmod_eq_emod_of_nonneg (by omega)]) (by rw [Int.tmod_eq_emod_of_nonneg (by omega)]) (by rw [Int.tmod_eq_emod_of_nonneg (by omega)]) (by unfold cf5; rw [wu (by omega)]) (by unfold cf5; rw [wu (by omega)]) (by unfold cf5 cf7; rw [wu (by omega)]) (by unfold cf6 cf7; rw [wu (by omega)]) (by unfold cf6 cf8; rw [wu (by omega)]) (by rw [Int.tdiv_eq_ediv_of_nonneg (by omega)]) (wu (by omega)) (by rw [Int.tmod_eq_emod_of_nonneg (by omega)]) (by rw [z1, wu (by omega)]) (wi (by omega)) (by unfold cf2; rw [wi (by omega)]) (wi (by omega)) (by unfold cf4; rw [wi (by omega)]) (wi (by omega)) (by unfold cf9; rw [wi (by omega)]) (by unfold cf10; rw [wu (by omega)]) (by unfold cf11; rw [wu (by omega)]) (by unfold cf11 cf12; rw [wu (by omega)]) (by unfold cf5 cf13; rw [wu (by omega)]) (by unfold cf14; rw [wu (by omega)]) (wi (by omega)) (by unfold cf16; rw [wu (by omega)]) (by rw [beq_eq_false_iff_ne]; exact c4) (by exact decide_eq_true c5) (by rw [beq_eq_false_iff_ne]; exact c7)).mono fun e' w' h' => ⟨?_, h'.2⟩
    rw [h'.1, z0, z3]
    try rfl
  · have z0 : cf0 (atF len z) = 64 := by unfold cf0; rw [if_neg c4]
    have z1 : cf1 (atF len z) = 0 := by unfold cf1; rw [if_neg c5]
    have z3 : cf3 (atF len z) = atF len z 7 / 4 % 60 := by unfold cf3; rw [if_pos c7]
    refine (confWFFT a len cap z w h (2 * cf5 (atF len z)) (atF len z 7 / 4) (atF len z 0 % 40) (atF len z 1 % 50) (atF len z 10 % 200000) (atF len z 11 % 2000) (atF len z 12 % 400000) (atF len z 13 % 400) (atF len z 14 % 100000) (atF len z 15 % 5) (atF len z 16 % 100000) (atF len z 2 % 100) (atF len z 3 % 400) (atF len z 4 % 4) (atF len z 5 % 4) (atF len z 6 % 40) (atF len z 7 % 4) (atF len z 8 % 300) (atF len z 9 % 2) (cf10 (atF len z)) (cf11 (atF len z)) (cf12 (atF len z)) (cf13 (atF len z)) (cf14 (atF len z)) (cf16 (atF len z)) (cf2 (atF len z)) (cf3 (atF len z)) (cf4 (atF len z)) (cf5 (atF len z)) (cf6 (atF len z)) (cf7 (atF len z)) (cf8 (atF len z)) (cf9 (atF len z)) (by rw [Int.tmod_eq_emod_of_nonneg (by omega)]) (by rw [Int.tmod_eq_emod_of_nonneg (by omega)]) (by rw [Int.tmod_eq_emod_of_nonneg (by omega)]) (by rw [Int.tmod_eq_emod_of_nonneg (by omega)]) (by rw [Int.tmod_eq_emod_of_nonneg (by omega)]) (by rw [Int.tmod_eq_emod_of_nonneg (by omega)]) (by rw [Int.tmod_eq_emod_of_nonneg (by omega)]) (by rw [Int.tmod_eq_emod_of_nonneg (by omega)]) (by rw [Int.tmod_eq_emod_of_nonneg (by omega)]) (by rw [Int.tmod_eq_emod_of_nonneg (by omega)]) (by rw [Int.tmod_eq_emod_of_nonneg (by omega)]) (by rw [Int.tmod_eq_emod_of_nonneg (by omega)]) (by rw [Int.tmod_eq_emod_of_nonneg (by omega)]) (by rw [Int.tmod_eq_emod_of_nonneg (by omega)]) (by rw [Int.tmod_eq_emod_of_nonneg (by omega)]) (by rw [Int.tmod_eq_emod_of_nonneg (by omega)]) (by rw [Int.tmod_eq_emod_of_nonneg (by omega)]) (by unfold cf5; rw [wu (by omega)]) (by unfold cf5; rw [wu (by omega)]) (by unfold cf5 cf7; rw [wu (by omega)]) (by unfold cf6 cf7; rw [wu (by omega)]) (by unfold cf6 cf8; rw [wu (by omega)]) (by rw [Int.tdiv_eq_ediv_of_nonneg (by omega)]) (wu (by omega)) (by rw [Int.tmod_eq_emod_of_nonneg (by omega), z3]) (wi (by omega)) (by unfold cf2; rw [wi (by omega)]) (wi (by omega)) (by unfold cf4; rw [wi (by omega)]) (wi (by omega)) (by unfold cf9; rw [wi (by omega)]) (by unfold cf10; rw [wu (by omega)]) (by unfold cf11; rw [wu (by omega)]) (by unfold cf11 cf12; rw [wu (by omega)]) (by unfold cf5 cf13; rw [wu (by omega)]) (by unfold cf14; rw [wu (by omega)]) (wi (by omega)) (by unfold cf16; rw [wu (by omega)]) (by rw [beq_eq_false_iff_ne]; exact c4) (by exact decide_eq_false c5) (by rw [beq_iff_eq]; exact c7)).mono fun e' w' h' => ⟨?_, h'.2⟩
    rw [h'.1, z0, z1]
    try rfl
  · have z0 : cf0 (atF len z) = 64 := by unfold cf0; rw [if_neg c4]
    have z1 : cf1 (atF len z) = 0 := by unfold cf1; rw [if_neg c5]
    have z3 : cf3 (atF len z) = 4611686018427387903 := by unfold cf3; rw [if_neg c7]
    refine (confWFFF a len cap z w h (2 * cf5 (atF len z)) (atF len z 0 % 40) (atF len z 1 % 50) (atF len z 10 % 200000) (atF len z 11 % 2000) (atF len z 12 % 400000) (atF len z 13 % 400) (atF len z 14 % 100000) (atF len z 15 % 5) (atF len z 16 % 100000) (atF len z 2 % 100) (atF len z 3 % 400) (atF len z 4 % 4) (atF len z 5 % 4) (atF len z 6 % 40) (atF len z 7 % 4) (atF len z 8 % 300) (atF len z 9 % 2) (cf10 (atF len z)) (cf11 (atF len z)) (cf12 (atF len z)) (cf13 (atF len z)) (cf14 (atF len z)) (cf16 (atF len z)) (cf2 (atF len z)) (cf4 (atF len z)) (cf5 (atF len z)) (cf6 (atF len z)) (cf7 (atF len z)) (cf8 (atF len z)) (cf9 (atF len z)) (by rw [Int.tmod_eq_emod_of_nonneg (by omega)]) (by rw [Int.tmod_eq_emod_of_nonneg (by omega)]) (by rw [Int.tmod_eq_emod_of_nonneg (by omega)]) (by rw [Int.tmod_eq_emod_of_nonneg (by omega)]) (by rw [Int.tmod_eq_emod_of_nonneg (by omega)]) (by rw [Int.tmod_eq_emod_of_nonneg (by omega)]) (by rw [Int.tmod_eq_emod_of_nonneg (by omega)]) (by rw [Int.tmod_eq_emod_of_nonneg (by omega)]) (by rw [Int.tmod_eq_emod_of_nonneg (by omega)]) (by rw [Int.tmod_eq_emod_of_nonneg (by omega)]) (by rw [Int.tmod_eq_emod_of_nonneg (by omega)]) (by rw [Int.tmod_eq_emod_of_nonneg (by omega)]) (by rw [Int.tmod_eq_emod_of_nonneg (by omega)]) (by rw [Int.tmod_eq_emod_of_nonneg (by omega)]) (by rw [Int.tmod_eq_emod_of_nonneg (by omega)]) (by rw [Int.tmod_eq_emod_of_nonneg (by omega)]) (by rw [Int.tmod_eq_emod_of_nonneg (by omega)]) (by unfold cf5; rw [wu (by omega)]) (by unfold cf5; rw [wu (by omega)]) (by unfold cf5 cf7; rw [wu (by omega)]) (by unfold cf6 cf7; rw [wu (by omega)]) (by unfold cf6 cf8; rw [wu (by omega)]) (wi (by omega)) (by unfold cf2; rw [wi (by omega)]) (wi (by omega)) (by unfold cf4; rw [wi (by omega)]) (wi (by omega)) (by unfold cf9; rw [wi (by omega)]) (by unfold cf10; rw [wu (by omega)]) (by unfold cf11; rw [wu (by omega)]) (by unfold cf11 cf12; rw [wu (by omega)]) (by unfold cf5 cf13; rw [wu (by omega)]) (by unfold cf14; rw [wu (by omega)]) (wi (by omega)) (by unfold cf16; rw [wu (by omega)]) (by rw [beq_eq_false_iff_ne]; exact c4) (by exact decide_eq_false c5) (by rw [beq_eq_false_iff_ne]; exact c7)).mono fun e' w' h' => ⟨?_, h'.2⟩
    rw [h'.1, z0, z1, z3]
    try rfl
end Go.Proofs.Ytikkmdbaekdolaa
