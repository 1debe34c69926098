/- package control: Ack. -/
import Derived.Test.YtikkmdbaekdolaaCtrl2
namespace Go.Proofs.Ytikkmdbaekdolaa
open Go.RowKit Go.Lib
set_option linter.unusedVariables false
set_option maxRecDepth 100000

set_option maxHeartbeats 2000000 in
theorem nAckNo (x0 x1 x2 x3 x4 x5 x6 x7 x8 x9 x10 x11 x12 x13 x14 x15 x16 c t a p e k f E C ak n s : Int) (h5 : W64 x5) (hm : (confI x0 x1 x2 x3 x4 x5 x6 x7 x8 x9 x10 x11 x12 x13 x14 x15 x16 == 0) = false) (w : World) :
    Calls Try.prog 35 #[.agg #[.int .i64 x0, .int .u64 x1, .int .i64 x2, .int .u64 x3, .int .i64 x4, .int .u64 x5, .int .u64 x6, .int .u64 x7, .int .u64 x8, .int .i64 x9, .int .u64 x10, .int .u64 x11, .int .u64 x12, .int .u64 x13, .int .u64 x14, .int .i64 x15, .int .u64 x16], .agg #[.int .u64 c, .int .u64 t, .int .u64 a, .int .u64 p, .int .u64 e, .int .u64 k, .int .u64 f, .int .u64 E, .int .u64 C], .int .u64 ak, .int .u64 n, .int .u64 s] w fun e' w' => e' = .returned (.agg #[.int .u64 c, .int .u64 t, .int .u64 a, .int .u64 p, .int .u64 e, .int .u64 k, .int .u64 f, .int .u64 E, .int .u64 C]) ∧ Gr w w' := by
  have HM := Lib.hid hm
  have H5 := Lib.hid h5
  clear hm h5
  go_enter Try.func35, Try.ntmps35
  go_wp2_with (refine wpList_load_all (by rfl) 24 _ rfl _ rfl _ _ _ _ (by repeat (first | (with_reducible refine heap_newS _ _ _ ?_; simp; done) | with_reducible apply heap_gwS | with_reducible apply heap_drewNS | with_reducible apply heap_drewS | with_reducible apply heap_allocS)) Try.underlying24 rfl (by kernel_rfl) ?_)
  refine (cMay x0 x1 x2 x3 x4 x5 x6 x7 x8 x9 x10 x11 x12 x13 x14 x15 x16 _).mono ?_; rintro e' w1 ⟨rfl, n1, os1, rfl⟩
  rw [HM.out]
  go_wp2_with fail
  refine bodyPost_ret (v := .agg #[.int .u64 c, .int .u64 t, .int .u64 a, .int .u64 p, .int .u64 e, .int .u64 k, .int .u64 f, .int .u64 E, .int .u64 C]) (by simp [results, Try.results35, go_sem]) rfl ⟨rfl, ?_⟩
  repeat (first | exact Gr.refl _ | apply Gr.drewN | apply Gr.drew | apply Gr.gw | apply Gr.alloc)

set_option maxHeartbeats 2000000 in
theorem nAck1 (x0 x1 x2 x3 x4 x5 x6 x7 x8 x10 x11 x12 x13 x14 x15 x16 c t a p e k f E C ak n s G A : Int) (hG : growC c t a ak x5 = G) (hA : growA c t a ak x5 = A) (h5 : W64 x5) (hm : (confI x0 x1 x2 x3 x4 x5 x6 x7 x8 1 x10 x11 x12 x13 x14 x15 x16 == 0) = true) (hc : W64 c) (ha : W64 a) (hp : W64 p) (he : W64 e) (hk : W64 k) (hf : W64 f) (hak : W64 ak) (hn : W64 n) (hs : W64 s) (w : World) :
    Calls Try.prog 35 #[.agg #[.int .i64 x0, .int .u64 x1, .int .i64 x2, .int .u64 x3, .int .i64 x4, .int .u64 x5, .int .u64 x6, .int .u64 x7, .int .u64 x8, .int .i64 1, .int .u64 x10, .int .u64 x11, .int .u64 x12, .int .u64 x13, .int .u64 x14, .int .i64 x15, .int .u64 x16], .agg #[.int .u64 c, .int .u64 t, .int .u64 a, .int .u64 p, .int .u64 e, .int .u64 k, .int .u64 f, .int .u64 E, .int .u64 C], .int .u64 ak, .int .u64 n, .int .u64 s] w fun e' w' => e' = .returned (.agg #[.int .u64 (clampI G x7 x8), .int .u64 t, .int .u64 A, .int .u64 p, .int .u64 e, .int .u64 k, .int .u64 f, .int .u64 E, .int .u64 C]) ∧ Gr w w' := by
  have HM := Lib.hid hm
  have H5 := Lib.hid h5
  have QG := Lib.hid hG
  have QA := Lib.hid hA
  clear hG hA hm h5
  have Hc := Lib.hid hc
  have Ha := Lib.hid ha
  have Hp := Lib.hid hp
  have He := Lib.hid he
  have Hk := Lib.hid hk
  have Hf := Lib.hid hf
  have Hak := Lib.hid hak
  have Hn := Lib.hid hn
  have Hs := Lib.hid hs
  clear hc ha hp he hk hf hak hn hs
  go_enter Try.func35, Try.ntmps35
  go_wp2_with (refine wpList_load_all (by rfl) 24 _ rfl _ rfl _ _ _ _ (by repeat (first | (with_reducible refine heap_newS _ _ _ ?_; simp; done) | with_reducible apply heap_gwS | with_reducible apply heap_drewNS | with_reducible apply heap_drewS | with_reducible apply heap_allocS)) Try.underlying24 rfl (by kernel_rfl) ?_)
  refine (cMay x0 x1 x2 x3 x4 x5 x6 x7 x8 1 x10 x11 x12 x13 x14 x15 x16 _).mono ?_; rintro e' w1 ⟨rfl, n1, os1, rfl⟩
  rw [HM.out]
  go_wp2_with fail
  refine (nGrow c t a p e k f ak x5 Hc.out Ha.out Hak.out H5.out _).mono ?_; rintro e' w1 ⟨rfl, n2', os2, rfl⟩
  rw [QG.out, QA.out]
  go_wp2_with fail
  refine (sClamp _ _ _ _).mono ?_; rintro e' w1 ⟨rfl, rfl⟩
  go_wp2_with fail
  refine bodyPost_ret (v := .agg #[.int .u64 (clampI G x7 x8), .int .u64 t, .int .u64 A, .int .u64 p, .int .u64 e, .int .u64 k, .int .u64 f, .int .u64 E, .int .u64 C]) (by simp [results, Try.results35, go_sem]) rfl ⟨rfl, ?_⟩
  repeat (first | exact Gr.refl _ | apply Gr.drewN | apply Gr.drew | apply Gr.gw | apply Gr.alloc)

set_option maxHeartbeats 2000000 in
theorem nAck2 (x0 x1 x2 x3 x4 x5 x6 x7 x8 x10 x11 x12 x13 x14 x15 x16 c t a p e k f E C ak n s G P D K F : Int) (hG : gwC c t p e k f ak x5 n s = G) (hP : gwP c t p e = P) (hD : gwE c t e n = D) (hK : gwK c t p e k x5 = K) (hF : gwF c t p e f ak x5 = F) (h5 : W64 x5) (hm : (confI x0 x1 x2 x3 x4 x5 x6 x7 x8 2 x10 x11 x12 x13 x14 x15 x16 == 0) = true) (hc : W64 c) (ha : W64 a) (hp : W64 p) (he : W64 e) (hk : W64 k) (hf : W64 f) (hak : W64 ak) (hn : W64 n) (hs : W64 s) (w : World) :
    Calls Try.prog 35 #[.agg #[.int .i64 x0, .int .u64 x1, .int .i64 x2, .int .u64 x3, .int .i64 x4, .int .u64 x5, .int .u64 x6, .int .u64 x7, .int .u64 x8, .int .i64 2, .int .u64 x10, .int .u64 x11, .int .u64 x12, .int .u64 x13, .int .u64 x14, .int .i64 x15, .int .u64 x16], .agg #[.int .u64 c, .int .u64 t, .int .u64 a, .int .u64 p, .int .u64 e, .int .u64 k, .int .u64 f, .int .u64 E, .int .u64 C], .int .u64 ak, .int .u64 n, .int .u64 s] w fun e' w' => e' = .returned (.agg #[.int .u64 (clampI G x7 x8), .int .u64 t, .int .u64 a, .int .u64 P, .int .u64 D, .int .u64 K, .int .u64 F, .int .u64 E, .int .u64 C]) ∧ Gr w w' := by
  have HM := Lib.hid hm
  have H5 := Lib.hid h5
  have QG := Lib.hid hG
  have QP := Lib.hid hP
  have QD := Lib.hid hD
  have QK := Lib.hid hK
  have QF := Lib.hid hF
  clear hG hP hD hK hF hm h5
  have Hc := Lib.hid hc
  have Ha := Lib.hid ha
  have Hp := Lib.hid hp
  have He := Lib.hid he
  have Hk := Lib.hid hk
  have Hf := Lib.hid hf
  have Hak := Lib.hid hak
  have Hn := Lib.hid hn
  have Hs := Lib.hid hs
  clear hc ha hp he hk hf hak hn hs
  go_enter Try.func35, Try.ntmps35
  go_wp2_with (refine wpList_load_all (by rfl) 24 _ rfl _ rfl _ _ _ _ (by repeat (first | (with_reducible refine heap_newS _ _ _ ?_; simp; done) | with_reducible apply heap_gwS | with_reducible apply heap_drewNS | with_reducible apply heap_drewS | with_reducible apply heap_allocS)) Try.underlying24 rfl (by kernel_rfl) ?_)
  refine (cMay x0 x1 x2 x3 x4 x5 x6 x7 x8 2 x10 x11 x12 x13 x14 x15 x16 _).mono ?_; rintro e' w1 ⟨rfl, n1, os1, rfl⟩
  rw [HM.out]
  go_wp2_with fail
  refine (tGrow c t a p e k f ak x5 n s Hc.out Hp.out He.out Hk.out Hf.out Hak.out H5.out Hn.out Hs.out _).mono ?_; rintro e' w1 ⟨rfl, n2', os2, rfl⟩
  rw [QG.out, QP.out, QD.out, QK.out, QF.out]
  go_wp2_with fail
  refine (sClamp _ _ _ _).mono ?_; rintro e' w1 ⟨rfl, rfl⟩
  go_wp2_with fail
  refine bodyPost_ret (v := .agg #[.int .u64 (clampI G x7 x8), .int .u64 t, .int .u64 a, .int .u64 P, .int .u64 D, .int .u64 K, .int .u64 F, .int .u64 E, .int .u64 C]) (by simp [results, Try.results35, go_sem]) rfl ⟨rfl, ?_⟩
  repeat (first | exact Gr.refl _ | apply Gr.drewN | apply Gr.drew | apply Gr.gw | apply Gr.alloc)

theorem nAck (x0 x1 x2 x3 x4 x5 x6 x7 x8 x9 x10 x11 x12 x13 x14 x15 x16 c t a p e k f E C ak n s : Int) (R : W9) (m : Bool) (hm : (confI x0 x1 x2 x3 x4 x5 x6 x7 x8 x9 x10 x11 x12 x13 x14 x15 x16 == 0) = m) (hR : ackW m x9 x5 x7 x8 ak n s ⟨c, t, a, p, e, k, f, E, C⟩ = R) (h5 : W64 x5) (ok : W9.Ok ⟨c, t, a, p, e, k, f, E, C⟩) (hak : W64 ak) (hn : W64 n) (hs : W64 s) (w : World) :
    Calls Try.prog 35 #[.agg #[.int .i64 x0, .int .u64 x1, .int .i64 x2, .int .u64 x3, .int .i64 x4, .int .u64 x5, .int .u64 x6, .int .u64 x7, .int .u64 x8, .int .i64 x9, .int .u64 x10, .int .u64 x11, .int .u64 x12, .int .u64 x13, .int .u64 x14, .int .i64 x15, .int .u64 x16], .agg #[.int .u64 c, .int .u64 t, .int .u64 a, .int .u64 p, .int .u64 e, .int .u64 k, .int .u64 f, .int .u64 E, .int .u64 C], .int .u64 ak, .int .u64 n, .int .u64 s] w fun e' w' => e' = .returned (.agg #[.int .u64 R.c, .int .u64 R.t, .int .u64 R.a, .int .u64 R.p, .int .u64 R.e, .int .u64 R.k, .int .u64 R.f, .int .u64 R.E, .int .u64 R.C]) ∧ Gr w w' := by
  subst hR
  cases m
  · exact nAckNo x0 x1 x2 x3 x4 x5 x6 x7 x8 x9 x10 x11 x12 x13 x14 x15 x16 c t a p e k f E C ak n s h5 hm w
  · rcases may_al x0 x1 x2 x3 x4 x5 x6 x7 x8 x9 x10 x11 x12 x13 x14 x15 x16 hm with rfl | rfl
    · rw [show ackW true 1 x5 x7 x8 ak n s ⟨c, t, a, p, e, k, f, E, C⟩ = ack1 x5 x7 x8 ak ⟨c, t, a, p, e, k, f, E, C⟩ by unfold ackW; rw [if_pos rfl, if_neg (by decide)]]
      exact nAck1 x0 x1 x2 x3 x4 x5 x6 x7 x8 x10 x11 x12 x13 x14 x15 x16 c t a p e k f E C ak n s _ _ rfl rfl h5 hm ok.c ok.a ok.p ok.e ok.k ok.f hak hn hs w
    · rw [show ackW true 2 x5 x7 x8 ak n s ⟨c, t, a, p, e, k, f, E, C⟩ = ack2 x5 x7 x8 ak n s ⟨c, t, a, p, e, k, f, E, C⟩ by unfold ackW; rw [if_pos rfl, if_pos rfl]]
      exact nAck2 x0 x1 x2 x3 x4 x5 x6 x7 x8 x10 x11 x12 x13 x14 x15 x16 c t a p e k f E C ak n s _ _ _ _ _ rfl rfl rfl rfl rfl h5 hm ok.c ok.a ok.p ok.e ok.k ok.f hak hn hs w

end Go.Proofs.Ytikkmdbaekdolaa
