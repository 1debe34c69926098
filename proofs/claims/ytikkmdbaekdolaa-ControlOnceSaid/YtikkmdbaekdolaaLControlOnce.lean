/- For all slices k of 32-bit numbers, controls s and words pn, next, less, ControlOnce returns true: a packet of a round in which the window was cut cuts no more. No condition. -/
import Derived.Test.YtikkmdbaekdolaaBase
import Derived.Test.YtikkmdbaekdolaaAliveCtrl
import Derived.Test.YtikkmdbaekdolaaCtrl3
import Derived.Test.YtikkmdbaekdolaaHold
import Derived.Test.YtikkmdbaekdolaaConf0
namespace Go.Proofs.Ytikkmdbaekdolaa.controlOnce
open Go.ChangeShapes Go.WideShapes Go.ChangeAt Go.RowKit Go.Lib
set_option linter.unusedVariables false
set_option maxRecDepth 100000

theorem openCc {cs : Array Value} (h : Fits [some .u64, some .u64, some .u64, some .u64, some .u64, some .u64, some .u64, some .u64, some .u64] cs.toList) :
    ∃ s : W9, cs = #[.int .u64 s.c, .int .u64 s.t, .int .u64 s.a, .int .u64 s.p, .int .u64 s.e, .int .u64 s.k, .int .u64 s.f, .int .u64 s.E, .int .u64 s.C] ∧ s.Ok := by
  obtain ⟨l⟩ := cs
  rcases l with _ | ⟨v0, _ | ⟨v1, _ | ⟨v2, _ | ⟨v3, _ | ⟨v4, _ | ⟨v5, _ | ⟨v6, _ | ⟨v7, _ | ⟨v8, _ | ⟨v9, l⟩⟩⟩⟩⟩⟩⟩⟩⟩⟩ <;> simp only [Fits, and_false] at h
  obtain ⟨⟨y0, rfl, h0⟩, ⟨y1, rfl, h1⟩, ⟨y2, rfl, h2⟩, ⟨y3, rfl, h3⟩, ⟨y4, rfl, h4⟩, ⟨y5, rfl, h5⟩, ⟨y6, rfl, h6⟩, ⟨y7, rfl, h7⟩, ⟨y8, rfl, h8⟩, _⟩ := h
  exact ⟨⟨y0, y1, y2, y3, y4, y5, y6, y7, y8⟩, rfl, ⟨wfU64 h0, wfU64 h1, wfU64 h2, wfU64 h3, wfU64 h4, wfU64 h5, wfU64 h6, wfU64 h7, wfU64 h8⟩⟩

theorem cf5_W {w : World} {a : Option Addr} {len : Nat} {z : Nat → Int} (h : Nums w a len z) : W64 (cf5 (atF len z)) := by
  have := h.atF 0
  unfold cf5 W64
  omega

theorem rnd_next {E q nx : Int} (h : E ≤ q) (k : q < nx) : rndE E q nx = nx := by
  unfold rndE
  rw [if_pos h, if_neg (by omega)]

set_option maxHeartbeats 8000000 in
theorem walkOver (y0 y1 y2 y3 y4 y5 y6 y7 y8 y9 y10 y11 y12 y13 y14 y15 y16 c t a p e k f E C q nx less : Int) (ka : Option Addr) (len cap : Nat) (z : Nat → Int) (R1 : W9) (w : World)
    (hmy : (confI y0 y1 y2 y3 y4 y5 y6 y7 y8 y9 y10 y11 y12 y13 y14 y15 y16 == 0) = true) (h5y : W64 y5) (ok : W9.Ok ⟨c, t, a, p, e, k, f, E, C⟩) (hq : W64 q) (hnx : W64 nx) (hl : W64 less) (hn : Nums w ka len z)
    (HC : Hid (∀ w, Nums w ka len z → Calls Try.prog 16 #[.slice ka len cap] w fun e w' => e = .returned (.agg #[.int .i64 y0, .int .u64 y1, .int .i64 y2, .int .u64 y3, .int .i64 y4, .int .u64 y5, .int .u64 y6, .int .u64 y7, .int .u64 y8, .int .i64 y9, .int .u64 y10, .int .u64 y11, .int .u64 y12, .int .u64 y13, .int .u64 y14, .int .i64 y15, .int .u64 y16]) ∧ Gr w w')) (hov : nx ≤ q) :
    Calls Try.prog 4 #[.slice ka len cap, .agg #[.int .u64 c, .int .u64 t, .int .u64 a, .int .u64 p, .int .u64 e, .int .u64 k, .int .u64 f, .int .u64 E, .int .u64 C], .int .u64 q, .int .u64 nx, .int .u64 less] w fun e w' => e = .returned (.bool true) ∧ Gr w w' := by
  have HMY := Lib.hid hmy
  have OK := Lib.hid ok
  have HQ := Lib.hid hq
  have HNX := Lib.hid hnx
  have HL := Lib.hid hl
  have HN := Lib.hid hn
  clear hmy ok hq hnx hl hn
  go_enter Try.func4, Try.ntmps4
  go_wp2_with fail
  · skip
    ((with_reducible refine (HC.out _ (Nums.below HN.out (Gr.below (by repeat (first | assumption | exact Gr.refl _ | apply Gr.drewN | apply Gr.drew | apply Gr.gw | apply Gr.alloc))))).mono ?_); rintro e' w1 ⟨rfl, g1⟩)
    have A1 := rowsKeep1 (W' := w1) (g1 := w.heap.size) (c1 := #[.int .u64 c, .int .u64 t, .int .u64 a, .int .u64 p, .int .u64 e, .int .u64 k, .int .u64 f, .int .u64 E, .int .u64 C]) (t1 := 31) (by refine RowIs.mk ?_; repeat (first | (with_reducible exact RowIs.un r0) | (with_reducible exact RowIs.un r1) | (with_reducible exact RowIs.un r2) | (with_reducible exact RowIs.un r3) | (with_reducible exact RowIs.un r4) | (with_reducible refine heap_newS _ _ _ ?_; (first | (simp; done) | (simp; omega))) | with_reducible apply heap_gwS | with_reducible apply heap_drewNS | with_reducible apply heap_drewS | with_reducible apply heap_allocS)) g1
    have G1 := Gr.trans (show Gr w _ from by repeat (first | assumption | exact Gr.refl _ | apply Gr.drewN | apply Gr.drew | apply Gr.gw | apply Gr.alloc)) g1
    clear  g1
    have r0 := A1
    clear A1
    go_wp2_with (first | (refine wpList_load_all (by rfl) 24 _ rfl _ rfl _ _ _ _ (by repeat (first | (with_reducible exact RowIs.un r0) | (with_reducible exact RowIs.un r1) | (with_reducible exact RowIs.un r2) | (with_reducible exact RowIs.un r3) | (with_reducible exact RowIs.un r4) | (with_reducible refine heap_newS _ _ _ ?_; (first | (simp; done) | (simp; omega))) | with_reducible apply heap_gwS | with_reducible apply heap_drewNS | with_reducible apply heap_drewS | with_reducible apply heap_allocS)) Try.underlying24 rfl (by kernel_rfl) ?_) | (refine wpList_load_all (by rfl) 31 _ rfl _ rfl _ _ _ _ (by repeat (first | (with_reducible exact RowIs.un r0) | (with_reducible exact RowIs.un r1) | (with_reducible exact RowIs.un r2) | (with_reducible exact RowIs.un r3) | (with_reducible exact RowIs.un r4) | (with_reducible refine heap_newS _ _ _ ?_; (first | (simp; done) | (simp; omega))) | with_reducible apply heap_gwS | with_reducible apply heap_drewNS | with_reducible apply heap_drewS | with_reducible apply heap_allocS)) Try.underlying31 rfl (by kernel_rfl) ?_) | (refine wpList_store_newD rfl 24 _ _ rfl _ _ rfl rfl _ _ _ _ (by with_reducible rfl) (by first | (simp; done) | (simp; omega)) (by kernel_rfl) rfl (by first | kernel_rfl | simp [Value.oneCell'] | rfl) ?_) | (refine wpList_store_new rfl 24 _ _ rfl _ _ rfl rfl _ _ _ (by with_reducible rfl) (by first | (simp; done) | (simp; omega)) (by kernel_rfl) rfl (by first | kernel_rfl | simp [Value.oneCell'] | rfl) ?_) | (refine wpList_store_newD rfl 31 _ _ rfl _ _ rfl rfl _ _ _ _ (by with_reducible rfl) (by first | (simp; done) | (simp; omega)) (by kernel_rfl) rfl (by first | kernel_rfl | simp [Value.oneCell'] | rfl) ?_) | (refine wpList_store_new rfl 31 _ _ rfl _ _ rfl rfl _ _ _ (by with_reducible rfl) (by first | (simp; done) | (simp; omega)) (by kernel_rfl) rfl (by first | kernel_rfl | simp [Value.oneCell'] | rfl) ?_))
    ((with_reducible refine (aliveCtrl _).mono ?_); rintro e' w2 ⟨rfl, g2⟩)
    have A2 := rowsKeep2 (W' := w2) (g1 := w.heap.size) (c1 := #[.int .u64 c, .int .u64 t, .int .u64 a, .int .u64 p, .int .u64 e, .int .u64 k, .int .u64 f, .int .u64 E, .int .u64 C]) (t1 := 31) (g2 := w1.heap.size) (c2 := #[.int .i64 y0, .int .u64 y1, .int .i64 y2, .int .u64 y3, .int .i64 y4, .int .u64 y5, .int .u64 y6, .int .u64 y7, .int .u64 y8, .int .i64 y9, .int .u64 y10, .int .u64 y11, .int .u64 y12, .int .u64 y13, .int .u64 y14, .int .i64 y15, .int .u64 y16]) (t2 := 24) ⟨(by refine RowIs.mk ?_; repeat (first | (with_reducible exact RowIs.un r0) | (with_reducible exact RowIs.un r1) | (with_reducible exact RowIs.un r2) | (with_reducible exact RowIs.un r3) | (with_reducible exact RowIs.un r4) | (with_reducible refine heap_newS _ _ _ ?_; (first | (simp; done) | (simp; omega))) | with_reducible apply heap_gwS | with_reducible apply heap_drewNS | with_reducible apply heap_drewS | with_reducible apply heap_allocS)), (by refine RowIs.mk ?_; repeat (first | (with_reducible exact RowIs.un r0) | (with_reducible exact RowIs.un r1) | (with_reducible exact RowIs.un r2) | (with_reducible exact RowIs.un r3) | (with_reducible exact RowIs.un r4) | (with_reducible refine heap_newS _ _ _ ?_; (first | (simp; done) | (simp; omega))) | with_reducible apply heap_gwS | with_reducible apply heap_drewNS | with_reducible apply heap_drewS | with_reducible apply heap_allocS))⟩ g2
    have G2 := Gr.trans (show Gr w _ from by repeat (first | assumption | exact Gr.refl _ | apply Gr.drewN | apply Gr.drew | apply Gr.gw | apply Gr.alloc)) g2
    clear r0 G1 g2
    obtain ⟨r0, r1⟩ := A2
    go_wp2_with (first | (refine wpList_load_all (by rfl) 24 _ rfl _ rfl _ _ _ _ (by repeat (first | (with_reducible exact RowIs.un r0) | (with_reducible exact RowIs.un r1) | (with_reducible exact RowIs.un r2) | (with_reducible exact RowIs.un r3) | (with_reducible exact RowIs.un r4) | (with_reducible refine heap_newS _ _ _ ?_; (first | (simp; done) | (simp; omega))) | with_reducible apply heap_gwS | with_reducible apply heap_drewNS | with_reducible apply heap_drewS | with_reducible apply heap_allocS)) Try.underlying24 rfl (by kernel_rfl) ?_) | (refine wpList_load_all (by rfl) 31 _ rfl _ rfl _ _ _ _ (by repeat (first | (with_reducible exact RowIs.un r0) | (with_reducible exact RowIs.un r1) | (with_reducible exact RowIs.un r2) | (with_reducible exact RowIs.un r3) | (with_reducible exact RowIs.un r4) | (with_reducible refine heap_newS _ _ _ ?_; (first | (simp; done) | (simp; omega))) | with_reducible apply heap_gwS | with_reducible apply heap_drewNS | with_reducible apply heap_drewS | with_reducible apply heap_allocS)) Try.underlying31 rfl (by kernel_rfl) ?_) | (refine wpList_store_newD rfl 24 _ _ rfl _ _ rfl rfl _ _ _ _ (by with_reducible rfl) (by first | (simp; done) | (simp; omega)) (by kernel_rfl) rfl (by first | kernel_rfl | simp [Value.oneCell'] | rfl) ?_) | (refine wpList_store_new rfl 24 _ _ rfl _ _ rfl rfl _ _ _ (by with_reducible rfl) (by first | (simp; done) | (simp; omega)) (by kernel_rfl) rfl (by first | kernel_rfl | simp [Value.oneCell'] | rfl) ?_) | (refine wpList_store_newD rfl 31 _ _ rfl _ _ rfl rfl _ _ _ _ (by with_reducible rfl) (by first | (simp; done) | (simp; omega)) (by kernel_rfl) rfl (by first | kernel_rfl | simp [Value.oneCell'] | rfl) ?_) | (refine wpList_store_new rfl 31 _ _ rfl _ _ rfl rfl _ _ _ (by with_reducible rfl) (by first | (simp; done) | (simp; omega)) (by kernel_rfl) rfl (by first | kernel_rfl | simp [Value.oneCell'] | rfl) ?_))
    ((with_reducible refine (aliveCtrl _).mono ?_); rintro e' w3 ⟨rfl, g3⟩)
    have A3 := rowsKeep2 (W' := w3) (g1 := w.heap.size) (c1 := #[.int .u64 c, .int .u64 t, .int .u64 a, .int .u64 p, .int .u64 e, .int .u64 k, .int .u64 f, .int .u64 E, .int .u64 C]) (t1 := 31) (g2 := w1.heap.size) (c2 := #[.int .i64 y0, .int .u64 y1, .int .i64 y2, .int .u64 y3, .int .i64 y4, .int .u64 y5, .int .u64 y6, .int .u64 y7, .int .u64 y8, .int .i64 y9, .int .u64 y10, .int .u64 y11, .int .u64 y12, .int .u64 y13, .int .u64 y14, .int .i64 y15, .int .u64 y16]) (t2 := 24) ⟨(by refine RowIs.mk ?_; repeat (first | (with_reducible exact RowIs.un r0) | (with_reducible exact RowIs.un r1) | (with_reducible exact RowIs.un r2) | (with_reducible exact RowIs.un r3) | (with_reducible exact RowIs.un r4) | (with_reducible refine heap_newS _ _ _ ?_; (first | (simp; done) | (simp; omega))) | with_reducible apply heap_gwS | with_reducible apply heap_drewNS | with_reducible apply heap_drewS | with_reducible apply heap_allocS)), (by refine RowIs.mk ?_; repeat (first | (with_reducible exact RowIs.un r0) | (with_reducible exact RowIs.un r1) | (with_reducible exact RowIs.un r2) | (with_reducible exact RowIs.un r3) | (with_reducible exact RowIs.un r4) | (with_reducible refine heap_newS _ _ _ ?_; (first | (simp; done) | (simp; omega))) | with_reducible apply heap_gwS | with_reducible apply heap_drewNS | with_reducible apply heap_drewS | with_reducible apply heap_allocS))⟩ g3
    have G3 := Gr.trans (show Gr w _ from by repeat (first | assumption | exact Gr.refl _ | apply Gr.drewN | apply Gr.drew | apply Gr.gw | apply Gr.alloc)) g3
    clear r0 r1 G2 g3
    obtain ⟨r0, r1⟩ := A3
    go_wp2_with fail
    go_ret
    exact ⟨rfl, by repeat (first | assumption | exact Gr.refl _ | apply Gr.drewN | apply Gr.drew | apply Gr.gw | apply Gr.alloc)⟩

set_option maxHeartbeats 8000000 in
theorem walkStale (y0 y1 y2 y3 y4 y5 y6 y7 y8 y9 y10 y11 y12 y13 y14 y15 y16 c t a p e k f E C q nx less : Int) (ka : Option Addr) (len cap : Nat) (z : Nat → Int) (R1 : W9) (w : World)
    (hmy : (confI y0 y1 y2 y3 y4 y5 y6 y7 y8 y9 y10 y11 y12 y13 y14 y15 y16 == 0) = true) (h5y : W64 y5) (ok : W9.Ok ⟨c, t, a, p, e, k, f, E, C⟩) (hq : W64 q) (hnx : W64 nx) (hl : W64 less) (hn : Nums w ka len z)
    (HC : Hid (∀ w, Nums w ka len z → Calls Try.prog 16 #[.slice ka len cap] w fun e w' => e = .returned (.agg #[.int .i64 y0, .int .u64 y1, .int .i64 y2, .int .u64 y3, .int .i64 y4, .int .u64 y5, .int .u64 y6, .int .u64 y7, .int .u64 y8, .int .i64 y9, .int .u64 y10, .int .u64 y11, .int .u64 y12, .int .u64 y13, .int .u64 y14, .int .i64 y15, .int .u64 y16]) ∧ Gr w w')) (hov : q < nx) (hE : q < E) (hr : begW true y9 y7 y8 1 2 7 10 q nx ⟨c, t, a, p, e, k, f, E, C⟩ = R1) (hb : begO true q ⟨c, t, a, p, e, k, f, E, C⟩ = false) (hr' : R1 = ⟨c, t, a, p, e, k, f, E, C⟩) :
    Calls Try.prog 4 #[.slice ka len cap, .agg #[.int .u64 c, .int .u64 t, .int .u64 a, .int .u64 p, .int .u64 e, .int .u64 k, .int .u64 f, .int .u64 E, .int .u64 C], .int .u64 q, .int .u64 nx, .int .u64 less] w fun e w' => e = .returned (.bool true) ∧ Gr w w' := by
  have HMY := Lib.hid hmy
  have OK := Lib.hid ok
  have HQ := Lib.hid hq
  have HNX := Lib.hid hnx
  have HL := Lib.hid hl
  have HN := Lib.hid hn
  have HR := Lib.hid hr
  have HB := Lib.hid hb
  clear hmy ok hq hnx hl hn hr hb
  subst hr'
  go_enter Try.func4, Try.ntmps4
  go_wp2_with fail
  · skip
    ((with_reducible refine (HC.out _ (Nums.below HN.out (Gr.below (by repeat (first | assumption | exact Gr.refl _ | apply Gr.drewN | apply Gr.drew | apply Gr.gw | apply Gr.alloc))))).mono ?_); rintro e' w1 ⟨rfl, g1⟩)
    have A1 := rowsKeep1 (W' := w1) (g1 := w.heap.size) (c1 := #[.int .u64 c, .int .u64 t, .int .u64 a, .int .u64 p, .int .u64 e, .int .u64 k, .int .u64 f, .int .u64 E, .int .u64 C]) (t1 := 31) (by refine RowIs.mk ?_; repeat (first | (with_reducible exact RowIs.un r0) | (with_reducible exact RowIs.un r1) | (with_reducible exact RowIs.un r2) | (with_reducible exact RowIs.un r3) | (with_reducible exact RowIs.un r4) | (with_reducible refine heap_newS _ _ _ ?_; (first | (simp; done) | (simp; omega))) | with_reducible apply heap_gwS | with_reducible apply heap_drewNS | with_reducible apply heap_drewS | with_reducible apply heap_allocS)) g1
    have G1 := Gr.trans (show Gr w _ from by repeat (first | assumption | exact Gr.refl _ | apply Gr.drewN | apply Gr.drew | apply Gr.gw | apply Gr.alloc)) g1
    clear  g1
    have r0 := A1
    clear A1
    go_wp2_with (first | (refine wpList_load_all (by rfl) 24 _ rfl _ rfl _ _ _ _ (by repeat (first | (with_reducible exact RowIs.un r0) | (with_reducible exact RowIs.un r1) | (with_reducible exact RowIs.un r2) | (with_reducible exact RowIs.un r3) | (with_reducible exact RowIs.un r4) | (with_reducible refine heap_newS _ _ _ ?_; (first | (simp; done) | (simp; omega))) | with_reducible apply heap_gwS | with_reducible apply heap_drewNS | with_reducible apply heap_drewS | with_reducible apply heap_allocS)) Try.underlying24 rfl (by kernel_rfl) ?_) | (refine wpList_load_all (by rfl) 31 _ rfl _ rfl _ _ _ _ (by repeat (first | (with_reducible exact RowIs.un r0) | (with_reducible exact RowIs.un r1) | (with_reducible exact RowIs.un r2) | (with_reducible exact RowIs.un r3) | (with_reducible exact RowIs.un r4) | (with_reducible refine heap_newS _ _ _ ?_; (first | (simp; done) | (simp; omega))) | with_reducible apply heap_gwS | with_reducible apply heap_drewNS | with_reducible apply heap_drewS | with_reducible apply heap_allocS)) Try.underlying31 rfl (by kernel_rfl) ?_) | (refine wpList_store_newD rfl 24 _ _ rfl _ _ rfl rfl _ _ _ _ (by with_reducible rfl) (by first | (simp; done) | (simp; omega)) (by kernel_rfl) rfl (by first | kernel_rfl | simp [Value.oneCell'] | rfl) ?_) | (refine wpList_store_new rfl 24 _ _ rfl _ _ rfl rfl _ _ _ (by with_reducible rfl) (by first | (simp; done) | (simp; omega)) (by kernel_rfl) rfl (by first | kernel_rfl | simp [Value.oneCell'] | rfl) ?_) | (refine wpList_store_newD rfl 31 _ _ rfl _ _ rfl rfl _ _ _ _ (by with_reducible rfl) (by first | (simp; done) | (simp; omega)) (by kernel_rfl) rfl (by first | kernel_rfl | simp [Value.oneCell'] | rfl) ?_) | (refine wpList_store_new rfl 31 _ _ rfl _ _ rfl rfl _ _ _ (by with_reducible rfl) (by first | (simp; done) | (simp; omega)) (by kernel_rfl) rfl (by first | kernel_rfl | simp [Value.oneCell'] | rfl) ?_))
    ((with_reducible refine (aliveCtrl _).mono ?_); rintro e' w2 ⟨rfl, g2⟩)
    have A2 := rowsKeep2 (W' := w2) (g1 := w.heap.size) (c1 := #[.int .u64 c, .int .u64 t, .int .u64 a, .int .u64 p, .int .u64 e, .int .u64 k, .int .u64 f, .int .u64 E, .int .u64 C]) (t1 := 31) (g2 := w1.heap.size) (c2 := #[.int .i64 y0, .int .u64 y1, .int .i64 y2, .int .u64 y3, .int .i64 y4, .int .u64 y5, .int .u64 y6, .int .u64 y7, .int .u64 y8, .int .i64 y9, .int .u64 y10, .int .u64 y11, .int .u64 y12, .int .u64 y13, .int .u64 y14, .int .i64 y15, .int .u64 y16]) (t2 := 24) ⟨(by refine RowIs.mk ?_; repeat (first | (with_reducible exact RowIs.un r0) | (with_reducible exact RowIs.un r1) | (with_reducible exact RowIs.un r2) | (with_reducible exact RowIs.un r3) | (with_reducible exact RowIs.un r4) | (with_reducible refine heap_newS _ _ _ ?_; (first | (simp; done) | (simp; omega))) | with_reducible apply heap_gwS | with_reducible apply heap_drewNS | with_reducible apply heap_drewS | with_reducible apply heap_allocS)), (by refine RowIs.mk ?_; repeat (first | (with_reducible exact RowIs.un r0) | (with_reducible exact RowIs.un r1) | (with_reducible exact RowIs.un r2) | (with_reducible exact RowIs.un r3) | (with_reducible exact RowIs.un r4) | (with_reducible refine heap_newS _ _ _ ?_; (first | (simp; done) | (simp; omega))) | with_reducible apply heap_gwS | with_reducible apply heap_drewNS | with_reducible apply heap_drewS | with_reducible apply heap_allocS))⟩ g2
    have G2 := Gr.trans (show Gr w _ from by repeat (first | assumption | exact Gr.refl _ | apply Gr.drewN | apply Gr.drew | apply Gr.gw | apply Gr.alloc)) g2
    clear r0 G1 g2
    obtain ⟨r0, r1⟩ := A2
    go_wp2_with (first | (refine wpList_load_all (by rfl) 24 _ rfl _ rfl _ _ _ _ (by repeat (first | (with_reducible exact RowIs.un r0) | (with_reducible exact RowIs.un r1) | (with_reducible exact RowIs.un r2) | (with_reducible exact RowIs.un r3) | (with_reducible exact RowIs.un r4) | (with_reducible refine heap_newS _ _ _ ?_; (first | (simp; done) | (simp; omega))) | with_reducible apply heap_gwS | with_reducible apply heap_drewNS | with_reducible apply heap_drewS | with_reducible apply heap_allocS)) Try.underlying24 rfl (by kernel_rfl) ?_) | (refine wpList_load_all (by rfl) 31 _ rfl _ rfl _ _ _ _ (by repeat (first | (with_reducible exact RowIs.un r0) | (with_reducible exact RowIs.un r1) | (with_reducible exact RowIs.un r2) | (with_reducible exact RowIs.un r3) | (with_reducible exact RowIs.un r4) | (with_reducible refine heap_newS _ _ _ ?_; (first | (simp; done) | (simp; omega))) | with_reducible apply heap_gwS | with_reducible apply heap_drewNS | with_reducible apply heap_drewS | with_reducible apply heap_allocS)) Try.underlying31 rfl (by kernel_rfl) ?_) | (refine wpList_store_newD rfl 24 _ _ rfl _ _ rfl rfl _ _ _ _ (by with_reducible rfl) (by first | (simp; done) | (simp; omega)) (by kernel_rfl) rfl (by first | kernel_rfl | simp [Value.oneCell'] | rfl) ?_) | (refine wpList_store_new rfl 24 _ _ rfl _ _ rfl rfl _ _ _ (by with_reducible rfl) (by first | (simp; done) | (simp; omega)) (by kernel_rfl) rfl (by first | kernel_rfl | simp [Value.oneCell'] | rfl) ?_) | (refine wpList_store_newD rfl 31 _ _ rfl _ _ rfl rfl _ _ _ _ (by with_reducible rfl) (by first | (simp; done) | (simp; omega)) (by kernel_rfl) rfl (by first | kernel_rfl | simp [Value.oneCell'] | rfl) ?_) | (refine wpList_store_new rfl 31 _ _ rfl _ _ rfl rfl _ _ _ (by with_reducible rfl) (by first | (simp; done) | (simp; omega)) (by kernel_rfl) rfl (by first | kernel_rfl | simp [Value.oneCell'] | rfl) ?_))
    ((with_reducible refine (nLoss y0 y1 y2 y3 y4 y5 y6 y7 y8 y9 y10 y11 y12 y13 y14 y15 y16 c t a p e k f E C q nx ⟨c, t, a, p, e, k, f, E, C⟩ false true HMY.out HR.out HB.out OK.out.c OK.out.C HQ.out _).mono ?_); rintro e' w3 ⟨rfl, g3⟩)
    have A3 := rowsKeep2 (W' := w3) (g1 := w.heap.size) (c1 := #[.int .u64 c, .int .u64 t, .int .u64 a, .int .u64 p, .int .u64 e, .int .u64 k, .int .u64 f, .int .u64 E, .int .u64 C]) (t1 := 31) (g2 := w1.heap.size) (c2 := #[.int .i64 y0, .int .u64 y1, .int .i64 y2, .int .u64 y3, .int .i64 y4, .int .u64 y5, .int .u64 y6, .int .u64 y7, .int .u64 y8, .int .i64 y9, .int .u64 y10, .int .u64 y11, .int .u64 y12, .int .u64 y13, .int .u64 y14, .int .i64 y15, .int .u64 y16]) (t2 := 24) ⟨(by refine RowIs.mk ?_; repeat (first | (with_reducible exact RowIs.un r0) | (with_reducible exact RowIs.un r1) | (with_reducible exact RowIs.un r2) | (with_reducible exact RowIs.un r3) | (with_reducible exact RowIs.un r4) | (with_reducible refine heap_newS _ _ _ ?_; (first | (simp; done) | (simp; omega))) | with_reducible apply heap_gwS | with_reducible apply heap_drewNS | with_reducible apply heap_drewS | with_reducible apply heap_allocS)), (by refine RowIs.mk ?_; repeat (first | (with_reducible exact RowIs.un r0) | (with_reducible exact RowIs.un r1) | (with_reducible exact RowIs.un r2) | (with_reducible exact RowIs.un r3) | (with_reducible exact RowIs.un r4) | (with_reducible refine heap_newS _ _ _ ?_; (first | (simp; done) | (simp; omega))) | with_reducible apply heap_gwS | with_reducible apply heap_drewNS | with_reducible apply heap_drewS | with_reducible apply heap_allocS))⟩ g3
    have G3 := Gr.trans (show Gr w _ from by repeat (first | assumption | exact Gr.refl _ | apply Gr.drewN | apply Gr.drew | apply Gr.gw | apply Gr.alloc)) g3
    clear r0 r1 G2 g3
    obtain ⟨r0, r1⟩ := A3
    have d0 := r0.cell 0
    have d1 := r0.cell 1
    have d2 := r0.cell 2
    have d3 := r0.cell 3
    have d4 := r0.cell 4
    have d5 := r0.cell 5
    have d6 := r0.cell 6
    have d7 := r0.cell 7
    have d8 := r0.cell 8
    simp at d0 d1 d2 d3 d4 d5 d6 d7 d8
    have ld := r0.lt
    go_wp2_with (first | (refine wpList_load_all (by rfl) 24 _ rfl _ rfl _ _ _ _ (by repeat (first | (with_reducible exact RowIs.un r0) | (with_reducible exact RowIs.un r1) | (with_reducible exact RowIs.un r2) | (with_reducible exact RowIs.un r3) | (with_reducible exact RowIs.un r4) | (with_reducible refine heap_newS _ _ _ ?_; (first | (simp; done) | (simp; omega))) | with_reducible apply heap_gwS | with_reducible apply heap_drewNS | with_reducible apply heap_drewS | with_reducible apply heap_allocS)) Try.underlying24 rfl (by kernel_rfl) ?_) | (refine wpList_load_all (by rfl) 31 _ rfl _ rfl _ _ _ _ (by repeat (first | (with_reducible exact RowIs.un r0) | (with_reducible exact RowIs.un r1) | (with_reducible exact RowIs.un r2) | (with_reducible exact RowIs.un r3) | (with_reducible exact RowIs.un r4) | (with_reducible refine heap_newS _ _ _ ?_; (first | (simp; done) | (simp; omega))) | with_reducible apply heap_gwS | with_reducible apply heap_drewNS | with_reducible apply heap_drewS | with_reducible apply heap_allocS)) Try.underlying31 rfl (by kernel_rfl) ?_) | (refine wpList_store_newD rfl 24 _ _ rfl _ _ rfl rfl _ _ _ _ (by with_reducible rfl) (by first | (simp; done) | (simp; omega)) (by kernel_rfl) rfl (by first | kernel_rfl | simp [Value.oneCell'] | rfl) ?_) | (refine wpList_store_new rfl 24 _ _ rfl _ _ rfl rfl _ _ _ (by with_reducible rfl) (by first | (simp; done) | (simp; omega)) (by kernel_rfl) rfl (by first | kernel_rfl | simp [Value.oneCell'] | rfl) ?_) | (refine wpList_store_newD rfl 31 _ _ rfl _ _ rfl rfl _ _ _ _ (by with_reducible rfl) (by first | (simp; done) | (simp; omega)) (by kernel_rfl) rfl (by first | kernel_rfl | simp [Value.oneCell'] | rfl) ?_) | (refine wpList_store_new rfl 31 _ _ rfl _ _ rfl rfl _ _ _ (by with_reducible rfl) (by first | (simp; done) | (simp; omega)) (by kernel_rfl) rfl (by first | kernel_rfl | simp [Value.oneCell'] | rfl) ?_))
    go_wp2_with fail
    go_ret
    exact ⟨rfl, by repeat (first | assumption | exact Gr.refl _ | apply Gr.drewN | apply Gr.drew | apply Gr.gw | apply Gr.alloc)⟩

set_option maxHeartbeats 8000000 in
theorem walkYes (y0 y1 y2 y3 y4 y5 y6 y7 y8 y9 y10 y11 y12 y13 y14 y15 y16 c t a p e k f E C q nx less : Int) (ka : Option Addr) (len cap : Nat) (z : Nat → Int) (R1 : W9) (w : World)
    (hmy : (confI y0 y1 y2 y3 y4 y5 y6 y7 y8 y9 y10 y11 y12 y13 y14 y15 y16 == 0) = true) (h5y : W64 y5) (ok : W9.Ok ⟨c, t, a, p, e, k, f, E, C⟩) (hq : W64 q) (hnx : W64 nx) (hl : W64 less) (hn : Nums w ka len z)
    (HC : Hid (∀ w, Nums w ka len z → Calls Try.prog 16 #[.slice ka len cap] w fun e w' => e = .returned (.agg #[.int .i64 y0, .int .u64 y1, .int .i64 y2, .int .u64 y3, .int .i64 y4, .int .u64 y5, .int .u64 y6, .int .u64 y7, .int .u64 y8, .int .i64 y9, .int .u64 y10, .int .u64 y11, .int .u64 y12, .int .u64 y13, .int .u64 y14, .int .i64 y15, .int .u64 y16]) ∧ Gr w w')) (hov : q < nx) (hr : begW true y9 y7 y8 1 2 7 10 q nx ⟨c, t, a, p, e, k, f, E, C⟩ = R1) (hb : begO true q ⟨c, t, a, p, e, k, f, E, C⟩ = true) (hok : R1.Ok) (hle : R1.c ≤ max c y7)
    (hr2 : ∀ M, begW true y9 y7 y8 1 2 7 10 (less % nx) M R1 = R1) (hr3 : ∀ M, begW true y9 y7 y8 4 5 17 20 (less % nx) M R1 = R1) (hb2 : begO true (less % nx) R1 = false) (hnm : W64 (less % nx)) :
    Calls Try.prog 4 #[.slice ka len cap, .agg #[.int .u64 c, .int .u64 t, .int .u64 a, .int .u64 p, .int .u64 e, .int .u64 k, .int .u64 f, .int .u64 E, .int .u64 C], .int .u64 q, .int .u64 nx, .int .u64 less] w fun e w' => e = .returned (.bool true) ∧ Gr w w' := by
  have hl0 : 0 ≤ less := hl.1
  have hn0 : 0 < nx := by have := hq.1; omega
  have hnz : (nx == 0) = false := by rw [beq_eq_false_iff_ne]; omega
  have HMY := Lib.hid hmy
  have OK := Lib.hid ok
  have HQ := Lib.hid hq
  have HNX := Lib.hid hnx
  have HL := Lib.hid hl
  have HN := Lib.hid hn
  have HR := Lib.hid hr
  have HB := Lib.hid hb
  have HOK := Lib.hid hok
  have HR2 := Lib.hid hr2
  have HR3 := Lib.hid hr3
  have HB2 := Lib.hid hb2
  have HNM := Lib.hid hnm
  clear hmy ok hq hnx hl hn hr hb hok hr2 hr3 hb2 hnm
  go_enter Try.func4, Try.ntmps4
  go_wp2_with fail
  · skip
    ((with_reducible refine (HC.out _ (Nums.below HN.out (Gr.below (by repeat (first | assumption | exact Gr.refl _ | apply Gr.drewN | apply Gr.drew | apply Gr.gw | apply Gr.alloc))))).mono ?_); rintro e' w1 ⟨rfl, g1⟩)
    have A1 := rowsKeep1 (W' := w1) (g1 := w.heap.size) (c1 := #[.int .u64 c, .int .u64 t, .int .u64 a, .int .u64 p, .int .u64 e, .int .u64 k, .int .u64 f, .int .u64 E, .int .u64 C]) (t1 := 31) (by refine RowIs.mk ?_; repeat (first | (with_reducible exact RowIs.un r0) | (with_reducible exact RowIs.un r1) | (with_reducible exact RowIs.un r2) | (with_reducible exact RowIs.un r3) | (with_reducible exact RowIs.un r4) | (with_reducible refine heap_newS _ _ _ ?_; (first | (simp; done) | (simp; omega))) | with_reducible apply heap_gwS | with_reducible apply heap_drewNS | with_reducible apply heap_drewS | with_reducible apply heap_allocS)) g1
    have G1 := Gr.trans (show Gr w _ from by repeat (first | assumption | exact Gr.refl _ | apply Gr.drewN | apply Gr.drew | apply Gr.gw | apply Gr.alloc)) g1
    clear  g1
    have r0 := A1
    clear A1
    go_wp2_with (first | (refine wpList_load_all (by rfl) 24 _ rfl _ rfl _ _ _ _ (by repeat (first | (with_reducible exact RowIs.un r0) | (with_reducible exact RowIs.un r1) | (with_reducible exact RowIs.un r2) | (with_reducible exact RowIs.un r3) | (with_reducible exact RowIs.un r4) | (with_reducible refine heap_newS _ _ _ ?_; (first | (simp; done) | (simp; omega))) | with_reducible apply heap_gwS | with_reducible apply heap_drewNS | with_reducible apply heap_drewS | with_reducible apply heap_allocS)) Try.underlying24 rfl (by kernel_rfl) ?_) | (refine wpList_load_all (by rfl) 31 _ rfl _ rfl _ _ _ _ (by repeat (first | (with_reducible exact RowIs.un r0) | (with_reducible exact RowIs.un r1) | (with_reducible exact RowIs.un r2) | (with_reducible exact RowIs.un r3) | (with_reducible exact RowIs.un r4) | (with_reducible refine heap_newS _ _ _ ?_; (first | (simp; done) | (simp; omega))) | with_reducible apply heap_gwS | with_reducible apply heap_drewNS | with_reducible apply heap_drewS | with_reducible apply heap_allocS)) Try.underlying31 rfl (by kernel_rfl) ?_) | (refine wpList_store_newD rfl 24 _ _ rfl _ _ rfl rfl _ _ _ _ (by with_reducible rfl) (by first | (simp; done) | (simp; omega)) (by kernel_rfl) rfl (by first | kernel_rfl | simp [Value.oneCell'] | rfl) ?_) | (refine wpList_store_new rfl 24 _ _ rfl _ _ rfl rfl _ _ _ (by with_reducible rfl) (by first | (simp; done) | (simp; omega)) (by kernel_rfl) rfl (by first | kernel_rfl | simp [Value.oneCell'] | rfl) ?_) | (refine wpList_store_newD rfl 31 _ _ rfl _ _ rfl rfl _ _ _ _ (by with_reducible rfl) (by first | (simp; done) | (simp; omega)) (by kernel_rfl) rfl (by first | kernel_rfl | simp [Value.oneCell'] | rfl) ?_) | (refine wpList_store_new rfl 31 _ _ rfl _ _ rfl rfl _ _ _ (by with_reducible rfl) (by first | (simp; done) | (simp; omega)) (by kernel_rfl) rfl (by first | kernel_rfl | simp [Value.oneCell'] | rfl) ?_))
    ((with_reducible refine (aliveCtrl _).mono ?_); rintro e' w2 ⟨rfl, g2⟩)
    have A2 := rowsKeep2 (W' := w2) (g1 := w.heap.size) (c1 := #[.int .u64 c, .int .u64 t, .int .u64 a, .int .u64 p, .int .u64 e, .int .u64 k, .int .u64 f, .int .u64 E, .int .u64 C]) (t1 := 31) (g2 := w1.heap.size) (c2 := #[.int .i64 y0, .int .u64 y1, .int .i64 y2, .int .u64 y3, .int .i64 y4, .int .u64 y5, .int .u64 y6, .int .u64 y7, .int .u64 y8, .int .i64 y9, .int .u64 y10, .int .u64 y11, .int .u64 y12, .int .u64 y13, .int .u64 y14, .int .i64 y15, .int .u64 y16]) (t2 := 24) ⟨(by refine RowIs.mk ?_; repeat (first | (with_reducible exact RowIs.un r0) | (with_reducible exact RowIs.un r1) | (with_reducible exact RowIs.un r2) | (with_reducible exact RowIs.un r3) | (with_reducible exact RowIs.un r4) | (with_reducible refine heap_newS _ _ _ ?_; (first | (simp; done) | (simp; omega))) | with_reducible apply heap_gwS | with_reducible apply heap_drewNS | with_reducible apply heap_drewS | with_reducible apply heap_allocS)), (by refine RowIs.mk ?_; repeat (first | (with_reducible exact RowIs.un r0) | (with_reducible exact RowIs.un r1) | (with_reducible exact RowIs.un r2) | (with_reducible exact RowIs.un r3) | (with_reducible exact RowIs.un r4) | (with_reducible refine heap_newS _ _ _ ?_; (first | (simp; done) | (simp; omega))) | with_reducible apply heap_gwS | with_reducible apply heap_drewNS | with_reducible apply heap_drewS | with_reducible apply heap_allocS))⟩ g2
    have G2 := Gr.trans (show Gr w _ from by repeat (first | assumption | exact Gr.refl _ | apply Gr.drewN | apply Gr.drew | apply Gr.gw | apply Gr.alloc)) g2
    clear r0 G1 g2
    obtain ⟨r0, r1⟩ := A2
    go_wp2_with (first | (refine wpList_load_all (by rfl) 24 _ rfl _ rfl _ _ _ _ (by repeat (first | (with_reducible exact RowIs.un r0) | (with_reducible exact RowIs.un r1) | (with_reducible exact RowIs.un r2) | (with_reducible exact RowIs.un r3) | (with_reducible exact RowIs.un r4) | (with_reducible refine heap_newS _ _ _ ?_; (first | (simp; done) | (simp; omega))) | with_reducible apply heap_gwS | with_reducible apply heap_drewNS | with_reducible apply heap_drewS | with_reducible apply heap_allocS)) Try.underlying24 rfl (by kernel_rfl) ?_) | (refine wpList_load_all (by rfl) 31 _ rfl _ rfl _ _ _ _ (by repeat (first | (with_reducible exact RowIs.un r0) | (with_reducible exact RowIs.un r1) | (with_reducible exact RowIs.un r2) | (with_reducible exact RowIs.un r3) | (with_reducible exact RowIs.un r4) | (with_reducible refine heap_newS _ _ _ ?_; (first | (simp; done) | (simp; omega))) | with_reducible apply heap_gwS | with_reducible apply heap_drewNS | with_reducible apply heap_drewS | with_reducible apply heap_allocS)) Try.underlying31 rfl (by kernel_rfl) ?_) | (refine wpList_store_newD rfl 24 _ _ rfl _ _ rfl rfl _ _ _ _ (by with_reducible rfl) (by first | (simp; done) | (simp; omega)) (by kernel_rfl) rfl (by first | kernel_rfl | simp [Value.oneCell'] | rfl) ?_) | (refine wpList_store_new rfl 24 _ _ rfl _ _ rfl rfl _ _ _ (by with_reducible rfl) (by first | (simp; done) | (simp; omega)) (by kernel_rfl) rfl (by first | kernel_rfl | simp [Value.oneCell'] | rfl) ?_) | (refine wpList_store_newD rfl 31 _ _ rfl _ _ rfl rfl _ _ _ _ (by with_reducible rfl) (by first | (simp; done) | (simp; omega)) (by kernel_rfl) rfl (by first | kernel_rfl | simp [Value.oneCell'] | rfl) ?_) | (refine wpList_store_new rfl 31 _ _ rfl _ _ rfl rfl _ _ _ (by with_reducible rfl) (by first | (simp; done) | (simp; omega)) (by kernel_rfl) rfl (by first | kernel_rfl | simp [Value.oneCell'] | rfl) ?_))
    ((with_reducible refine (nLoss y0 y1 y2 y3 y4 y5 y6 y7 y8 y9 y10 y11 y12 y13 y14 y15 y16 c t a p e k f E C q nx R1 true true HMY.out HR.out HB.out OK.out.c OK.out.C HQ.out _).mono ?_); rintro e' w3 ⟨rfl, g3⟩)
    have A3 := rowsKeep2 (W' := w3) (g1 := w.heap.size) (c1 := #[.int .u64 c, .int .u64 t, .int .u64 a, .int .u64 p, .int .u64 e, .int .u64 k, .int .u64 f, .int .u64 E, .int .u64 C]) (t1 := 31) (g2 := w1.heap.size) (c2 := #[.int .i64 y0, .int .u64 y1, .int .i64 y2, .int .u64 y3, .int .i64 y4, .int .u64 y5, .int .u64 y6, .int .u64 y7, .int .u64 y8, .int .i64 y9, .int .u64 y10, .int .u64 y11, .int .u64 y12, .int .u64 y13, .int .u64 y14, .int .i64 y15, .int .u64 y16]) (t2 := 24) ⟨(by refine RowIs.mk ?_; repeat (first | (with_reducible exact RowIs.un r0) | (with_reducible exact RowIs.un r1) | (with_reducible exact RowIs.un r2) | (with_reducible exact RowIs.un r3) | (with_reducible exact RowIs.un r4) | (with_reducible refine heap_newS _ _ _ ?_; (first | (simp; done) | (simp; omega))) | with_reducible apply heap_gwS | with_reducible apply heap_drewNS | with_reducible apply heap_drewS | with_reducible apply heap_allocS)), (by refine RowIs.mk ?_; repeat (first | (with_reducible exact RowIs.un r0) | (with_reducible exact RowIs.un r1) | (with_reducible exact RowIs.un r2) | (with_reducible exact RowIs.un r3) | (with_reducible exact RowIs.un r4) | (with_reducible refine heap_newS _ _ _ ?_; (first | (simp; done) | (simp; omega))) | with_reducible apply heap_gwS | with_reducible apply heap_drewNS | with_reducible apply heap_drewS | with_reducible apply heap_allocS))⟩ g3
    have G3 := Gr.trans (show Gr w _ from by repeat (first | assumption | exact Gr.refl _ | apply Gr.drewN | apply Gr.drew | apply Gr.gw | apply Gr.alloc)) g3
    clear r0 r1 G2 g3
    obtain ⟨r0, r1⟩ := A3
    go_wp2_with (first | (refine wpList_load_all (by rfl) 24 _ rfl _ rfl _ _ _ _ (by repeat (first | (with_reducible exact RowIs.un r0) | (with_reducible exact RowIs.un r1) | (with_reducible exact RowIs.un r2) | (with_reducible exact RowIs.un r3) | (with_reducible exact RowIs.un r4) | (with_reducible refine heap_newS _ _ _ ?_; (first | (simp; done) | (simp; omega))) | with_reducible apply heap_gwS | with_reducible apply heap_drewNS | with_reducible apply heap_drewS | with_reducible apply heap_allocS)) Try.underlying24 rfl (by kernel_rfl) ?_) | (refine wpList_load_all (by rfl) 31 _ rfl _ rfl _ _ _ _ (by repeat (first | (with_reducible exact RowIs.un r0) | (with_reducible exact RowIs.un r1) | (with_reducible exact RowIs.un r2) | (with_reducible exact RowIs.un r3) | (with_reducible exact RowIs.un r4) | (with_reducible refine heap_newS _ _ _ ?_; (first | (simp; done) | (simp; omega))) | with_reducible apply heap_gwS | with_reducible apply heap_drewNS | with_reducible apply heap_drewS | with_reducible apply heap_allocS)) Try.underlying31 rfl (by kernel_rfl) ?_) | (refine wpList_store_newD rfl 24 _ _ rfl _ _ rfl rfl _ _ _ _ (by with_reducible rfl) (by first | (simp; done) | (simp; omega)) (by kernel_rfl) rfl (by first | kernel_rfl | simp [Value.oneCell'] | rfl) ?_) | (refine wpList_store_new rfl 24 _ _ rfl _ _ rfl rfl _ _ _ (by with_reducible rfl) (by first | (simp; done) | (simp; omega)) (by kernel_rfl) rfl (by first | kernel_rfl | simp [Value.oneCell'] | rfl) ?_) | (refine wpList_store_newD rfl 31 _ _ rfl _ _ rfl rfl _ _ _ _ (by with_reducible rfl) (by first | (simp; done) | (simp; omega)) (by kernel_rfl) rfl (by first | kernel_rfl | simp [Value.oneCell'] | rfl) ?_) | (refine wpList_store_new rfl 31 _ _ rfl _ _ rfl rfl _ _ _ (by with_reducible rfl) (by first | (simp; done) | (simp; omega)) (by kernel_rfl) rfl (by first | kernel_rfl | simp [Value.oneCell'] | rfl) ?_))
    ((with_reducible refine (nLoss y0 y1 y2 y3 y4 y5 y6 y7 y8 y9 y10 y11 y12 y13 y14 y15 y16 R1.c R1.t R1.a R1.p R1.e R1.k R1.f R1.E R1.C (less % nx) _ R1 false true HMY.out (HR2.out _) HB2.out HOK.out.c HOK.out.C HNM.out _).mono ?_); rintro e' w4 ⟨rfl, g4⟩)
    have A4 := rowsKeep3 (W' := w4) (g1 := w.heap.size) (c1 := #[.int .u64 c, .int .u64 t, .int .u64 a, .int .u64 p, .int .u64 e, .int .u64 k, .int .u64 f, .int .u64 E, .int .u64 C]) (t1 := 31) (g2 := w1.heap.size) (c2 := #[.int .i64 y0, .int .u64 y1, .int .i64 y2, .int .u64 y3, .int .i64 y4, .int .u64 y5, .int .u64 y6, .int .u64 y7, .int .u64 y8, .int .i64 y9, .int .u64 y10, .int .u64 y11, .int .u64 y12, .int .u64 y13, .int .u64 y14, .int .i64 y15, .int .u64 y16]) (t2 := 24) (g3 := w3.heap.size) (c3 := #[.int .u64 R1.c, .int .u64 R1.t, .int .u64 R1.a, .int .u64 R1.p, .int .u64 R1.e, .int .u64 R1.k, .int .u64 R1.f, .int .u64 R1.E, .int .u64 R1.C]) (t3 := 31) ⟨(by refine RowIs.mk ?_; repeat (first | (with_reducible exact RowIs.un r0) | (with_reducible exact RowIs.un r1) | (with_reducible exact RowIs.un r2) | (with_reducible exact RowIs.un r3) | (with_reducible exact RowIs.un r4) | (with_reducible refine heap_newS _ _ _ ?_; (first | (simp; done) | (simp; omega))) | with_reducible apply heap_gwS | with_reducible apply heap_drewNS | with_reducible apply heap_drewS | with_reducible apply heap_allocS)), (by refine RowIs.mk ?_; repeat (first | (with_reducible exact RowIs.un r0) | (with_reducible exact RowIs.un r1) | (with_reducible exact RowIs.un r2) | (with_reducible exact RowIs.un r3) | (with_reducible exact RowIs.un r4) | (with_reducible refine heap_newS _ _ _ ?_; (first | (simp; done) | (simp; omega))) | with_reducible apply heap_gwS | with_reducible apply heap_drewNS | with_reducible apply heap_drewS | with_reducible apply heap_allocS)), (by refine RowIs.mk ?_; repeat (first | (with_reducible exact RowIs.un r0) | (with_reducible exact RowIs.un r1) | (with_reducible exact RowIs.un r2) | (with_reducible exact RowIs.un r3) | (with_reducible exact RowIs.un r4) | (with_reducible refine heap_newS _ _ _ ?_; (first | (simp; done) | (simp; omega))) | with_reducible apply heap_gwS | with_reducible apply heap_drewNS | with_reducible apply heap_drewS | with_reducible apply heap_allocS))⟩ g4
    have G4 := Gr.trans (show Gr w _ from by repeat (first | assumption | exact Gr.refl _ | apply Gr.drewN | apply Gr.drew | apply Gr.gw | apply Gr.alloc)) g4
    clear r0 r1 G3 g4
    obtain ⟨r0, r1, r2⟩ := A4
    go_wp2_with (first | (refine wpList_load_all (by rfl) 24 _ rfl _ rfl _ _ _ _ (by repeat (first | (with_reducible exact RowIs.un r0) | (with_reducible exact RowIs.un r1) | (with_reducible exact RowIs.un r2) | (with_reducible exact RowIs.un r3) | (with_reducible exact RowIs.un r4) | (with_reducible refine heap_newS _ _ _ ?_; (first | (simp; done) | (simp; omega))) | with_reducible apply heap_gwS | with_reducible apply heap_drewNS | with_reducible apply heap_drewS | with_reducible apply heap_allocS)) Try.underlying24 rfl (by kernel_rfl) ?_) | (refine wpList_load_all (by rfl) 31 _ rfl _ rfl _ _ _ _ (by repeat (first | (with_reducible exact RowIs.un r0) | (with_reducible exact RowIs.un r1) | (with_reducible exact RowIs.un r2) | (with_reducible exact RowIs.un r3) | (with_reducible exact RowIs.un r4) | (with_reducible refine heap_newS _ _ _ ?_; (first | (simp; done) | (simp; omega))) | with_reducible apply heap_gwS | with_reducible apply heap_drewNS | with_reducible apply heap_drewS | with_reducible apply heap_allocS)) Try.underlying31 rfl (by kernel_rfl) ?_) | (refine wpList_store_newD rfl 24 _ _ rfl _ _ rfl rfl _ _ _ _ (by with_reducible rfl) (by first | (simp; done) | (simp; omega)) (by kernel_rfl) rfl (by first | kernel_rfl | simp [Value.oneCell'] | rfl) ?_) | (refine wpList_store_new rfl 24 _ _ rfl _ _ rfl rfl _ _ _ (by with_reducible rfl) (by first | (simp; done) | (simp; omega)) (by kernel_rfl) rfl (by first | kernel_rfl | simp [Value.oneCell'] | rfl) ?_) | (refine wpList_store_newD rfl 31 _ _ rfl _ _ rfl rfl _ _ _ _ (by with_reducible rfl) (by first | (simp; done) | (simp; omega)) (by kernel_rfl) rfl (by first | kernel_rfl | simp [Value.oneCell'] | rfl) ?_) | (refine wpList_store_new rfl 31 _ _ rfl _ _ rfl rfl _ _ _ (by with_reducible rfl) (by first | (simp; done) | (simp; omega)) (by kernel_rfl) rfl (by first | kernel_rfl | simp [Value.oneCell'] | rfl) ?_))
    ((with_reducible refine (nMark y0 y1 y2 y3 y4 y5 y6 y7 y8 y9 y10 y11 y12 y13 y14 y15 y16 R1.c R1.t R1.a R1.p R1.e R1.k R1.f R1.E R1.C (less % nx) _ R1 false true HMY.out (HR3.out _) HB2.out HOK.out.c HOK.out.C HNM.out _).mono ?_); rintro e' w5 ⟨rfl, g5⟩)
    have A5 := rowsKeep4 (W' := w5) (g1 := w.heap.size) (c1 := #[.int .u64 c, .int .u64 t, .int .u64 a, .int .u64 p, .int .u64 e, .int .u64 k, .int .u64 f, .int .u64 E, .int .u64 C]) (t1 := 31) (g2 := w1.heap.size) (c2 := #[.int .i64 y0, .int .u64 y1, .int .i64 y2, .int .u64 y3, .int .i64 y4, .int .u64 y5, .int .u64 y6, .int .u64 y7, .int .u64 y8, .int .i64 y9, .int .u64 y10, .int .u64 y11, .int .u64 y12, .int .u64 y13, .int .u64 y14, .int .i64 y15, .int .u64 y16]) (t2 := 24) (g3 := w3.heap.size) (c3 := #[.int .u64 R1.c, .int .u64 R1.t, .int .u64 R1.a, .int .u64 R1.p, .int .u64 R1.e, .int .u64 R1.k, .int .u64 R1.f, .int .u64 R1.E, .int .u64 R1.C]) (t3 := 31) (g4 := w4.heap.size) (c4 := #[.int .u64 R1.c, .int .u64 R1.t, .int .u64 R1.a, .int .u64 R1.p, .int .u64 R1.e, .int .u64 R1.k, .int .u64 R1.f, .int .u64 R1.E, .int .u64 R1.C]) (t4 := 31) ⟨(by refine RowIs.mk ?_; repeat (first | (with_reducible exact RowIs.un r0) | (with_reducible exact RowIs.un r1) | (with_reducible exact RowIs.un r2) | (with_reducible exact RowIs.un r3) | (with_reducible exact RowIs.un r4) | (with_reducible refine heap_newS _ _ _ ?_; (first | (simp; done) | (simp; omega))) | with_reducible apply heap_gwS | with_reducible apply heap_drewNS | with_reducible apply heap_drewS | with_reducible apply heap_allocS)), (by refine RowIs.mk ?_; repeat (first | (with_reducible exact RowIs.un r0) | (with_reducible exact RowIs.un r1) | (with_reducible exact RowIs.un r2) | (with_reducible exact RowIs.un r3) | (with_reducible exact RowIs.un r4) | (with_reducible refine heap_newS _ _ _ ?_; (first | (simp; done) | (simp; omega))) | with_reducible apply heap_gwS | with_reducible apply heap_drewNS | with_reducible apply heap_drewS | with_reducible apply heap_allocS)), (by refine RowIs.mk ?_; repeat (first | (with_reducible exact RowIs.un r0) | (with_reducible exact RowIs.un r1) | (with_reducible exact RowIs.un r2) | (with_reducible exact RowIs.un r3) | (with_reducible exact RowIs.un r4) | (with_reducible refine heap_newS _ _ _ ?_; (first | (simp; done) | (simp; omega))) | with_reducible apply heap_gwS | with_reducible apply heap_drewNS | with_reducible apply heap_drewS | with_reducible apply heap_allocS)), (by refine RowIs.mk ?_; repeat (first | (with_reducible exact RowIs.un r0) | (with_reducible exact RowIs.un r1) | (with_reducible exact RowIs.un r2) | (with_reducible exact RowIs.un r3) | (with_reducible exact RowIs.un r4) | (with_reducible refine heap_newS _ _ _ ?_; (first | (simp; done) | (simp; omega))) | with_reducible apply heap_gwS | with_reducible apply heap_drewNS | with_reducible apply heap_drewS | with_reducible apply heap_allocS))⟩ g5
    have G5 := Gr.trans (show Gr w _ from by repeat (first | assumption | exact Gr.refl _ | apply Gr.drewN | apply Gr.drew | apply Gr.gw | apply Gr.alloc)) g5
    clear r0 r1 r2 G4 g5
    obtain ⟨r0, r1, r2, r3⟩ := A5
    have d0 := r0.cell 0
    have d1 := r0.cell 1
    have d2 := r0.cell 2
    have d3 := r0.cell 3
    have d4 := r0.cell 4
    have d5 := r0.cell 5
    have d6 := r0.cell 6
    have d7 := r0.cell 7
    have d8 := r0.cell 8
    simp at d0 d1 d2 d3 d4 d5 d6 d7 d8
    have ld := r0.lt
    have b7 := r1.cell 7
    have t0 := r2.cell 0
    simp at b7 t0
    have l1 := r1.lt
    have l2 := r2.lt
    go_wp2_with (first | (refine wpList_load_all (by rfl) 24 _ rfl _ rfl _ _ _ _ (by repeat (first | (with_reducible exact RowIs.un r0) | (with_reducible exact RowIs.un r1) | (with_reducible exact RowIs.un r2) | (with_reducible exact RowIs.un r3) | (with_reducible exact RowIs.un r4) | (with_reducible refine heap_newS _ _ _ ?_; (first | (simp; done) | (simp; omega))) | with_reducible apply heap_gwS | with_reducible apply heap_drewNS | with_reducible apply heap_drewS | with_reducible apply heap_allocS)) Try.underlying24 rfl (by kernel_rfl) ?_) | (refine wpList_load_all (by rfl) 31 _ rfl _ rfl _ _ _ _ (by repeat (first | (with_reducible exact RowIs.un r0) | (with_reducible exact RowIs.un r1) | (with_reducible exact RowIs.un r2) | (with_reducible exact RowIs.un r3) | (with_reducible exact RowIs.un r4) | (with_reducible refine heap_newS _ _ _ ?_; (first | (simp; done) | (simp; omega))) | with_reducible apply heap_gwS | with_reducible apply heap_drewNS | with_reducible apply heap_drewS | with_reducible apply heap_allocS)) Try.underlying31 rfl (by kernel_rfl) ?_) | (refine wpList_store_newD rfl 24 _ _ rfl _ _ rfl rfl _ _ _ _ (by with_reducible rfl) (by first | (simp; done) | (simp; omega)) (by kernel_rfl) rfl (by first | kernel_rfl | simp [Value.oneCell'] | rfl) ?_) | (refine wpList_store_new rfl 24 _ _ rfl _ _ rfl rfl _ _ _ (by with_reducible rfl) (by first | (simp; done) | (simp; omega)) (by kernel_rfl) rfl (by first | kernel_rfl | simp [Value.oneCell'] | rfl) ?_) | (refine wpList_store_newD rfl 31 _ _ rfl _ _ rfl rfl _ _ _ _ (by with_reducible rfl) (by first | (simp; done) | (simp; omega)) (by kernel_rfl) rfl (by first | kernel_rfl | simp [Value.oneCell'] | rfl) ?_) | (refine wpList_store_new rfl 31 _ _ rfl _ _ rfl rfl _ _ _ (by with_reducible rfl) (by first | (simp; done) | (simp; omega)) (by kernel_rfl) rfl (by first | kernel_rfl | simp [Value.oneCell'] | rfl) ?_))
    go_ret
    exact ⟨rfl, by repeat (first | assumption | exact Gr.refl _ | apply Gr.drewN | apply Gr.drew | apply Gr.gw | apply Gr.alloc)⟩

theorem walk (a0 : Option Addr) (len0 cap0 : Nat) (z0 : List Int) (cs1 : Array Value) (q nx less : Int) (w : World) (w0 : IsRow .u32 w a0 len0 cap0 z0) (w1 : Fits [some .u64, some .u64, some .u64, some .u64, some .u64, some .u64, some .u64, some .u64, some .u64] cs1.toList) (w2 : W64 q) (w3 : W64 nx) (w4 : W64 less) :
    Calls Try.prog 4 #[.slice a0 len0 cap0, .agg cs1, .int .u64 q, .int .u64 nx, .int .u64 less] w fun e w' => e = .returned (.bool true) ∧ Below w.heap.size w w' := by
  obtain ⟨S, rfl, ok⟩ := openCc w1
  have hnm := nums_of_row w0
  have hma := confI_made (atF len0 (fun i => z0.getD i 0)) (fun i => hnm.atF i)
  have hzc : ∀ w, Nums w a0 len0 (fun i => z0.getD i 0) → _ := fun w h => zConf a0 len0 cap0 (fun i => z0.getD i 0) w h
  have key : ∀ P : World → World → Prop, True := fun _ => trivial
  obtain ⟨y7, hy7⟩ : ∃ y, cf7 (atF len0 (fun i => z0.getD i 0)) = y := ⟨_, rfl⟩
  obtain ⟨y8, hy8⟩ : ∃ y, cf8 (atF len0 (fun i => z0.getD i 0)) = y := ⟨_, rfl⟩
  obtain ⟨y9, hy9⟩ : ∃ y, cf9 (atF len0 (fun i => z0.getD i 0)) = y := ⟨_, rfl⟩
  have w7 : W64 y7 := by
    have h0 := hnm.atF 0; have h1 := hnm.atF 1
    rw [← hy7]; unfold cf7 W64; omega
  have w8 : W64 y8 := by
    have h0 := hnm.atF 0; have h1 := hnm.atF 1; have h2 := hnm.atF 2; have h3 := hnm.atF 3
    rw [← hy8]; unfold cf8 W64; omega
  rw [hy7, hy8, hy9] at hma
  have hzc' : ∀ w, Nums w a0 len0 (fun i => z0.getD i 0) → _ := fun w h => zConf a0 len0 cap0 (fun i => z0.getD i 0) w h
  rw [hy7, hy8, hy9] at hzc'
  have Y : ∀ R, _ := fun R => walkOver (cf0 (atF len0 (fun i => z0.getD i 0))) (cf1 (atF len0 (fun i => z0.getD i 0))) (cf2 (atF len0 (fun i => z0.getD i 0))) (cf3 (atF len0 (fun i => z0.getD i 0))) (cf4 (atF len0 (fun i => z0.getD i 0))) (cf5 (atF len0 (fun i => z0.getD i 0))) (cf6 (atF len0 (fun i => z0.getD i 0))) y7 y8 y9 (cf10 (atF len0 (fun i => z0.getD i 0))) (cf11 (atF len0 (fun i => z0.getD i 0))) (cf12 (atF len0 (fun i => z0.getD i 0))) (cf13 (atF len0 (fun i => z0.getD i 0))) (cf14 (atF len0 (fun i => z0.getD i 0))) (cf15 (atF len0 (fun i => z0.getD i 0))) (cf16 (atF len0 (fun i => z0.getD i 0))) S.c S.t S.a S.p S.e S.k S.f S.E S.C q nx less a0 len0 cap0 (fun i => z0.getD i 0) R w (by rw [hma]; rfl) (cf5_W hnm) ok w2 w3 w4 hnm (Lib.hid hzc')
  by_cases hov : nx ≤ q
  · exact (Y S hov).mono fun _ _ h => ⟨h.1, h.2.below⟩
  · have hov' : q < nx := by omega
    clear Y
    obtain ⟨R1, hR⟩ : ∃ R, begW true y9 y7 y8 1 2 7 10 q nx S = R := ⟨_, rfl⟩
    by_cases hE : S.E ≤ q
    · have hok := beg_Ok true y9 y7 y8 1 2 7 10 q nx S ok w7 w8 w2 w3
      rw [hR] at hok
      have hcut := cut_less y9 y7 y8 1 2 7 10 S ok.c.1 (by omega) (by omega) (by omega) (by omega) (by omega) (by omega)
      have e1 : R1 = rndW q nx S (cutW y9 y7 y8 1 2 7 10 S) := by
        rw [← hR]; unfold begW; rw [if_pos rfl, if_pos hE]
      have eE : R1.E = nx := by rw [e1]; exact rnd_next hE hov'
      have hc : R1.c ≤ max S.c y7 := by rw [e1]; exact hcut.1
      have hmod : 0 ≤ less % nx ∧ less % nx < nx := ⟨Int.emod_nonneg _ (by have := w2.1; omega), Int.emod_lt_of_pos _ (by have := w2.1; omega)⟩
      have hno : ¬ R1.E ≤ less % nx := by omega
      exact (walkYes (cf0 (atF len0 (fun i => z0.getD i 0))) (cf1 (atF len0 (fun i => z0.getD i 0))) (cf2 (atF len0 (fun i => z0.getD i 0))) (cf3 (atF len0 (fun i => z0.getD i 0))) (cf4 (atF len0 (fun i => z0.getD i 0))) (cf5 (atF len0 (fun i => z0.getD i 0))) (cf6 (atF len0 (fun i => z0.getD i 0))) y7 y8 y9 (cf10 (atF len0 (fun i => z0.getD i 0))) (cf11 (atF len0 (fun i => z0.getD i 0))) (cf12 (atF len0 (fun i => z0.getD i 0))) (cf13 (atF len0 (fun i => z0.getD i 0))) (cf14 (atF len0 (fun i => z0.getD i 0))) (cf15 (atF len0 (fun i => z0.getD i 0))) (cf16 (atF len0 (fun i => z0.getD i 0))) S.c S.t S.a S.p S.e S.k S.f S.E S.C q nx less a0 len0 cap0 (fun i => z0.getD i 0) R1 w (by rw [hma]; rfl) (cf5_W hnm) ok w2 w3 w4 hnm (Lib.hid hzc') hov' hR
        (by unfold begO; simp; exact hE) hok hc (fun M => by unfold begW; rw [if_pos rfl, if_neg hno]) (fun M => by unfold begW; rw [if_pos rfl, if_neg hno]) (by unfold begO; simp; omega) ⟨hmod.1, by have := w3.2; omega⟩).mono fun _ _ h => ⟨h.1, h.2.below⟩
    · have e1 : R1 = S := by rw [← hR]; unfold begW; rw [if_pos rfl, if_neg hE]
      exact (walkStale (cf0 (atF len0 (fun i => z0.getD i 0))) (cf1 (atF len0 (fun i => z0.getD i 0))) (cf2 (atF len0 (fun i => z0.getD i 0))) (cf3 (atF len0 (fun i => z0.getD i 0))) (cf4 (atF len0 (fun i => z0.getD i 0))) (cf5 (atF len0 (fun i => z0.getD i 0))) (cf6 (atF len0 (fun i => z0.getD i 0))) y7 y8 y9 (cf10 (atF len0 (fun i => z0.getD i 0))) (cf11 (atF len0 (fun i => z0.getD i 0))) (cf12 (atF len0 (fun i => z0.getD i 0))) (cf13 (atF len0 (fun i => z0.getD i 0))) (cf14 (atF len0 (fun i => z0.getD i 0))) (cf15 (atF len0 (fun i => z0.getD i 0))) (cf16 (atF len0 (fun i => z0.getD i 0))) S.c S.t S.a S.p S.e S.k S.f S.E S.C q nx less a0 len0 cap0 (fun i => z0.getD i 0) R1 w (by rw [hma]; rfl) (cf5_W hnm) ok w2 w3 w4 hnm (Lib.hid hzc') hov' (by omega) hR
        (by unfold begO; simp; omega) e1).mono fun _ _ h => ⟨h.1, h.2.below⟩

/-! ### the row's step -/
set_option maxRecDepth 100000 in
theorem lifted (os : Os) (started : os.Started) (H : Type) (enc : TypeId × Value → H) :
    ReturnsInHanded {} Try.checked os 4 .any (Rows.controlOnceSpec.pre6 enc Try.prog Try.f4 Rows.controlOnceRow.domain false) (Rows.controlOnceSpec.post enc Try.prog Try.f4 false true false false) := by
  refine returnsInHanded_of_change (C := Try.checked) own started (by kernel_rfl) Try.func4
    (ChangeSpec.witness6 (enc := enc) (C := Try.checked) false ⟨#[], #[.slice none 0 0, .agg #[.int .u64 0, .int .u64 0, .int .u64 0, .int .u64 0, .int .u64 0, .int .u64 0, .int .u64 0, .int .u64 0, .int .u64 0], .int .u64 0, .int .u64 0, .int .u64 0], []⟩ 8 (by kernel_rfl) (by kernel_rfl) (by kernel_rfl) (by kernel_rfl)) ?_
  intro W base args ds gs before hval0 hW hcnd _
  have hval : ∀ (j : Nat) t v, Try.f4.params[j]? = some t → args[j]? = some v → Value.okWide Try.prog W .any base t v := hval0
  have hW' := hW
  obtain ⟨p, q, hA0, hV, rfl, hfz, hnd⟩ := hW
  have hA : DataW.TrodAll enc Try.prog W 0 (fun _ => true) true Try.f4.params.toList args.toList ds p := hA0
  rw [Try.params4] at hA hval
  obtain ⟨v0, vs0, d0, ds0, p0, q0, hargs, rfl, rfl, h0, r0⟩ := trodAll_cons hA
  obtain ⟨v1, vs1, d1, ds1, p1, q1, rfl, rfl, rfl, h1, r1⟩ := trodAll_cons r0
  obtain ⟨v2, vs2, d2, ds2, p2, q2, rfl, rfl, rfl, h2, r2⟩ := trodAll_cons r1
  obtain ⟨v3, vs3, d3, ds3, p3, q3, rfl, rfl, rfl, h3, r3⟩ := trodAll_cons r2
  obtain ⟨v4, vs4, d4, ds4, p4, q4, rfl, rfl, rfl, h4, r4⟩ := trodAll_cons r3
  obtain ⟨rfl, rfl, rfl⟩ := trodAll_nil r4
  obtain rfl : args = #[v0, v1, v2, v3, v4] := by cases args; simp_all
  obtain ⟨rfl, rfl⟩ := trodVars_none hV
  obtain ⟨a0, len0, cap0, rfl⟩ := okWide_slice Try.underlying25 (hval 0 25 v0 rfl rfl)
  have k0 := h0
  have lt0 : ∀ x ∈ p0, x.block < W.heap.size := by obtain ⟨m, hm⟩ := k0; exact DataW.trod_lt m _ _ _ hm
  obtain ⟨z0, w0⟩ : ∃ zs, IsRow .u32 W a0 len0 cap0 zs := by
    obtain ⟨fuel, hf⟩ := h0
    rcases open_ints Try.underlying25 Try.underlying45 (by kernel_rfl) hf with ⟨hcs, _⟩ | ⟨x, l, c, zs, hcs, _, hl, hm, hz, _, hcell, hwz⟩
    · simp [Value.cells] at hcs
      obtain ⟨rfl, rfl, rfl⟩ := hcs
      exact ⟨[], .inl ⟨rfl, rfl, rfl, rfl⟩⟩
    · simp [Value.cells] at hcs
      obtain ⟨rfl, rfl, rfl⟩ := hcs
      exact ⟨zs, .inr ⟨_, rfl, hl, hm, by simpa using hz, hcell, hwz⟩⟩
  obtain ⟨cs1, rfl, hsz1⟩ := okWide_struct Try.underlying31 (hval 1 31 v1 rfl rfl)
  have k1 := h1
  have lt1 : ∀ x ∈ p1, x.block < W.heap.size := by obtain ⟨m, hm⟩ := k1; exact DataW.trod_lt m _ _ _ hm
  have w1 : Fits [some .u64, some .u64, some .u64, some .u64, some .u64, some .u64, some .u64, some .u64, some .u64] cs1.toList := by
    obtain ⟨fuel, hf⟩ := h1
    exact fits_of_trod 8 31 _ fuel _ _ (by kernel_rfl) (by simpa [Value.cells] using hf)
  obtain ⟨a2, rfl, rfl, rfl, w2⟩ := open_int Try.underlying22 (hval 2 22 v2 rfl rfl) h2
  obtain ⟨a3, rfl, rfl, rfl, w3⟩ := open_int Try.underlying22 (hval 3 22 v3 rfl rfl) h3
  obtain ⟨a4, rfl, rfl, rfl, w4⟩ := open_int Try.underlying22 (hval 4 22 v4 rfl rfl) h4
  clear hA0 hval0
  refine (walk a0 len0 cap0 z0 cs1 a2 a3 a4 W w0 w1 (wfU64 w2) (wfU64 w3) (wfU64 w4)).mono fun e W' ⟨he, bel⟩ => ?_
  subst he
  exact ⟨_, rfl, _, _, _, [], _, [], hW', trodAll_mk1 (shut_bool Try.underlying4 _), (trodAll_cons_mk (Below.trod laidOut (by kernel_rfl) (of_decide_eq_true (by kernel_rfl)) k0 bel lt0) (trodAll_cons_mk (Below.trod laidOut (by kernel_rfl) (of_decide_eq_true (by kernel_rfl)) k1 bel lt1) (trodAll_cons_mk (shut_int Try.underlying22 w2) (trodAll_cons_mk (shut_int Try.underlying22 w3) (trodAll_cons_mk (shut_int Try.underlying22 w4) trodAll_mk0))))), rfl, bel.frame _, fun h => by cases h⟩

theorem over : Rows.controlOnceRow.holds Try.pinned (OpenSpec.ofChange Rows.controlOnceSpec) :=
  OpenClaim.holds_of_wide 4 Try.f4 rfl rfl rfl rfl rfl rfl rfl ⟨rfl, rfl, rfl, rfl, rfl⟩ rfl rfl rfl rfl rfl (by kernel_rfl) Try.func4 (by kernel_rfl)
    (of_decide_eq_true (by kernel_rfl)) (by unfold Func.isWrapper; first | (rw [if_pos (by decide +kernel)]; kernel_rfl) | (rw [if_neg (by decide +kernel)]; exact ⟨rfl, rfl⟩))
    (fun os started H enc _ => lifted os started H enc)

/-- THE STATEMENT -/
theorem proved : Rows.ControlOnceSaid := over
end Go.Proofs.Ytikkmdbaekdolaa.controlOnce
