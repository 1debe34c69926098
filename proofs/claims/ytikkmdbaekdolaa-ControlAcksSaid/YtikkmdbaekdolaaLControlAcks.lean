/- For all configurations c, slices k of 32-bit numbers, controls s and words acked, now, smooth, ControlAcks returns true: Start and Ack agree with the definition. No condition. -/
import Derived.Test.YtikkmdbaekdolaaBase
import Derived.Test.YtikkmdbaekdolaaAliveCtrl
import Derived.Test.YtikkmdbaekdolaaCtrl4
import Derived.Test.YtikkmdbaekdolaaCtrl6
import Derived.Test.YtikkmdbaekdolaaHold
import Derived.Test.YtikkmdbaekdolaaConf0
namespace Go.Proofs.Ytikkmdbaekdolaa.controlAcks
open Go.ChangeShapes Go.WideShapes Go.ChangeAt Go.RowKit Go.Lib
set_option linter.unusedVariables false
set_option maxRecDepth 100000

theorem openConf {cs : Array Value} (h : Fits [some .i64, some .u64, some .i64, some .u64, some .i64, some .u64, some .u64, some .u64, some .u64, some .i64, some .u64, some .u64, some .u64, some .u64, some .u64, some .i64, some .u64] cs.toList) :
    ∃ x0 x1 x2 x3 x4 x5 x6 x7 x8 x9 x10 x11 x12 x13 x14 x15 x16 : Int, cs = #[.int .i64 x0, .int .u64 x1, .int .i64 x2, .int .u64 x3, .int .i64 x4, .int .u64 x5, .int .u64 x6, .int .u64 x7, .int .u64 x8, .int .i64 x9, .int .u64 x10, .int .u64 x11, .int .u64 x12, .int .u64 x13, .int .u64 x14, .int .i64 x15, .int .u64 x16] ∧ W64 x5 ∧ W64 x7 ∧ W64 x8 := by
  obtain ⟨l⟩ := cs
  rcases l with _ | ⟨v0, _ | ⟨v1, _ | ⟨v2, _ | ⟨v3, _ | ⟨v4, _ | ⟨v5, _ | ⟨v6, _ | ⟨v7, _ | ⟨v8, _ | ⟨v9, _ | ⟨v10, _ | ⟨v11, _ | ⟨v12, _ | ⟨v13, _ | ⟨v14, _ | ⟨v15, _ | ⟨v16, _ | ⟨v17, l⟩⟩⟩⟩⟩⟩⟩⟩⟩⟩⟩⟩⟩⟩⟩⟩⟩⟩ <;> simp only [Fits, and_false] at h
  obtain ⟨⟨x0, rfl, h0⟩, ⟨x1, rfl, h1⟩, ⟨x2, rfl, h2⟩, ⟨x3, rfl, h3⟩, ⟨x4, rfl, h4⟩, ⟨x5, rfl, h5⟩, ⟨x6, rfl, h6⟩, ⟨x7, rfl, h7⟩, ⟨x8, rfl, h8⟩, ⟨x9, rfl, h9⟩, ⟨x10, rfl, h10⟩, ⟨x11, rfl, h11⟩, ⟨x12, rfl, h12⟩, ⟨x13, rfl, h13⟩, ⟨x14, rfl, h14⟩, ⟨x15, rfl, h15⟩, ⟨x16, rfl, h16⟩, _⟩ := h
  exact ⟨x0, x1, x2, x3, x4, x5, x6, x7, x8, x9, x10, x11, x12, x13, x14, x15, x16, rfl, wfU64 h5, wfU64 h7, wfU64 h8⟩

theorem openCc {cs : Array Value} (h : Fits [some .u64, some .u64, some .u64, some .u64, some .u64, some .u64, some .u64, some .u64, some .u64] cs.toList) :
    ∃ s : W9, cs = #[.int .u64 s.c, .int .u64 s.t, .int .u64 s.a, .int .u64 s.p, .int .u64 s.e, .int .u64 s.k, .int .u64 s.f, .int .u64 s.E, .int .u64 s.C] ∧ s.Ok := by
  obtain ⟨l⟩ := cs
  rcases l with _ | ⟨v0, _ | ⟨v1, _ | ⟨v2, _ | ⟨v3, _ | ⟨v4, _ | ⟨v5, _ | ⟨v6, _ | ⟨v7, _ | ⟨v8, _ | ⟨v9, l⟩⟩⟩⟩⟩⟩⟩⟩⟩⟩ <;> simp only [Fits, and_false] at h
  obtain ⟨⟨y0, rfl, h0⟩, ⟨y1, rfl, h1⟩, ⟨y2, rfl, h2⟩, ⟨y3, rfl, h3⟩, ⟨y4, rfl, h4⟩, ⟨y5, rfl, h5⟩, ⟨y6, rfl, h6⟩, ⟨y7, rfl, h7⟩, ⟨y8, rfl, h8⟩, _⟩ := h
  exact ⟨⟨y0, y1, y2, y3, y4, y5, y6, y7, y8⟩, rfl, ⟨wfU64 h0, wfU64 h1, wfU64 h2, wfU64 h3, wfU64 h4, wfU64 h5, wfU64 h6, wfU64 h7, wfU64 h8⟩⟩

theorem cf5_W {w : World} {a : Option Addr} {len : Nat} {z : Nat → Int} (h : Nums w a len z) : W64 (cf5 (atF len z)) := by
  have := h.atF 0
  unfold cf5 W64
  omega

set_option maxHeartbeats 8000000 in
theorem walkN (x0 x1 x2 x3 x4 x5 x6 x7 x8 x9 x10 x11 x12 x13 x14 x15 x16 y0 y1 y2 y3 y4 y5 y6 y7 y8 y9 y10 y11 y12 y13 y14 y15 y16 c t a p e k f E C ak n s : Int) (ka : Option Addr) (len cap : Nat) (z : Nat → Int) (R1 R2 R3 R4 : W9) (m : Bool) (w : World)
    (hm : (confI x0 x1 x2 x3 x4 x5 x6 x7 x8 x9 x10 x11 x12 x13 x14 x15 x16 == 0) = m) (hmy : (confI y0 y1 y2 y3 y4 y5 y6 y7 y8 y9 y10 y11 y12 y13 y14 y15 y16 == 0) = true) (hr1 : ackW m x9 x5 x7 x8 ak n s ⟨c, t, a, p, e, k, f, E, C⟩ = R1) (hr2 : ackW true y9 y5 y7 y8 ak n s ⟨c, t, a, p, e, k, f, E, C⟩ = R2) (hr3 : staW m x6 = R3) (hr4 : staW true y6 = R4)
    (h5 : W64 x5) (h5y : W64 y5) (ok : W9.Ok ⟨c, t, a, p, e, k, f, E, C⟩) (hak : W64 ak) (hnn : W64 n) (hs : W64 s) (hn : Nums w ka len z)
    (HC : Hid (∀ w, Nums w ka len z → Calls Try.prog 16 #[.slice ka len cap] w fun e w' => e = .returned (.agg #[.int .i64 y0, .int .u64 y1, .int .i64 y2, .int .u64 y3, .int .i64 y4, .int .u64 y5, .int .u64 y6, .int .u64 y7, .int .u64 y8, .int .i64 y9, .int .u64 y10, .int .u64 y11, .int .u64 y12, .int .u64 y13, .int .u64 y14, .int .i64 y15, .int .u64 y16]) ∧ Gr w w')) :
    Calls Try.prog 8 #[.agg #[.int .i64 x0, .int .u64 x1, .int .i64 x2, .int .u64 x3, .int .i64 x4, .int .u64 x5, .int .u64 x6, .int .u64 x7, .int .u64 x8, .int .i64 x9, .int .u64 x10, .int .u64 x11, .int .u64 x12, .int .u64 x13, .int .u64 x14, .int .i64 x15, .int .u64 x16], .slice ka len cap, .agg #[.int .u64 c, .int .u64 t, .int .u64 a, .int .u64 p, .int .u64 e, .int .u64 k, .int .u64 f, .int .u64 E, .int .u64 C], .int .u64 ak, .int .u64 n, .int .u64 s] w fun e w' => e = .returned (.bool true) ∧ Gr w w' := by
  have HM := Lib.hid hm
  have HMY := Lib.hid hmy
  have HR1 := Lib.hid hr1
  have HR2 := Lib.hid hr2
  have HR3 := Lib.hid hr3
  have HR4 := Lib.hid hr4
  have H5 := Lib.hid h5
  have H5Y := Lib.hid h5y
  have OK := Lib.hid ok
  have HAK := Lib.hid hak
  have HNN := Lib.hid hnn
  have HS := Lib.hid hs
  have HN := Lib.hid hn
  clear hm hmy hr1 hr2 hr3 hr4 h5 h5y ok hak hnn hs hn
  go_enter Try.func8, Try.ntmps8
  go_wp2_with fail
  ((with_reducible refine (HC.out _ ?_).mono ?_); (first | exact HN.out | exact Nums.below HN.out (Gr.below (by repeat (first | assumption | exact Gr.refl _ | apply Gr.drewN | apply Gr.drew | apply Gr.gw | apply Gr.alloc)))); rintro e' w' ⟨rfl, n1, os1, rfl⟩)
  go_wp2_with (first | (refine wpList_load_all (by rfl) 24 _ rfl _ rfl _ _ _ _ (by repeat (first | assumption | (with_reducible refine heap_newS _ _ _ ?_; (first | (simp; done) | (simp; omega))) | with_reducible apply heap_gwS | with_reducible apply heap_drewNS | with_reducible apply heap_drewS | with_reducible apply heap_allocS)) Try.underlying24 rfl (by kernel_rfl) ?_) | (refine wpList_load_all (by rfl) 31 _ rfl _ rfl _ _ _ _ (by repeat (first | assumption | (with_reducible refine heap_newS _ _ _ ?_; (first | (simp; done) | (simp; omega))) | with_reducible apply heap_gwS | with_reducible apply heap_drewNS | with_reducible apply heap_drewS | with_reducible apply heap_allocS)) Try.underlying31 rfl (by kernel_rfl) ?_) | (refine wpList_store_newD rfl 24 _ _ rfl _ _ rfl rfl _ _ _ _ (by with_reducible rfl) (by first | (simp; done) | (simp; omega)) (by kernel_rfl) rfl (by first | kernel_rfl | simp [Value.oneCell'] | rfl) ?_) | (refine wpList_store_new rfl 24 _ _ rfl _ _ rfl rfl _ _ _ (by with_reducible rfl) (by first | (simp; done) | (simp; omega)) (by kernel_rfl) rfl (by first | kernel_rfl | simp [Value.oneCell'] | rfl) ?_) | (refine wpList_store_newD rfl 31 _ _ rfl _ _ rfl rfl _ _ _ _ (by with_reducible rfl) (by first | (simp; done) | (simp; omega)) (by kernel_rfl) rfl (by first | kernel_rfl | simp [Value.oneCell'] | rfl) ?_) | (refine wpList_store_new rfl 31 _ _ rfl _ _ rfl rfl _ _ _ (by with_reducible rfl) (by first | (simp; done) | (simp; omega)) (by kernel_rfl) rfl (by first | kernel_rfl | simp [Value.oneCell'] | rfl) ?_))
  ((with_reducible refine (aliveCtrl _).mono ?_); rintro e' w' ⟨rfl, n2, os2, rfl⟩)
  go_wp2_with fail
  refine held_abs (S := fun W => RowIs W (w.heap.size) 24 #[.int .i64 x0, .int .u64 x1, .int .i64 x2, .int .u64 x3, .int .i64 x4, .int .u64 x5, .int .u64 x6, .int .u64 x7, .int .u64 x8, .int .i64 x9, .int .u64 x10, .int .u64 x11, .int .u64 x12, .int .u64 x13, .int .u64 x14, .int .i64 x15, .int .u64 x16] ∧ RowIs W (w.heap.size + 1) 31 #[.int .u64 c, .int .u64 t, .int .u64 a, .int .u64 p, .int .u64 e, .int .u64 k, .int .u64 f, .int .u64 E, .int .u64 C] ∧ RowIs W (w.heap.size + 2 + os1.size) 24 #[.int .i64 y0, .int .u64 y1, .int .i64 y2, .int .u64 y3, .int .i64 y4, .int .u64 y5, .int .u64 y6, .int .u64 y7, .int .u64 y8, .int .i64 y9, .int .u64 y10, .int .u64 y11, .int .u64 y12, .int .u64 y13, .int .u64 y14, .int .i64 y15, .int .u64 y16]) w (by kernel_rfl) ⟨(by refine RowIs.mk ?_; repeat (first | assumption | (with_reducible refine heap_newS _ _ _ ?_; (first | (simp; done) | (simp; omega))) | with_reducible apply heap_gwS | with_reducible apply heap_drewNS | with_reducible apply heap_drewS | with_reducible apply heap_allocS)), (by refine RowIs.mk ?_; repeat (first | assumption | (with_reducible refine heap_newS _ _ _ ?_; (first | (simp; done) | (simp; omega))) | with_reducible apply heap_gwS | with_reducible apply heap_drewNS | with_reducible apply heap_drewS | with_reducible apply heap_allocS)), (by refine RowIs.mk ?_; repeat (first | assumption | (with_reducible refine heap_newS _ _ _ ?_; (first | (simp; done) | (simp; omega))) | with_reducible apply heap_gwS | with_reducible apply heap_drewNS | with_reducible apply heap_drewS | with_reducible apply heap_allocS))⟩ (by repeat (first | assumption | exact Gr.refl _ | apply Gr.drewN | apply Gr.drew | apply Gr.gw | apply Gr.alloc)) (fun X AD GX => ?_)
  clear HC HN
  refine wpAnyH_take (i := 0) (oi := _) (v := .agg #[.int .i64 x0, .int .u64 x1, .int .i64 x2, .int .u64 x3, .int .i64 x4, .int .u64 x5, .int .u64 x6, .int .u64 x7, .int .u64 x8, .int .i64 x9, .int .u64 x10, .int .u64 x11, .int .u64 x12, .int .u64 x13, .int .u64 x14, .int .i64 x15, .int .u64 x16]) rfl (by kernel_rfl) (by kernel_rfl) (by kernel_rfl) (fun _ _ _ h => h) (Or.inl ⟨by rfl, fun W hS => by exact exec_load_row _ _ rfl _ rfl _ _ _ _ (hS.1) rfl rfl (by kernel_rfl)⟩) AD ?_
  simp [Act.put]
  refine wpAnyH_take (i := 1) (oi := _) (v := .agg #[.int .u64 c, .int .u64 t, .int .u64 a, .int .u64 p, .int .u64 e, .int .u64 k, .int .u64 f, .int .u64 E, .int .u64 C]) rfl (by kernel_rfl) (by kernel_rfl) (by kernel_rfl) (fun _ _ _ h => h) (Or.inl ⟨by rfl, fun W hS => by exact exec_load_row _ _ rfl _ rfl _ _ _ _ (hS.2.1) rfl rfl (by kernel_rfl)⟩) AD ?_
  simp [Act.put]
  refine wpAnyH_take (i := 2) (oi := _) (v := .int .u64 ak) rfl (by kernel_rfl) (by kernel_rfl) (by kernel_rfl) (fun _ _ _ h => h) (Or.inl ⟨by rfl, fun W hS => by go_simp⟩) AD ?_
  simp [Act.put]
  refine wpAnyH_take (i := 3) (oi := _) (v := .int .u64 n) rfl (by kernel_rfl) (by kernel_rfl) (by kernel_rfl) (fun _ _ _ h => h) (Or.inl ⟨by rfl, fun W hS => by go_simp⟩) AD ?_
  simp [Act.put]
  refine wpAnyH_take (i := 4) (oi := _) (v := .int .u64 s) rfl (by kernel_rfl) (by kernel_rfl) (by kernel_rfl) (fun _ _ _ h => h) (Or.inl ⟨by rfl, fun W hS => by go_simp⟩) AD ?_
  simp [Act.put]
  refine wpAnyH_take (i := 6) (oi := _) (v := .agg #[.int .i64 x0, .int .u64 x1, .int .i64 x2, .int .u64 x3, .int .i64 x4, .int .u64 x5, .int .u64 x6, .int .u64 x7, .int .u64 x8, .int .i64 x9, .int .u64 x10, .int .u64 x11, .int .u64 x12, .int .u64 x13, .int .u64 x14, .int .i64 x15, .int .u64 x16]) rfl (by kernel_rfl) (by kernel_rfl) (by kernel_rfl) (fun _ _ _ h => h) (Or.inl ⟨by rfl, fun W hS => by exact exec_load_row _ _ rfl _ rfl _ _ _ _ (hS.1) rfl rfl (by kernel_rfl)⟩) AD ?_
  simp [Act.put]
  refine wpAnyH_take (i := 7) (oi := _) (v := .agg #[.int .u64 c, .int .u64 t, .int .u64 a, .int .u64 p, .int .u64 e, .int .u64 k, .int .u64 f, .int .u64 E, .int .u64 C]) rfl (by kernel_rfl) (by kernel_rfl) (by kernel_rfl) (fun _ _ _ h => h) (Or.inl ⟨by rfl, fun W hS => by exact exec_load_row _ _ rfl _ rfl _ _ _ _ (hS.2.1) rfl rfl (by kernel_rfl)⟩) AD ?_
  simp [Act.put]
  refine wpAnyH_take (i := 8) (oi := _) (v := .int .u64 ak) rfl (by kernel_rfl) (by kernel_rfl) (by kernel_rfl) (fun _ _ _ h => h) (Or.inl ⟨by rfl, fun W hS => by go_simp⟩) AD ?_
  simp [Act.put]
  refine wpAnyH_take (i := 9) (oi := _) (v := .int .u64 n) rfl (by kernel_rfl) (by kernel_rfl) (by kernel_rfl) (fun _ _ _ h => h) (Or.inl ⟨by rfl, fun W hS => by go_simp⟩) AD ?_
  simp [Act.put]
  refine wpAnyH_take (i := 10) (oi := _) (v := .int .u64 s) rfl (by kernel_rfl) (by kernel_rfl) (by kernel_rfl) (fun _ _ _ h => h) (Or.inl ⟨by rfl, fun W hS => by go_simp⟩) AD ?_
  simp [Act.put]
  refine wpAnyH_ready (rs := [5]) (by kernel_rfl) (by simp) ?_
  refine AllReadyH.cons (o := _) rfl (fun K hK => ?_) AllReadyH.nil
  go_simp
  refine (nAck x0 x1 x2 x3 x4 x5 x6 x7 x8 x9 x10 x11 x12 x13 x14 x15 x16 c t a p e k f E C ak n s R1 m HM.out HR1.out H5.out OK.out HAK.out HNN.out HS.out _).mono ?_; rintro e' wN1 ⟨rfl, gN1⟩
  go_simp
  have AN1 := rowsKeep3 AD gN1
  have GN1 := Gr.trans GX gN1
  refine hK.out _ _ AN1 (fun hH => ?_)
  clear hK K hH AD GX gN1
  have AD := AN1; have GX := GN1; clear AN1 GN1
  refine wpAnyH_ready (rs := [11]) (by kernel_rfl) (by simp) ?_
  refine AllReadyH.cons (o := _) rfl (fun K hK => ?_) AllReadyH.nil
  go_simp
  refine (qAck x0 x1 x2 x3 x4 x5 x6 x7 x8 x9 x10 x11 x12 x13 x14 x15 x16 c t a p e k f E C ak n s R1 m HM.out HR1.out H5.out OK.out HAK.out HNN.out HS.out _).mono ?_; rintro e' wN2 ⟨rfl, gN2⟩
  go_simp
  have AN2 := rowsKeep3 AD gN2
  have GN2 := Gr.trans GX gN2
  refine hK.out _ _ AN2 (fun hH => ?_)
  clear hK K hH AD GX gN2
  have AD := AN2; have GX := GN2; clear AN2 GN2
  refine wpAnyH_take (i := 12) (oi := _) (v := .bool true) rfl (by kernel_rfl) (by kernel_rfl) (by kernel_rfl) (fun _ _ _ h => h) (Or.inl ⟨by rfl, fun W hS => by go_simp⟩) AD ?_
  simp [Act.put]
  refine wpAnyH_take (i := 13) (oi := _) (v := .bool true) rfl (by kernel_rfl) (by kernel_rfl) (by kernel_rfl) (fun _ _ _ h => h) (Or.inl ⟨by rfl, fun W hS => by go_simp⟩) AD ?_
  simp [Act.put]
  refine wpAnyH_take (i := 14) (oi := _) (v := .agg #[.int .i64 y0, .int .u64 y1, .int .i64 y2, .int .u64 y3, .int .i64 y4, .int .u64 y5, .int .u64 y6, .int .u64 y7, .int .u64 y8, .int .i64 y9, .int .u64 y10, .int .u64 y11, .int .u64 y12, .int .u64 y13, .int .u64 y14, .int .i64 y15, .int .u64 y16]) rfl (by kernel_rfl) (by kernel_rfl) (by kernel_rfl) (fun _ _ _ h => h) (Or.inl ⟨by rfl, fun W hS => by exact exec_load_row _ _ rfl _ rfl _ _ _ _ (hS.2.2) rfl rfl (by kernel_rfl)⟩) AD ?_
  simp [Act.put]
  refine wpAnyH_take (i := 15) (oi := _) (v := .agg #[.int .u64 c, .int .u64 t, .int .u64 a, .int .u64 p, .int .u64 e, .int .u64 k, .int .u64 f, .int .u64 E, .int .u64 C]) rfl (by kernel_rfl) (by kernel_rfl) (by kernel_rfl) (fun _ _ _ h => h) (Or.inl ⟨by rfl, fun W hS => by exact exec_load_row _ _ rfl _ rfl _ _ _ _ (hS.2.1) rfl rfl (by kernel_rfl)⟩) AD ?_
  simp [Act.put]
  refine wpAnyH_take (i := 16) (oi := _) (v := .int .u64 ak) rfl (by kernel_rfl) (by kernel_rfl) (by kernel_rfl) (fun _ _ _ h => h) (Or.inl ⟨by rfl, fun W hS => by go_simp⟩) AD ?_
  simp [Act.put]
  refine wpAnyH_take (i := 17) (oi := _) (v := .int .u64 n) rfl (by kernel_rfl) (by kernel_rfl) (by kernel_rfl) (fun _ _ _ h => h) (Or.inl ⟨by rfl, fun W hS => by go_simp⟩) AD ?_
  simp [Act.put]
  refine wpAnyH_take (i := 18) (oi := _) (v := .int .u64 s) rfl (by kernel_rfl) (by kernel_rfl) (by kernel_rfl) (fun _ _ _ h => h) (Or.inl ⟨by rfl, fun W hS => by go_simp⟩) AD ?_
  simp [Act.put]
  refine wpAnyH_take (i := 20) (oi := _) (v := .agg #[.int .i64 y0, .int .u64 y1, .int .i64 y2, .int .u64 y3, .int .i64 y4, .int .u64 y5, .int .u64 y6, .int .u64 y7, .int .u64 y8, .int .i64 y9, .int .u64 y10, .int .u64 y11, .int .u64 y12, .int .u64 y13, .int .u64 y14, .int .i64 y15, .int .u64 y16]) rfl (by kernel_rfl) (by kernel_rfl) (by kernel_rfl) (fun _ _ _ h => h) (Or.inl ⟨by rfl, fun W hS => by exact exec_load_row _ _ rfl _ rfl _ _ _ _ (hS.2.2) rfl rfl (by kernel_rfl)⟩) AD ?_
  simp [Act.put]
  refine wpAnyH_take (i := 21) (oi := _) (v := .agg #[.int .u64 c, .int .u64 t, .int .u64 a, .int .u64 p, .int .u64 e, .int .u64 k, .int .u64 f, .int .u64 E, .int .u64 C]) rfl (by kernel_rfl) (by kernel_rfl) (by kernel_rfl) (fun _ _ _ h => h) (Or.inl ⟨by rfl, fun W hS => by exact exec_load_row _ _ rfl _ rfl _ _ _ _ (hS.2.1) rfl rfl (by kernel_rfl)⟩) AD ?_
  simp [Act.put]
  refine wpAnyH_take (i := 22) (oi := _) (v := .int .u64 ak) rfl (by kernel_rfl) (by kernel_rfl) (by kernel_rfl) (fun _ _ _ h => h) (Or.inl ⟨by rfl, fun W hS => by go_simp⟩) AD ?_
  simp [Act.put]
  refine wpAnyH_take (i := 23) (oi := _) (v := .int .u64 n) rfl (by kernel_rfl) (by kernel_rfl) (by kernel_rfl) (fun _ _ _ h => h) (Or.inl ⟨by rfl, fun W hS => by go_simp⟩) AD ?_
  simp [Act.put]
  refine wpAnyH_take (i := 24) (oi := _) (v := .int .u64 s) rfl (by kernel_rfl) (by kernel_rfl) (by kernel_rfl) (fun _ _ _ h => h) (Or.inl ⟨by rfl, fun W hS => by go_simp⟩) AD ?_
  simp [Act.put]
  refine wpAnyH_ready (rs := [19]) (by kernel_rfl) (by simp) ?_
  refine AllReadyH.cons (o := _) rfl (fun K hK => ?_) AllReadyH.nil
  go_simp
  refine (nAck y0 y1 y2 y3 y4 y5 y6 y7 y8 y9 y10 y11 y12 y13 y14 y15 y16 c t a p e k f E C ak n s R2 true HMY.out HR2.out H5Y.out OK.out HAK.out HNN.out HS.out _).mono ?_; rintro e' wN3 ⟨rfl, gN3⟩
  go_simp
  have AN3 := rowsKeep3 AD gN3
  have GN3 := Gr.trans GX gN3
  refine hK.out _ _ AN3 (fun hH => ?_)
  clear hK K hH AD GX gN3
  have AD := AN3; have GX := GN3; clear AN3 GN3
  refine wpAnyH_ready (rs := [25]) (by kernel_rfl) (by simp) ?_
  refine AllReadyH.cons (o := _) rfl (fun K hK => ?_) AllReadyH.nil
  go_simp
  refine (qAck y0 y1 y2 y3 y4 y5 y6 y7 y8 y9 y10 y11 y12 y13 y14 y15 y16 c t a p e k f E C ak n s R2 true HMY.out HR2.out H5Y.out OK.out HAK.out HNN.out HS.out _).mono ?_; rintro e' wN4 ⟨rfl, gN4⟩
  go_simp
  have AN4 := rowsKeep3 AD gN4
  have GN4 := Gr.trans GX gN4
  refine hK.out _ _ AN4 (fun hH => ?_)
  clear hK K hH AD GX gN4
  have AD := AN4; have GX := GN4; clear AN4 GN4
  refine wpAnyH_take (i := 26) (oi := _) (v := .bool true) rfl (by kernel_rfl) (by kernel_rfl) (by kernel_rfl) (fun _ _ _ h => h) (Or.inl ⟨by rfl, fun W hS => by go_simp⟩) AD ?_
  simp [Act.put]
  refine wpAnyH_take (i := 27) (oi := _) (v := .bool true) rfl (by kernel_rfl) (by kernel_rfl) (by kernel_rfl) (fun _ _ _ h => h) (Or.inl ⟨by rfl, fun W hS => by go_simp⟩) AD ?_
  simp [Act.put]
  refine wpAnyH_take (i := 28) (oi := _) (v := .bool true) rfl (by kernel_rfl) (by kernel_rfl) (by kernel_rfl) (fun _ _ _ h => h) (Or.inl ⟨by rfl, fun W hS => by go_simp⟩) AD ?_
  simp [Act.put]
  refine wpAnyH_take (i := 29) (oi := _) (v := .agg #[.int .i64 x0, .int .u64 x1, .int .i64 x2, .int .u64 x3, .int .i64 x4, .int .u64 x5, .int .u64 x6, .int .u64 x7, .int .u64 x8, .int .i64 x9, .int .u64 x10, .int .u64 x11, .int .u64 x12, .int .u64 x13, .int .u64 x14, .int .i64 x15, .int .u64 x16]) rfl (by kernel_rfl) (by kernel_rfl) (by kernel_rfl) (fun _ _ _ h => h) (Or.inl ⟨by rfl, fun W hS => by exact exec_load_row _ _ rfl _ rfl _ _ _ _ (hS.1) rfl rfl (by kernel_rfl)⟩) AD ?_
  simp [Act.put]
  refine wpAnyH_take (i := 31) (oi := _) (v := .agg #[.int .i64 x0, .int .u64 x1, .int .i64 x2, .int .u64 x3, .int .i64 x4, .int .u64 x5, .int .u64 x6, .int .u64 x7, .int .u64 x8, .int .i64 x9, .int .u64 x10, .int .u64 x11, .int .u64 x12, .int .u64 x13, .int .u64 x14, .int .i64 x15, .int .u64 x16]) rfl (by kernel_rfl) (by kernel_rfl) (by kernel_rfl) (fun _ _ _ h => h) (Or.inl ⟨by rfl, fun W hS => by exact exec_load_row _ _ rfl _ rfl _ _ _ _ (hS.1) rfl rfl (by kernel_rfl)⟩) AD ?_
  simp [Act.put]
  refine wpAnyH_ready (rs := [30]) (by kernel_rfl) (by simp) ?_
  refine AllReadyH.cons (o := _) rfl (fun K hK => ?_) AllReadyH.nil
  go_simp
  refine (nSta x0 x1 x2 x3 x4 x5 x6 x7 x8 x9 x10 x11 x12 x13 x14 x15 x16 R3 m HM.out HR3.out H5.out _).mono ?_; rintro e' wN5 ⟨rfl, gN5⟩
  go_simp
  have AN5 := rowsKeep3 AD gN5
  have GN5 := Gr.trans GX gN5
  refine hK.out _ _ AN5 (fun hH => ?_)
  clear hK K hH AD GX gN5
  have AD := AN5; have GX := GN5; clear AN5 GN5
  refine wpAnyH_ready (rs := [32]) (by kernel_rfl) (by simp) ?_
  refine AllReadyH.cons (o := _) rfl (fun K hK => ?_) AllReadyH.nil
  go_simp
  refine (qSta x0 x1 x2 x3 x4 x5 x6 x7 x8 x9 x10 x11 x12 x13 x14 x15 x16 R3 m HM.out HR3.out H5.out _).mono ?_; rintro e' wN6 ⟨rfl, gN6⟩
  go_simp
  have AN6 := rowsKeep3 AD gN6
  have GN6 := Gr.trans GX gN6
  refine hK.out _ _ AN6 (fun hH => ?_)
  clear hK K hH AD GX gN6
  have AD := AN6; have GX := GN6; clear AN6 GN6
  refine wpAnyH_take (i := 33) (oi := _) (v := .bool true) rfl (by kernel_rfl) (by kernel_rfl) (by kernel_rfl) (fun _ _ _ h => h) (Or.inl ⟨by rfl, fun W hS => by go_simp⟩) AD ?_
  simp [Act.put]
  refine wpAnyH_take (i := 34) (oi := _) (v := .bool true) rfl (by kernel_rfl) (by kernel_rfl) (by kernel_rfl) (fun _ _ _ h => h) (Or.inl ⟨by rfl, fun W hS => by go_simp⟩) AD ?_
  simp [Act.put]
  refine wpAnyH_take (i := 35) (oi := _) (v := .bool true) rfl (by kernel_rfl) (by kernel_rfl) (by kernel_rfl) (fun _ _ _ h => h) (Or.inl ⟨by rfl, fun W hS => by go_simp⟩) AD ?_
  simp [Act.put]
  refine wpAnyH_take (i := 36) (oi := _) (v := .agg #[.int .i64 y0, .int .u64 y1, .int .i64 y2, .int .u64 y3, .int .i64 y4, .int .u64 y5, .int .u64 y6, .int .u64 y7, .int .u64 y8, .int .i64 y9, .int .u64 y10, .int .u64 y11, .int .u64 y12, .int .u64 y13, .int .u64 y14, .int .i64 y15, .int .u64 y16]) rfl (by kernel_rfl) (by kernel_rfl) (by kernel_rfl) (fun _ _ _ h => h) (Or.inl ⟨by rfl, fun W hS => by exact exec_load_row _ _ rfl _ rfl _ _ _ _ (hS.2.2) rfl rfl (by kernel_rfl)⟩) AD ?_
  simp [Act.put]
  refine wpAnyH_take (i := 38) (oi := _) (v := .agg #[.int .i64 y0, .int .u64 y1, .int .i64 y2, .int .u64 y3, .int .i64 y4, .int .u64 y5, .int .u64 y6, .int .u64 y7, .int .u64 y8, .int .i64 y9, .int .u64 y10, .int .u64 y11, .int .u64 y12, .int .u64 y13, .int .u64 y14, .int .i64 y15, .int .u64 y16]) rfl (by kernel_rfl) (by kernel_rfl) (by kernel_rfl) (fun _ _ _ h => h) (Or.inl ⟨by rfl, fun W hS => by exact exec_load_row _ _ rfl _ rfl _ _ _ _ (hS.2.2) rfl rfl (by kernel_rfl)⟩) AD ?_
  simp [Act.put]
  refine wpAnyH_ready (rs := [37]) (by kernel_rfl) (by simp) ?_
  refine AllReadyH.cons (o := _) rfl (fun K hK => ?_) AllReadyH.nil
  go_simp
  refine (nSta y0 y1 y2 y3 y4 y5 y6 y7 y8 y9 y10 y11 y12 y13 y14 y15 y16 R4 true HMY.out HR4.out H5Y.out _).mono ?_; rintro e' wN7 ⟨rfl, gN7⟩
  go_simp
  have AN7 := rowsKeep3 AD gN7
  have GN7 := Gr.trans GX gN7
  refine hK.out _ _ AN7 (fun hH => ?_)
  clear hK K hH AD GX gN7
  have AD := AN7; have GX := GN7; clear AN7 GN7
  refine wpAnyH_ready (rs := [39]) (by kernel_rfl) (by simp) ?_
  refine AllReadyH.cons (o := _) rfl (fun K hK => ?_) AllReadyH.nil
  go_simp
  refine (qSta y0 y1 y2 y3 y4 y5 y6 y7 y8 y9 y10 y11 y12 y13 y14 y15 y16 R4 true HMY.out HR4.out H5Y.out _).mono ?_; rintro e' wN8 ⟨rfl, gN8⟩
  go_simp
  have AN8 := rowsKeep3 AD gN8
  have GN8 := Gr.trans GX gN8
  refine hK.out _ _ AN8 (fun hH => ?_)
  clear hK K hH AD GX gN8
  have AD := AN8; have GX := GN8; clear AN8 GN8
  refine wpAnyH_take (i := 40) (oi := _) (v := .bool true) rfl (by kernel_rfl) (by kernel_rfl) (by kernel_rfl) (fun _ _ _ h => h) (Or.inl ⟨by rfl, fun W hS => by go_simp⟩) AD ?_
  simp [Act.put]
  refine wpAnyH_take (i := 41) (oi := _) (v := .bool true) rfl (by kernel_rfl) (by kernel_rfl) (by kernel_rfl) (fun _ _ _ h => h) (Or.inl ⟨by rfl, fun W hS => by go_simp⟩) AD ?_
  simp [Act.put]
  refine wpAnyH_take (i := 42) (oi := _) (v := .bool true) rfl (by kernel_rfl) (by kernel_rfl) (by kernel_rfl) (fun _ _ _ h => h) (Or.inl ⟨by rfl, fun W hS => by go_simp⟩) AD ?_
  simp [Act.put]
  refine wpAnyH_done (by kernel_rfl) ?_ _
  go_wp2_with fail
  go_ret
  exact ⟨rfl, GX⟩

theorem walk (cs0 : Array Value) (a1 : Option Addr) (len1 cap1 : Nat) (z1 : List Int) (cs2 : Array Value) (ak n s : Int) (w : World) (w0 : Fits [some .i64, some .u64, some .i64, some .u64, some .i64, some .u64, some .u64, some .u64, some .u64, some .i64, some .u64, some .u64, some .u64, some .u64, some .u64, some .i64, some .u64] cs0.toList) (w1 : IsRow .u32 w a1 len1 cap1 z1) (w2 : Fits [some .u64, some .u64, some .u64, some .u64, some .u64, some .u64, some .u64, some .u64, some .u64] cs2.toList) (w3 : W64 ak) (w4 : W64 n) (w5 : W64 s) :
    Calls Try.prog 8 #[.agg cs0, .slice a1 len1 cap1, .agg cs2, .int .u64 ak, .int .u64 n, .int .u64 s] w fun e w' => e = .returned (.bool true) ∧ Below w.heap.size w w' := by
  obtain ⟨x0, x1, x2, x3, x4, x5, x6, x7, x8, x9, x10, x11, x12, x13, x14, x15, x16, rfl, h5, h7, h8⟩ := openConf w0
  obtain ⟨S, rfl, ok⟩ := openCc w2
  have hnm := nums_of_row w1
  have hma := confI_made (atF len1 (fun i => z1.getD i 0)) (fun i => hnm.atF i)
  have hzc : ∀ w, Nums w a1 len1 (fun i => z1.getD i 0) → _ := fun w h => zConf a1 len1 cap1 (fun i => z1.getD i 0) w h
  exact (walkN x0 x1 x2 x3 x4 x5 x6 x7 x8 x9 x10 x11 x12 x13 x14 x15 x16 (cf0 (atF len1 (fun i => z1.getD i 0))) (cf1 (atF len1 (fun i => z1.getD i 0))) (cf2 (atF len1 (fun i => z1.getD i 0))) (cf3 (atF len1 (fun i => z1.getD i 0))) (cf4 (atF len1 (fun i => z1.getD i 0))) (cf5 (atF len1 (fun i => z1.getD i 0))) (cf6 (atF len1 (fun i => z1.getD i 0))) (cf7 (atF len1 (fun i => z1.getD i 0))) (cf8 (atF len1 (fun i => z1.getD i 0))) (cf9 (atF len1 (fun i => z1.getD i 0))) (cf10 (atF len1 (fun i => z1.getD i 0))) (cf11 (atF len1 (fun i => z1.getD i 0))) (cf12 (atF len1 (fun i => z1.getD i 0))) (cf13 (atF len1 (fun i => z1.getD i 0))) (cf14 (atF len1 (fun i => z1.getD i 0))) (cf15 (atF len1 (fun i => z1.getD i 0))) (cf16 (atF len1 (fun i => z1.getD i 0))) S.c S.t S.a S.p S.e S.k S.f S.E S.C ak n s a1 len1 cap1 (fun i => z1.getD i 0) _ _ _ _ _ w rfl (by rw [hma]; rfl) rfl rfl rfl rfl h5 (cf5_W hnm) ok w3 w4 w5 hnm (Lib.hid hzc)).mono fun _ _ h => ⟨h.1, h.2.below⟩

/-! ### the row's step -/
set_option maxRecDepth 100000 in
theorem lifted (os : Os) (started : os.Started) (H : Type) (enc : TypeId × Value → H) :
    ReturnsInHanded {} Try.checked os 8 .any (Rows.controlAcksSpec.pre6 enc Try.prog Try.f8 Rows.controlAcksRow.domain false) (Rows.controlAcksSpec.post enc Try.prog Try.f8 false true false false) := by
  refine returnsInHanded_of_change (C := Try.checked) own started (by kernel_rfl) Try.func8
    (ChangeSpec.witness6 (enc := enc) (C := Try.checked) false ⟨#[], #[.agg #[.int .i64 0, .int .u64 0, .int .i64 0, .int .u64 0, .int .i64 0, .int .u64 0, .int .u64 0, .int .u64 0, .int .u64 0, .int .i64 0, .int .u64 0, .int .u64 0, .int .u64 0, .int .u64 0, .int .u64 0, .int .i64 0, .int .u64 0], .slice none 0 0, .agg #[.int .u64 0, .int .u64 0, .int .u64 0, .int .u64 0, .int .u64 0, .int .u64 0, .int .u64 0, .int .u64 0, .int .u64 0], .int .u64 0, .int .u64 0, .int .u64 0], []⟩ 8 (by kernel_rfl) (by kernel_rfl) (by kernel_rfl) (by kernel_rfl)) ?_
  intro W base args ds gs before hval0 hW hcnd _
  have hval : ∀ (j : Nat) t v, Try.f8.params[j]? = some t → args[j]? = some v → Value.okWide Try.prog W .any base t v := hval0
  have hW' := hW
  obtain ⟨p, q, hA0, hV, rfl, hfz, hnd⟩ := hW
  have hA : DataW.TrodAll enc Try.prog W 0 (fun _ => true) true Try.f8.params.toList args.toList ds p := hA0
  rw [Try.params8] at hA hval
  obtain ⟨v0, vs0, d0, ds0, p0, q0, hargs, rfl, rfl, h0, r0⟩ := trodAll_cons hA
  obtain ⟨v1, vs1, d1, ds1, p1, q1, rfl, rfl, rfl, h1, r1⟩ := trodAll_cons r0
  obtain ⟨v2, vs2, d2, ds2, p2, q2, rfl, rfl, rfl, h2, r2⟩ := trodAll_cons r1
  obtain ⟨v3, vs3, d3, ds3, p3, q3, rfl, rfl, rfl, h3, r3⟩ := trodAll_cons r2
  obtain ⟨v4, vs4, d4, ds4, p4, q4, rfl, rfl, rfl, h4, r4⟩ := trodAll_cons r3
  obtain ⟨v5, vs5, d5, ds5, p5, q5, rfl, rfl, rfl, h5, r5⟩ := trodAll_cons r4
  obtain ⟨rfl, rfl, rfl⟩ := trodAll_nil r5
  obtain rfl : args = #[v0, v1, v2, v3, v4, v5] := by cases args; simp_all
  obtain ⟨rfl, rfl⟩ := trodVars_none hV
  obtain ⟨cs0, rfl, hsz0⟩ := okWide_struct Try.underlying24 (hval 0 24 v0 rfl rfl)
  have k0 := h0
  have lt0 : ∀ x ∈ p0, x.block < W.heap.size := by obtain ⟨m, hm⟩ := k0; exact DataW.trod_lt m _ _ _ hm
  have w0 : Fits [some .i64, some .u64, some .i64, some .u64, some .i64, some .u64, some .u64, some .u64, some .u64, some .i64, some .u64, some .u64, some .u64, some .u64, some .u64, some .i64, some .u64] cs0.toList := by
    obtain ⟨fuel, hf⟩ := h0
    exact fits_of_trod 8 24 _ fuel _ _ (by kernel_rfl) (by simpa [Value.cells] using hf)
  obtain ⟨a1, len1, cap1, rfl⟩ := okWide_slice Try.underlying25 (hval 1 25 v1 rfl rfl)
  have k1 := h1
  have lt1 : ∀ x ∈ p1, x.block < W.heap.size := by obtain ⟨m, hm⟩ := k1; exact DataW.trod_lt m _ _ _ hm
  obtain ⟨z1, w1⟩ : ∃ zs, IsRow .u32 W a1 len1 cap1 zs := by
    obtain ⟨fuel, hf⟩ := h1
    rcases open_ints Try.underlying25 Try.underlying45 (by kernel_rfl) hf with ⟨hcs, _⟩ | ⟨x, l, c, zs, hcs, _, hl, hm, hz, _, hcell, hwz⟩
    · simp [Value.cells] at hcs
      obtain ⟨rfl, rfl, rfl⟩ := hcs
      exact ⟨[], .inl ⟨rfl, rfl, rfl, rfl⟩⟩
    · simp [Value.cells] at hcs
      obtain ⟨rfl, rfl, rfl⟩ := hcs
      exact ⟨zs, .inr ⟨_, rfl, hl, hm, by simpa using hz, hcell, hwz⟩⟩
  obtain ⟨cs2, rfl, hsz2⟩ := okWide_struct Try.underlying31 (hval 2 31 v2 rfl rfl)
  have k2 := h2
  have lt2 : ∀ x ∈ p2, x.block < W.heap.size := by obtain ⟨m, hm⟩ := k2; exact DataW.trod_lt m _ _ _ hm
  have w2 : Fits [some .u64, some .u64, some .u64, some .u64, some .u64, some .u64, some .u64, some .u64, some .u64] cs2.toList := by
    obtain ⟨fuel, hf⟩ := h2
    exact fits_of_trod 8 31 _ fuel _ _ (by kernel_rfl) (by simpa [Value.cells] using hf)
  obtain ⟨a3, rfl, rfl, rfl, w3⟩ := open_int Try.underlying22 (hval 3 22 v3 rfl rfl) h3
  obtain ⟨a4, rfl, rfl, rfl, w4⟩ := open_int Try.underlying22 (hval 4 22 v4 rfl rfl) h4
  obtain ⟨a5, rfl, rfl, rfl, w5⟩ := open_int Try.underlying22 (hval 5 22 v5 rfl rfl) h5
  clear hA0 hval0
  refine (walk cs0 a1 len1 cap1 z1 cs2 a3 a4 a5 W w0 w1 w2 (wfU64 w3) (wfU64 w4) (wfU64 w5)).mono fun e W' ⟨he, bel⟩ => ?_
  subst he
  exact ⟨_, rfl, _, _, _, [], _, [], hW', trodAll_mk1 (shut_bool Try.underlying4 _), (trodAll_cons_mk (Below.trod laidOut (by kernel_rfl) (of_decide_eq_true (by kernel_rfl)) k0 bel lt0) (trodAll_cons_mk (Below.trod laidOut (by kernel_rfl) (of_decide_eq_true (by kernel_rfl)) k1 bel lt1) (trodAll_cons_mk (Below.trod laidOut (by kernel_rfl) (of_decide_eq_true (by kernel_rfl)) k2 bel lt2) (trodAll_cons_mk (shut_int Try.underlying22 w3) (trodAll_cons_mk (shut_int Try.underlying22 w4) (trodAll_cons_mk (shut_int Try.underlying22 w5) trodAll_mk0)))))), rfl, bel.frame _, fun h => by cases h⟩

theorem over : Rows.controlAcksRow.holds Try.pinned (OpenSpec.ofChange Rows.controlAcksSpec) :=
  OpenClaim.holds_of_wide 8 Try.f8 rfl rfl rfl rfl rfl rfl rfl ⟨rfl, rfl, rfl, rfl, rfl⟩ rfl rfl rfl rfl rfl (by kernel_rfl) Try.func8 (by kernel_rfl)
    (of_decide_eq_true (by kernel_rfl)) (by unfold Func.isWrapper; first | (rw [if_pos (by decide +kernel)]; kernel_rfl) | (rw [if_neg (by decide +kernel)]; exact ⟨rfl, rfl⟩))
    (fun os started H enc _ => lifted os started H enc)

/-- THE STATEMENT -/
theorem proved : Rows.ControlAcksSaid := over
end Go.Proofs.Ytikkmdbaekdolaa.controlAcks
