/- For all configurations c, slices k of 32-bit numbers, integers n and fates and words delay, JudgeTimes returns true: Period and Time agree with the definition. No condition. -/
import Derived.Test.YtikkmdbaekdolaaBase
import Derived.Test.YtikkmdbaekdolaaAliveJ
import Derived.Test.YtikkmdbaekdolaaJudge
import Derived.Test.YtikkmdbaekdolaaJgA
import Derived.Test.YtikkmdbaekdolaaConf0
namespace Go.Proofs.Ytikkmdbaekdolaa.judgeTimes
open Go.ChangeShapes Go.WideShapes Go.ChangeAt Go.RowKit Go.Lib
set_option linter.unusedVariables false
set_option maxRecDepth 100000

theorem openConfJ {cs : Array Value} (h : Fits [some .i64, some .u64, some .i64, some .u64, some .i64, some .u64, some .u64, some .u64, some .u64, some .i64, some .u64, some .u64, some .u64, some .u64, some .u64, some .i64, some .u64] cs.toList) :
    ∃ x0 x1 x2 x3 x4 x5 x6 x7 x8 x9 x10 x11 x12 x13 x14 x15 x16 : Int, cs = #[.int .i64 x0, .int .u64 x1, .int .i64 x2, .int .u64 x3, .int .i64 x4, .int .u64 x5, .int .u64 x6, .int .u64 x7, .int .u64 x8, .int .i64 x9, .int .u64 x10, .int .u64 x11, .int .u64 x12, .int .u64 x13, .int .u64 x14, .int .i64 x15, .int .u64 x16] ∧ W64 x5 ∧ W64 x6 ∧ W64 x12 ∧ W64 x14 ∧ -9223372036854775808 ≤ x2 ∧ x2 ≤ 9223372036854775807 := by
  obtain ⟨l⟩ := cs
  rcases l with _ | ⟨v0, _ | ⟨v1, _ | ⟨v2, _ | ⟨v3, _ | ⟨v4, _ | ⟨v5, _ | ⟨v6, _ | ⟨v7, _ | ⟨v8, _ | ⟨v9, _ | ⟨v10, _ | ⟨v11, _ | ⟨v12, _ | ⟨v13, _ | ⟨v14, _ | ⟨v15, _ | ⟨v16, _ | ⟨v17, l⟩⟩⟩⟩⟩⟩⟩⟩⟩⟩⟩⟩⟩⟩⟩⟩⟩⟩ <;> simp only [Fits, and_false] at h
  obtain ⟨⟨x0, rfl, h0⟩, ⟨x1, rfl, h1⟩, ⟨x2, rfl, h2⟩, ⟨x3, rfl, h3⟩, ⟨x4, rfl, h4⟩, ⟨x5, rfl, h5⟩, ⟨x6, rfl, h6⟩, ⟨x7, rfl, h7⟩, ⟨x8, rfl, h8⟩, ⟨x9, rfl, h9⟩, ⟨x10, rfl, h10⟩, ⟨x11, rfl, h11⟩, ⟨x12, rfl, h12⟩, ⟨x13, rfl, h13⟩, ⟨x14, rfl, h14⟩, ⟨x15, rfl, h15⟩, ⟨x16, rfl, h16⟩, _⟩ := h
  exact ⟨x0, x1, x2, x3, x4, x5, x6, x7, x8, x9, x10, x11, x12, x13, x14, x15, x16, rfl, wfU64 h5, wfU64 h6, wfU64 h12, wfU64 h14, (wfI64 h2).1, (wfI64 h2).2⟩

set_option maxHeartbeats 8000000 in
theorem walkN (x0 x1 x2 x3 x4 x5 x6 x7 x8 x9 x10 x11 x12 x13 x14 x15 x16 y0 y1 y2 y3 y4 y5 y6 y7 y8 y9 y10 y11 y12 y13 y14 y15 y16 n f d : Int) (ka : Option Addr) (len cap : Nat) (z : Nat → Int) (R1 R2 R3 R4 : Int) (m : Bool) (w : World)
    (hm : (confI x0 x1 x2 x3 x4 x5 x6 x7 x8 x9 x10 x11 x12 x13 x14 x15 x16 == 0) = m) (hmy : (confI y0 y1 y2 y3 y4 y5 y6 y7 y8 y9 y10 y11 y12 y13 y14 y15 y16 == 0) = true) (hr1 : perM m x12 x5 x14 d = R1) (hr2 : timM m x12 x5 x14 d x2 n f = R2) (hr3 : perM true y12 y5 y14 d = R3) (hr4 : timM true y12 y5 y14 d y2 n f = R4)
    (hx5 : W64 x5) (hx12 : W64 x12) (hx14 : W64 x14) (hx2 : -9223372036854775808 ≤ x2 ∧ x2 ≤ 9223372036854775807) (hy5 : W64 y5) (hy12 : W64 y12) (hy14 : W64 y14) (hy2 : -9223372036854775808 ≤ y2 ∧ y2 ≤ 9223372036854775807) (hn' : -9223372036854775808 ≤ n ∧ n ≤ 9223372036854775807) (hf : -9223372036854775808 ≤ f ∧ f ≤ 9223372036854775807) (hd : W64 d) (hn : Nums w ka len z)
    (HC : Hid (∀ w, Nums w ka len z → Calls Try.prog 16 #[.slice ka len cap] w fun e w' => e = .returned (.agg #[.int .i64 y0, .int .u64 y1, .int .i64 y2, .int .u64 y3, .int .i64 y4, .int .u64 y5, .int .u64 y6, .int .u64 y7, .int .u64 y8, .int .i64 y9, .int .u64 y10, .int .u64 y11, .int .u64 y12, .int .u64 y13, .int .u64 y14, .int .i64 y15, .int .u64 y16]) ∧ Gr w w')) :
    Calls Try.prog 14 #[.agg #[.int .i64 x0, .int .u64 x1, .int .i64 x2, .int .u64 x3, .int .i64 x4, .int .u64 x5, .int .u64 x6, .int .u64 x7, .int .u64 x8, .int .i64 x9, .int .u64 x10, .int .u64 x11, .int .u64 x12, .int .u64 x13, .int .u64 x14, .int .i64 x15, .int .u64 x16], .slice ka len cap, .int .i64 n, .int .i64 f, .int .u64 d] w fun e w' => e = .returned (.bool true) ∧ Below w.heap.size w w' := by
  have HM := Lib.hid hm
  have HMY := Lib.hid hmy
  have HR1 := Lib.hid hr1
  have HR2 := Lib.hid hr2
  have HR3 := Lib.hid hr3
  have HR4 := Lib.hid hr4
  have HX5 := Lib.hid hx5
  have HX12 := Lib.hid hx12
  have HX14 := Lib.hid hx14
  have HX2 := Lib.hid hx2
  have HY5 := Lib.hid hy5
  have HY12 := Lib.hid hy12
  have HY14 := Lib.hid hy14
  have HY2 := Lib.hid hy2
  have HN_ := Lib.hid hn'
  have HF := Lib.hid hf
  have HD := Lib.hid hd
  have HN := Lib.hid hn
  clear hm hmy hr1 hr2 hr3 hr4 hx5 hx12 hx14 hx2 hy5 hy12 hy14 hy2 hn' hf hd hn
  go_enter Try.func14, Try.ntmps14
  go_wp2_with fail
  ((with_reducible refine (aliveJ _).mono ?_); rintro e' w1 ⟨rfl, bb⟩)
  have b1 : Below w.heap.size w w1 := ((Below.refl _ _).alloc (Nat.le_refl _) _).trans (bb.mono (by simp))
  have r0 : RowIs w1 w.heap.size 24 #[.int .i64 x0, .int .u64 x1, .int .i64 x2, .int .u64 x3, .int .i64 x4, .int .u64 x5, .int .u64 x6, .int .u64 x7, .int .u64 x8, .int .i64 x9, .int .u64 x10, .int .u64 x11, .int .u64 x12, .int .u64 x13, .int .u64 x14, .int .i64 x15, .int .u64 x16] := RowIs.below (RowIs.mk (heap_alloc_new w _)) (by simp) bb
  clear bb
  go_wp2_with fail
  refine held_absB (S := fun W => RowIs W (w.heap.size) 24 #[.int .i64 x0, .int .u64 x1, .int .i64 x2, .int .u64 x3, .int .i64 x4, .int .u64 x5, .int .u64 x6, .int .u64 x7, .int .u64 x8, .int .i64 x9, .int .u64 x10, .int .u64 x11, .int .u64 x12, .int .u64 x13, .int .u64 x14, .int .i64 x15, .int .u64 x16]) w (by kernel_rfl) (by refine RowIs.mk ?_; repeat (first | (with_reducible exact RowIs.un r0) | (with_reducible exact RowIs.un r1) | (with_reducible exact RowIs.un r2) | (with_reducible exact RowIs.un r3) | (with_reducible exact RowIs.un r4) | (with_reducible refine heap_newS _ _ _ ?_; (first | (simp; done) | (simp; omega))) | with_reducible apply heap_gwS | with_reducible apply heap_drewNS | with_reducible apply heap_drewS | with_reducible apply heap_allocS)) (by repeat (first | with_reducible exact b1 | with_reducible apply below_drewN | with_reducible apply Below.drew | with_reducible refine Below.alloc ?_ (by have := Below.size b1; first | exact this | (simp; done) | (simp; omega)) _ | with_reducible refine Below.setCell ?_ (by have := Below.size b1; first | exact this | (simp; done) | (simp; omega)) _)) (fun X AD GX => ?_)
  clear b1
  refine wpAnyH_take (i := 0) (oi := _) (v := .agg #[.int .i64 x0, .int .u64 x1, .int .i64 x2, .int .u64 x3, .int .i64 x4, .int .u64 x5, .int .u64 x6, .int .u64 x7, .int .u64 x8, .int .i64 x9, .int .u64 x10, .int .u64 x11, .int .u64 x12, .int .u64 x13, .int .u64 x14, .int .i64 x15, .int .u64 x16]) rfl (by kernel_rfl) (by kernel_rfl) (by kernel_rfl) (fun _ _ _ h => h) (Or.inl ⟨by rfl, fun W hS => by exact exec_load_row _ _ rfl _ rfl _ _ _ _ (hS) rfl rfl (by kernel_rfl)⟩) AD ?_
  simp [Act.put]
  refine wpAnyH_take (i := 1) (oi := _) (v := .slice ka len cap) rfl (by kernel_rfl) (by kernel_rfl) (by kernel_rfl) (fun _ _ _ h => h) (Or.inl ⟨by rfl, fun W hS => by go_simp⟩) AD ?_
  simp [Act.put]
  refine wpAnyH_take (i := 4) (oi := _) (v := .int .i64 0) rfl (by kernel_rfl) (by kernel_rfl) (by kernel_rfl) (fun _ _ _ h => h) (Or.inl ⟨by rfl, fun W hS => by go_simp⟩) AD ?_
  simp [Act.put]
  refine wpAnyH_ready (rs := [2]) (by kernel_rfl) (by simp) ?_
  refine AllReadyH.cons (o := _) rfl (fun K hK => ?_) AllReadyH.nil
  go_simp
  refine (HC.out _ (Nums.below HN.out GX)).mono ?_; rintro e' wN1 ⟨rfl, gN1⟩
  go_simp
  have gN1 := Gr.below gN1
  have AN1 := rowsBel1 AD gN1
  have GN1 := Below.trans GX (Below.mono gN1 (Below.size GX))
  refine hK.out _ _ AN1 (fun hH => ?_)
  clear hK K hH AD GX gN1
  have AD := AN1; have GX := GN1; clear AN1 GN1
  refine wpAnyH_take (i := 3) (oi := _) (v := .agg #[.int .i64 x0, .int .u64 x1, .int .i64 x2, .int .u64 x3, .int .i64 x4, .int .u64 x5, .int .u64 x6, .int .u64 x7, .int .u64 x8, .int .i64 x9, .int .u64 x10, .int .u64 x11, .int .u64 x12, .int .u64 x13, .int .u64 x14, .int .i64 x15, .int .u64 x16, .int .i64 y0, .int .u64 y1, .int .i64 y2, .int .u64 y3, .int .i64 y4, .int .u64 y5, .int .u64 y6, .int .u64 y7, .int .u64 y8, .int .i64 y9, .int .u64 y10, .int .u64 y11, .int .u64 y12, .int .u64 y13, .int .u64 y14, .int .i64 y15, .int .u64 y16]) rfl (by kernel_rfl) (by kernel_rfl) (by kernel_rfl) (fun _ _ _ h => h) (Or.inl ⟨by rfl, fun W hS => by go_simp⟩) AD ?_
  simp [Act.put]
  refine wpAnyH_done (by kernel_rfl) ?_ _
  go_wp2_with fail
  go_loopw [19] (fun i wr => (i = .int .i64 0 ∨ i = .int .i64 1 ∨ i = .int .i64 2) ∧ Below w.heap.size w wr) (fun i _ => (2 - intOf i).toNat)
  case atStart => exact ⟨.inl rfl, GX⟩
  case round =>
  obtain ⟨hi, G0⟩ := hrel
  clear AD GX HC HN
  rcases hi with rfl | rfl | rfl
  · have hidx : ∀ w, (Instr.index 34 (.agg #[.int .i64 x0, .int .u64 x1, .int .i64 x2, .int .u64 x3, .int .i64 x4, .int .u64 x5, .int .u64 x6, .int .u64 x7, .int .u64 x8, .int .i64 x9, .int .u64 x10, .int .u64 x11, .int .u64 x12, .int .u64 x13, .int .u64 x14, .int .i64 x15, .int .u64 x16, .int .i64 y0, .int .u64 y1, .int .i64 y2, .int .u64 y3, .int .i64 y4, .int .u64 y5, .int .u64 y6, .int .u64 y7, .int .u64 y8, .int .i64 y9, .int .u64 y10, .int .u64 y11, .int .u64 y12, .int .u64 y13, .int .u64 y14, .int .i64 y15, .int .u64 y16]) (.int .i64 0)).run Try.prog w = .ok (.agg #[.int .i64 x0, .int .u64 x1, .int .i64 x2, .int .u64 x3, .int .i64 x4, .int .u64 x5, .int .u64 x6, .int .u64 x7, .int .u64 x8, .int .i64 x9, .int .u64 x10, .int .u64 x11, .int .u64 x12, .int .u64 x13, .int .u64 x14, .int .i64 x15, .int .u64 x16]) w := fun _ => by kernel_rfl
    go_wp2_with (first | (refine wpList_load_all (by rfl) 24 _ rfl _ rfl _ _ _ _ (by repeat (first | (with_reducible exact RowIs.un r0) | (with_reducible exact RowIs.un r1) | (with_reducible exact RowIs.un r2) | (with_reducible exact RowIs.un r3) | (with_reducible exact RowIs.un r4) | (with_reducible refine heap_newS _ _ _ ?_; (first | (simp; done) | (simp; omega))) | with_reducible apply heap_gwS | with_reducible apply heap_drewNS | with_reducible apply heap_drewS | with_reducible apply heap_allocS)) Try.underlying24 rfl (by kernel_rfl) ?_) | (refine wpList_load_all (by rfl) 31 _ rfl _ rfl _ _ _ _ (by repeat (first | (with_reducible exact RowIs.un r0) | (with_reducible exact RowIs.un r1) | (with_reducible exact RowIs.un r2) | (with_reducible exact RowIs.un r3) | (with_reducible exact RowIs.un r4) | (with_reducible refine heap_newS _ _ _ ?_; (first | (simp; done) | (simp; omega))) | with_reducible apply heap_gwS | with_reducible apply heap_drewNS | with_reducible apply heap_drewS | with_reducible apply heap_allocS)) Try.underlying31 rfl (by kernel_rfl) ?_) | (refine wpList_store_newD rfl 24 _ _ rfl _ _ rfl rfl _ _ _ _ (by with_reducible rfl) (by first | (simp; done) | (simp; omega)) (by kernel_rfl) rfl (by first | kernel_rfl | simp [Value.oneCell'] | rfl) ?_) | (refine wpList_store_new rfl 24 _ _ rfl _ _ rfl rfl _ _ _ (by with_reducible rfl) (by first | (simp; done) | (simp; omega)) (by kernel_rfl) rfl (by first | kernel_rfl | simp [Value.oneCell'] | rfl) ?_) | (refine wpList_store_newD rfl 31 _ _ rfl _ _ rfl rfl _ _ _ _ (by with_reducible rfl) (by first | (simp; done) | (simp; omega)) (by kernel_rfl) rfl (by first | kernel_rfl | simp [Value.oneCell'] | rfl) ?_) | (refine wpList_store_new rfl 31 _ _ rfl _ _ rfl rfl _ _ _ (by with_reducible rfl) (by first | (simp; done) | (simp; omega)) (by kernel_rfl) rfl (by first | kernel_rfl | simp [Value.oneCell'] | rfl) ?_))
    clear hidx
    refine held_absB (S := fun W => RowIs W (wr.heap.size) 24 #[.int .i64 x0, .int .u64 x1, .int .i64 x2, .int .u64 x3, .int .i64 x4, .int .u64 x5, .int .u64 x6, .int .u64 x7, .int .u64 x8, .int .i64 x9, .int .u64 x10, .int .u64 x11, .int .u64 x12, .int .u64 x13, .int .u64 x14, .int .i64 x15, .int .u64 x16]) w (by kernel_rfl) (by refine RowIs.mk ?_; repeat (first | (with_reducible exact RowIs.un r0) | (with_reducible exact RowIs.un r1) | (with_reducible exact RowIs.un r2) | (with_reducible exact RowIs.un r3) | (with_reducible exact RowIs.un r4) | (with_reducible refine heap_newS _ _ _ ?_; (first | (simp; done) | (simp; omega))) | with_reducible apply heap_gwS | with_reducible apply heap_drewNS | with_reducible apply heap_drewS | with_reducible apply heap_allocS)) (by repeat (first | with_reducible exact G0 | with_reducible apply below_drewN | with_reducible apply Below.drew | with_reducible refine Below.alloc ?_ (by have := Below.size G0; first | exact this | (simp; done) | (simp; omega)) _ | with_reducible refine Below.setCell ?_ (by have := Below.size G0; first | exact this | (simp; done) | (simp; omega)) _)) (fun X AD GX => ?_)
    clear G0
    refine wpAnyH_take (i := 0) (oi := _) (v := .agg #[.int .i64 x0, .int .u64 x1, .int .i64 x2, .int .u64 x3, .int .i64 x4, .int .u64 x5, .int .u64 x6, .int .u64 x7, .int .u64 x8, .int .i64 x9, .int .u64 x10, .int .u64 x11, .int .u64 x12, .int .u64 x13, .int .u64 x14, .int .i64 x15, .int .u64 x16]) rfl (by kernel_rfl) (by kernel_rfl) (by kernel_rfl) (fun _ _ _ h => h) (Or.inl ⟨by rfl, fun W hS => by exact exec_load_row _ _ rfl _ rfl _ _ _ _ (hS) rfl rfl (by kernel_rfl)⟩) AD ?_
    simp [Act.put]
    refine wpAnyH_take (i := 1) (oi := _) (v := .int .u64 d) rfl (by kernel_rfl) (by kernel_rfl) (by kernel_rfl) (fun _ _ _ h => h) (Or.inl ⟨by rfl, fun W hS => by go_simp⟩) AD ?_
    simp [Act.put]
    refine wpAnyH_take (i := 3) (oi := _) (v := .agg #[.int .i64 x0, .int .u64 x1, .int .i64 x2, .int .u64 x3, .int .i64 x4, .int .u64 x5, .int .u64 x6, .int .u64 x7, .int .u64 x8, .int .i64 x9, .int .u64 x10, .int .u64 x11, .int .u64 x12, .int .u64 x13, .int .u64 x14, .int .i64 x15, .int .u64 x16]) rfl (by kernel_rfl) (by kernel_rfl) (by kernel_rfl) (fun _ _ _ h => h) (Or.inl ⟨by rfl, fun W hS => by exact exec_load_row _ _ rfl _ rfl _ _ _ _ (hS) rfl rfl (by kernel_rfl)⟩) AD ?_
    simp [Act.put]
    refine wpAnyH_take (i := 4) (oi := _) (v := .int .u64 d) rfl (by kernel_rfl) (by kernel_rfl) (by kernel_rfl) (fun _ _ _ h => h) (Or.inl ⟨by rfl, fun W hS => by go_simp⟩) AD ?_
    simp [Act.put]
    refine wpAnyH_ready (rs := [2]) (by kernel_rfl) (by simp) ?_
    refine AllReadyH.cons (o := _) rfl (fun K hK => ?_) AllReadyH.nil
    go_simp
    refine (jPer x0 x1 x2 x3 x4 x5 x6 x7 x8 x9 x10 x11 x12 x13 x14 x15 x16 d m R1 HM.out HR1.out HX5.out HX12.out HX14.out HD.out _).mono ?_; rintro e' wN1 ⟨rfl, gN1⟩
    go_simp
    have gN1 := Gr.below gN1
    have AN1 := rowsBel1 AD gN1
    have GN1 := Below.trans GX (Below.mono gN1 (Below.size GX))
    refine hK.out _ _ AN1 (fun hH => ?_)
    clear hK K hH AD GX gN1
    have AD := AN1; have GX := GN1; clear AN1 GN1
    refine wpAnyH_ready (rs := [5]) (by kernel_rfl) (by simp) ?_
    refine AllReadyH.cons (o := _) rfl (fun K hK => ?_) AllReadyH.nil
    go_simp
    refine (qPer x0 x1 x2 x3 x4 x5 x6 x7 x8 x9 x10 x11 x12 x13 x14 x15 x16 d m R1 HM.out HR1.out HX5.out HX12.out HX14.out HD.out _).mono ?_; rintro e' wN2 ⟨rfl, gN2⟩
    go_simp
    have gN2 := Gr.below gN2
    have AN2 := rowsBel1 AD gN2
    have GN2 := Below.trans GX (Below.mono gN2 (Below.size GX))
    refine hK.out _ _ AN2 (fun hH => ?_)
    clear hK K hH AD GX gN2
    have AD := AN2; have GX := GN2; clear AN2 GN2
    refine wpAnyH_take (i := 6) (oi := _) (v := .bool false) rfl (by kernel_rfl) (by kernel_rfl) (by kernel_rfl) (fun _ _ _ h => h) (Or.inl ⟨by rfl, fun W hS => by go_simp⟩) AD ?_
    simp [Act.put]
    refine wpAnyH_take (i := 7) (oi := _) (v := .bool false) rfl (by kernel_rfl) (by kernel_rfl) (by kernel_rfl) (fun _ _ _ h => h) (Or.inl ⟨by rfl, fun W hS => by go_simp⟩) AD ?_
    simp [Act.put]
    refine wpAnyH_take (i := 8) (oi := _) (v := .agg #[.int .i64 x0, .int .u64 x1, .int .i64 x2, .int .u64 x3, .int .i64 x4, .int .u64 x5, .int .u64 x6, .int .u64 x7, .int .u64 x8, .int .i64 x9, .int .u64 x10, .int .u64 x11, .int .u64 x12, .int .u64 x13, .int .u64 x14, .int .i64 x15, .int .u64 x16]) rfl (by kernel_rfl) (by kernel_rfl) (by kernel_rfl) (fun _ _ _ h => h) (Or.inl ⟨by rfl, fun W hS => by exact exec_load_row _ _ rfl _ rfl _ _ _ _ (hS) rfl rfl (by kernel_rfl)⟩) AD ?_
    simp [Act.put]
    refine wpAnyH_take (i := 9) (oi := _) (v := .int .i64 n) rfl (by kernel_rfl) (by kernel_rfl) (by kernel_rfl) (fun _ _ _ h => h) (Or.inl ⟨by rfl, fun W hS => by go_simp⟩) AD ?_
    simp [Act.put]
    refine wpAnyH_take (i := 10) (oi := _) (v := .int .i64 f) rfl (by kernel_rfl) (by kernel_rfl) (by kernel_rfl) (fun _ _ _ h => h) (Or.inl ⟨by rfl, fun W hS => by go_simp⟩) AD ?_
    simp [Act.put]
    refine wpAnyH_take (i := 11) (oi := _) (v := .int .u64 d) rfl (by kernel_rfl) (by kernel_rfl) (by kernel_rfl) (fun _ _ _ h => h) (Or.inl ⟨by rfl, fun W hS => by go_simp⟩) AD ?_
    simp [Act.put]
    refine wpAnyH_take (i := 13) (oi := _) (v := .agg #[.int .i64 x0, .int .u64 x1, .int .i64 x2, .int .u64 x3, .int .i64 x4, .int .u64 x5, .int .u64 x6, .int .u64 x7, .int .u64 x8, .int .i64 x9, .int .u64 x10, .int .u64 x11, .int .u64 x12, .int .u64 x13, .int .u64 x14, .int .i64 x15, .int .u64 x16]) rfl (by kernel_rfl) (by kernel_rfl) (by kernel_rfl) (fun _ _ _ h => h) (Or.inl ⟨by rfl, fun W hS => by exact exec_load_row _ _ rfl _ rfl _ _ _ _ (hS) rfl rfl (by kernel_rfl)⟩) AD ?_
    simp [Act.put]
    refine wpAnyH_take (i := 14) (oi := _) (v := .int .i64 n) rfl (by kernel_rfl) (by kernel_rfl) (by kernel_rfl) (fun _ _ _ h => h) (Or.inl ⟨by rfl, fun W hS => by go_simp⟩) AD ?_
    simp [Act.put]
    refine wpAnyH_take (i := 15) (oi := _) (v := .int .i64 f) rfl (by kernel_rfl) (by kernel_rfl) (by kernel_rfl) (fun _ _ _ h => h) (Or.inl ⟨by rfl, fun W hS => by go_simp⟩) AD ?_
    simp [Act.put]
    refine wpAnyH_take (i := 16) (oi := _) (v := .int .u64 d) rfl (by kernel_rfl) (by kernel_rfl) (by kernel_rfl) (fun _ _ _ h => h) (Or.inl ⟨by rfl, fun W hS => by go_simp⟩) AD ?_
    simp [Act.put]
    refine wpAnyH_ready (rs := [12]) (by kernel_rfl) (by simp) ?_
    refine AllReadyH.cons (o := _) rfl (fun K hK => ?_) AllReadyH.nil
    go_simp
    refine (jTim x0 x1 x2 x3 x4 x5 x6 x7 x8 x9 x10 x11 x12 x13 x14 x15 x16 n f d m R2 HM.out HR2.out HX5.out HX12.out HX14.out HD.out HN_.out HF.out _).mono ?_; rintro e' wN3 ⟨rfl, gN3⟩
    go_simp
    have gN3 := Gr.below gN3
    have AN3 := rowsBel1 AD gN3
    have GN3 := Below.trans GX (Below.mono gN3 (Below.size GX))
    refine hK.out _ _ AN3 (fun hH => ?_)
    clear hK K hH AD GX gN3
    have AD := AN3; have GX := GN3; clear AN3 GN3
    refine wpAnyH_ready (rs := [17]) (by kernel_rfl) (by simp) ?_
    refine AllReadyH.cons (o := _) rfl (fun K hK => ?_) AllReadyH.nil
    go_simp
    refine (qTim x0 x1 x2 x3 x4 x5 x6 x7 x8 x9 x10 x11 x12 x13 x14 x15 x16 n f d m R2 HM.out HR2.out HX2.out HX5.out HX12.out HX14.out HD.out HN_.out HF.out _).mono ?_; rintro e' wN4 ⟨rfl, gN4⟩
    go_simp
    have gN4 := Gr.below gN4
    have AN4 := rowsBel1 AD gN4
    have GN4 := Below.trans GX (Below.mono gN4 (Below.size GX))
    refine hK.out _ _ AN4 (fun hH => ?_)
    clear hK K hH AD GX gN4
    have AD := AN4; have GX := GN4; clear AN4 GN4
    refine wpAnyH_take (i := 18) (oi := _) (v := .bool false) rfl (by kernel_rfl) (by kernel_rfl) (by kernel_rfl) (fun _ _ _ h => h) (Or.inl ⟨by rfl, fun W hS => by go_simp⟩) AD ?_
    simp [Act.put]
    refine wpAnyH_take (i := 19) (oi := _) (v := .bool false) rfl (by kernel_rfl) (by kernel_rfl) (by kernel_rfl) (fun _ _ _ h => h) (Or.inl ⟨by rfl, fun W hS => by go_simp⟩) AD ?_
    simp [Act.put]
    refine wpAnyH_done (by kernel_rfl) ?_ _
    go_wp2_with fail
    go_roundw
    case rel => exact ⟨.inr (.inl rfl), GX⟩
    case measure => simp [intOf]
  · have hidx : ∀ w, (Instr.index 34 (.agg #[.int .i64 x0, .int .u64 x1, .int .i64 x2, .int .u64 x3, .int .i64 x4, .int .u64 x5, .int .u64 x6, .int .u64 x7, .int .u64 x8, .int .i64 x9, .int .u64 x10, .int .u64 x11, .int .u64 x12, .int .u64 x13, .int .u64 x14, .int .i64 x15, .int .u64 x16, .int .i64 y0, .int .u64 y1, .int .i64 y2, .int .u64 y3, .int .i64 y4, .int .u64 y5, .int .u64 y6, .int .u64 y7, .int .u64 y8, .int .i64 y9, .int .u64 y10, .int .u64 y11, .int .u64 y12, .int .u64 y13, .int .u64 y14, .int .i64 y15, .int .u64 y16]) (.int .i64 1)).run Try.prog w = .ok (.agg #[.int .i64 y0, .int .u64 y1, .int .i64 y2, .int .u64 y3, .int .i64 y4, .int .u64 y5, .int .u64 y6, .int .u64 y7, .int .u64 y8, .int .i64 y9, .int .u64 y10, .int .u64 y11, .int .u64 y12, .int .u64 y13, .int .u64 y14, .int .i64 y15, .int .u64 y16]) w := fun _ => by kernel_rfl
    go_wp2_with (first | (refine wpList_load_all (by rfl) 24 _ rfl _ rfl _ _ _ _ (by repeat (first | (with_reducible exact RowIs.un r0) | (with_reducible exact RowIs.un r1) | (with_reducible exact RowIs.un r2) | (with_reducible exact RowIs.un r3) | (with_reducible exact RowIs.un r4) | (with_reducible refine heap_newS _ _ _ ?_; (first | (simp; done) | (simp; omega))) | with_reducible apply heap_gwS | with_reducible apply heap_drewNS | with_reducible apply heap_drewS | with_reducible apply heap_allocS)) Try.underlying24 rfl (by kernel_rfl) ?_) | (refine wpList_load_all (by rfl) 31 _ rfl _ rfl _ _ _ _ (by repeat (first | (with_reducible exact RowIs.un r0) | (with_reducible exact RowIs.un r1) | (with_reducible exact RowIs.un r2) | (with_reducible exact RowIs.un r3) | (with_reducible exact RowIs.un r4) | (with_reducible refine heap_newS _ _ _ ?_; (first | (simp; done) | (simp; omega))) | with_reducible apply heap_gwS | with_reducible apply heap_drewNS | with_reducible apply heap_drewS | with_reducible apply heap_allocS)) Try.underlying31 rfl (by kernel_rfl) ?_) | (refine wpList_store_newD rfl 24 _ _ rfl _ _ rfl rfl _ _ _ _ (by with_reducible rfl) (by first | (simp; done) | (simp; omega)) (by kernel_rfl) rfl (by first | kernel_rfl | simp [Value.oneCell'] | rfl) ?_) | (refine wpList_store_new rfl 24 _ _ rfl _ _ rfl rfl _ _ _ (by with_reducible rfl) (by first | (simp; done) | (simp; omega)) (by kernel_rfl) rfl (by first | kernel_rfl | simp [Value.oneCell'] | rfl) ?_) | (refine wpList_store_newD rfl 31 _ _ rfl _ _ rfl rfl _ _ _ _ (by with_reducible rfl) (by first | (simp; done) | (simp; omega)) (by kernel_rfl) rfl (by first | kernel_rfl | simp [Value.oneCell'] | rfl) ?_) | (refine wpList_store_new rfl 31 _ _ rfl _ _ rfl rfl _ _ _ (by with_reducible rfl) (by first | (simp; done) | (simp; omega)) (by kernel_rfl) rfl (by first | kernel_rfl | simp [Value.oneCell'] | rfl) ?_))
    clear hidx
    refine held_absB (S := fun W => RowIs W (wr.heap.size) 24 #[.int .i64 y0, .int .u64 y1, .int .i64 y2, .int .u64 y3, .int .i64 y4, .int .u64 y5, .int .u64 y6, .int .u64 y7, .int .u64 y8, .int .i64 y9, .int .u64 y10, .int .u64 y11, .int .u64 y12, .int .u64 y13, .int .u64 y14, .int .i64 y15, .int .u64 y16]) w (by kernel_rfl) (by refine RowIs.mk ?_; repeat (first | (with_reducible exact RowIs.un r0) | (with_reducible exact RowIs.un r1) | (with_reducible exact RowIs.un r2) | (with_reducible exact RowIs.un r3) | (with_reducible exact RowIs.un r4) | (with_reducible refine heap_newS _ _ _ ?_; (first | (simp; done) | (simp; omega))) | with_reducible apply heap_gwS | with_reducible apply heap_drewNS | with_reducible apply heap_drewS | with_reducible apply heap_allocS)) (by repeat (first | with_reducible exact G0 | with_reducible apply below_drewN | with_reducible apply Below.drew | with_reducible refine Below.alloc ?_ (by have := Below.size G0; first | exact this | (simp; done) | (simp; omega)) _ | with_reducible refine Below.setCell ?_ (by have := Below.size G0; first | exact this | (simp; done) | (simp; omega)) _)) (fun X AD GX => ?_)
    clear G0
    refine wpAnyH_take (i := 0) (oi := _) (v := .agg #[.int .i64 y0, .int .u64 y1, .int .i64 y2, .int .u64 y3, .int .i64 y4, .int .u64 y5, .int .u64 y6, .int .u64 y7, .int .u64 y8, .int .i64 y9, .int .u64 y10, .int .u64 y11, .int .u64 y12, .int .u64 y13, .int .u64 y14, .int .i64 y15, .int .u64 y16]) rfl (by kernel_rfl) (by kernel_rfl) (by kernel_rfl) (fun _ _ _ h => h) (Or.inl ⟨by rfl, fun W hS => by exact exec_load_row _ _ rfl _ rfl _ _ _ _ (hS) rfl rfl (by kernel_rfl)⟩) AD ?_
    simp [Act.put]
    refine wpAnyH_take (i := 1) (oi := _) (v := .int .u64 d) rfl (by kernel_rfl) (by kernel_rfl) (by kernel_rfl) (fun _ _ _ h => h) (Or.inl ⟨by rfl, fun W hS => by go_simp⟩) AD ?_
    simp [Act.put]
    refine wpAnyH_take (i := 3) (oi := _) (v := .agg #[.int .i64 y0, .int .u64 y1, .int .i64 y2, .int .u64 y3, .int .i64 y4, .int .u64 y5, .int .u64 y6, .int .u64 y7, .int .u64 y8, .int .i64 y9, .int .u64 y10, .int .u64 y11, .int .u64 y12, .int .u64 y13, .int .u64 y14, .int .i64 y15, .int .u64 y16]) rfl (by kernel_rfl) (by kernel_rfl) (by kernel_rfl) (fun _ _ _ h => h) (Or.inl ⟨by rfl, fun W hS => by exact exec_load_row _ _ rfl _ rfl _ _ _ _ (hS) rfl rfl (by kernel_rfl)⟩) AD ?_
    simp [Act.put]
    refine wpAnyH_take (i := 4) (oi := _) (v := .int .u64 d) rfl (by kernel_rfl) (by kernel_rfl) (by kernel_rfl) (fun _ _ _ h => h) (Or.inl ⟨by rfl, fun W hS => by go_simp⟩) AD ?_
    simp [Act.put]
    refine wpAnyH_ready (rs := [2]) (by kernel_rfl) (by simp) ?_
    refine AllReadyH.cons (o := _) rfl (fun K hK => ?_) AllReadyH.nil
    go_simp
    refine (jPer y0 y1 y2 y3 y4 y5 y6 y7 y8 y9 y10 y11 y12 y13 y14 y15 y16 d true R3 HMY.out HR3.out HY5.out HY12.out HY14.out HD.out _).mono ?_; rintro e' wN1 ⟨rfl, gN1⟩
    go_simp
    have gN1 := Gr.below gN1
    have AN1 := rowsBel1 AD gN1
    have GN1 := Below.trans GX (Below.mono gN1 (Below.size GX))
    refine hK.out _ _ AN1 (fun hH => ?_)
    clear hK K hH AD GX gN1
    have AD := AN1; have GX := GN1; clear AN1 GN1
    refine wpAnyH_ready (rs := [5]) (by kernel_rfl) (by simp) ?_
    refine AllReadyH.cons (o := _) rfl (fun K hK => ?_) AllReadyH.nil
    go_simp
    refine (qPer y0 y1 y2 y3 y4 y5 y6 y7 y8 y9 y10 y11 y12 y13 y14 y15 y16 d true R3 HMY.out HR3.out HY5.out HY12.out HY14.out HD.out _).mono ?_; rintro e' wN2 ⟨rfl, gN2⟩
    go_simp
    have gN2 := Gr.below gN2
    have AN2 := rowsBel1 AD gN2
    have GN2 := Below.trans GX (Below.mono gN2 (Below.size GX))
    refine hK.out _ _ AN2 (fun hH => ?_)
    clear hK K hH AD GX gN2
    have AD := AN2; have GX := GN2; clear AN2 GN2
    refine wpAnyH_take (i := 6) (oi := _) (v := .bool false) rfl (by kernel_rfl) (by kernel_rfl) (by kernel_rfl) (fun _ _ _ h => h) (Or.inl ⟨by rfl, fun W hS => by go_simp⟩) AD ?_
    simp [Act.put]
    refine wpAnyH_take (i := 7) (oi := _) (v := .bool false) rfl (by kernel_rfl) (by kernel_rfl) (by kernel_rfl) (fun _ _ _ h => h) (Or.inl ⟨by rfl, fun W hS => by go_simp⟩) AD ?_
    simp [Act.put]
    refine wpAnyH_take (i := 8) (oi := _) (v := .agg #[.int .i64 y0, .int .u64 y1, .int .i64 y2, .int .u64 y3, .int .i64 y4, .int .u64 y5, .int .u64 y6, .int .u64 y7, .int .u64 y8, .int .i64 y9, .int .u64 y10, .int .u64 y11, .int .u64 y12, .int .u64 y13, .int .u64 y14, .int .i64 y15, .int .u64 y16]) rfl (by kernel_rfl) (by kernel_rfl) (by kernel_rfl) (fun _ _ _ h => h) (Or.inl ⟨by rfl, fun W hS => by exact exec_load_row _ _ rfl _ rfl _ _ _ _ (hS) rfl rfl (by kernel_rfl)⟩) AD ?_
    simp [Act.put]
    refine wpAnyH_take (i := 9) (oi := _) (v := .int .i64 n) rfl (by kernel_rfl) (by kernel_rfl) (by kernel_rfl) (fun _ _ _ h => h) (Or.inl ⟨by rfl, fun W hS => by go_simp⟩) AD ?_
    simp [Act.put]
    refine wpAnyH_take (i := 10) (oi := _) (v := .int .i64 f) rfl (by kernel_rfl) (by kernel_rfl) (by kernel_rfl) (fun _ _ _ h => h) (Or.inl ⟨by rfl, fun W hS => by go_simp⟩) AD ?_
    simp [Act.put]
    refine wpAnyH_take (i := 11) (oi := _) (v := .int .u64 d) rfl (by kernel_rfl) (by kernel_rfl) (by kernel_rfl) (fun _ _ _ h => h) (Or.inl ⟨by rfl, fun W hS => by go_simp⟩) AD ?_
    simp [Act.put]
    refine wpAnyH_take (i := 13) (oi := _) (v := .agg #[.int .i64 y0, .int .u64 y1, .int .i64 y2, .int .u64 y3, .int .i64 y4, .int .u64 y5, .int .u64 y6, .int .u64 y7, .int .u64 y8, .int .i64 y9, .int .u64 y10, .int .u64 y11, .int .u64 y12, .int .u64 y13, .int .u64 y14, .int .i64 y15, .int .u64 y16]) rfl (by kernel_rfl) (by kernel_rfl) (by kernel_rfl) (fun _ _ _ h => h) (Or.inl ⟨by rfl, fun W hS => by exact exec_load_row _ _ rfl _ rfl _ _ _ _ (hS) rfl rfl (by kernel_rfl)⟩) AD ?_
    simp [Act.put]
    refine wpAnyH_take (i := 14) (oi := _) (v := .int .i64 n) rfl (by kernel_rfl) (by kernel_rfl) (by kernel_rfl) (fun _ _ _ h => h) (Or.inl ⟨by rfl, fun W hS => by go_simp⟩) AD ?_
    simp [Act.put]
    refine wpAnyH_take (i := 15) (oi := _) (v := .int .i64 f) rfl (by kernel_rfl) (by kernel_rfl) (by kernel_rfl) (fun _ _ _ h => h) (Or.inl ⟨by rfl, fun W hS => by go_simp⟩) AD ?_
    simp [Act.put]
    refine wpAnyH_take (i := 16) (oi := _) (v := .int .u64 d) rfl (by kernel_rfl) (by kernel_rfl) (by kernel_rfl) (fun _ _ _ h => h) (Or.inl ⟨by rfl, fun W hS => by go_simp⟩) AD ?_
    simp [Act.put]
    refine wpAnyH_ready (rs := [12]) (by kernel_rfl) (by simp) ?_
    refine AllReadyH.cons (o := _) rfl (fun K hK => ?_) AllReadyH.nil
    go_simp
    refine (jTim y0 y1 y2 y3 y4 y5 y6 y7 y8 y9 y10 y11 y12 y13 y14 y15 y16 n f d true R4 HMY.out HR4.out HY5.out HY12.out HY14.out HD.out HN_.out HF.out _).mono ?_; rintro e' wN3 ⟨rfl, gN3⟩
    go_simp
    have gN3 := Gr.below gN3
    have AN3 := rowsBel1 AD gN3
    have GN3 := Below.trans GX (Below.mono gN3 (Below.size GX))
    refine hK.out _ _ AN3 (fun hH => ?_)
    clear hK K hH AD GX gN3
    have AD := AN3; have GX := GN3; clear AN3 GN3
    refine wpAnyH_ready (rs := [17]) (by kernel_rfl) (by simp) ?_
    refine AllReadyH.cons (o := _) rfl (fun K hK => ?_) AllReadyH.nil
    go_simp
    refine (qTim y0 y1 y2 y3 y4 y5 y6 y7 y8 y9 y10 y11 y12 y13 y14 y15 y16 n f d true R4 HMY.out HR4.out HY2.out HY5.out HY12.out HY14.out HD.out HN_.out HF.out _).mono ?_; rintro e' wN4 ⟨rfl, gN4⟩
    go_simp
    have gN4 := Gr.below gN4
    have AN4 := rowsBel1 AD gN4
    have GN4 := Below.trans GX (Below.mono gN4 (Below.size GX))
    refine hK.out _ _ AN4 (fun hH => ?_)
    clear hK K hH AD GX gN4
    have AD := AN4; have GX := GN4; clear AN4 GN4
    refine wpAnyH_take (i := 18) (oi := _) (v := .bool false) rfl (by kernel_rfl) (by kernel_rfl) (by kernel_rfl) (fun _ _ _ h => h) (Or.inl ⟨by rfl, fun W hS => by go_simp⟩) AD ?_
    simp [Act.put]
    refine wpAnyH_take (i := 19) (oi := _) (v := .bool false) rfl (by kernel_rfl) (by kernel_rfl) (by kernel_rfl) (fun _ _ _ h => h) (Or.inl ⟨by rfl, fun W hS => by go_simp⟩) AD ?_
    simp [Act.put]
    refine wpAnyH_done (by kernel_rfl) ?_ _
    go_wp2_with fail
    go_roundw
    case rel => exact ⟨.inr (.inr rfl), GX⟩
    case measure => simp [intOf]
  · go_wp2_with fail
    go_ret
    exact ⟨rfl, G0⟩

theorem walk (cs0 : Array Value) (a1 : Option Addr) (len1 cap1 : Nat) (z1 : List Int) (n f d : Int) (w : World) (w0 : Fits [some .i64, some .u64, some .i64, some .u64, some .i64, some .u64, some .u64, some .u64, some .u64, some .i64, some .u64, some .u64, some .u64, some .u64, some .u64, some .i64, some .u64] cs0.toList) (w1 : IsRow .u32 w a1 len1 cap1 z1) (w2 : -9223372036854775808 ≤ n ∧ n ≤ 9223372036854775807) (w3 : -9223372036854775808 ≤ f ∧ f ≤ 9223372036854775807) (w4 : W64 d) :
    Calls Try.prog 14 #[.agg cs0, .slice a1 len1 cap1, .int .i64 n, .int .i64 f, .int .u64 d] w fun e w' => e = .returned (.bool true) ∧ Below w.heap.size w w' := by
  obtain ⟨x0, x1, x2, x3, x4, x5, x6, x7, x8, x9, x10, x11, x12, x13, x14, x15, x16, rfl, h5, h6, h12, h14, h2⟩ := openConfJ w0
  have hnm := nums_of_row w1
  have hma := confI_made (atF len1 (fun i => z1.getD i 0)) (fun i => hnm.atF i)
  have hzc : ∀ w, Nums w a1 len1 (fun i => z1.getD i 0) → _ := fun w h => zConf a1 len1 cap1 (fun i => z1.getD i 0) w h
  have hb : ∀ i, 0 ≤ atF len1 (fun i => z1.getD i 0) i ∧ atF len1 (fun i => z1.getD i 0) i ≤ 4294967295 := fun i => hnm.atF i
  have b0 := hb 0; have b1 := hb 1; have b2 := hb 2; have b3 := hb 3; have b4 := hb 4; have b5 := hb 5; have b6 := hb 6; have b7 := hb 7; have b8 := hb 8; have b9 := hb 9; have b10 := hb 10; have b11 := hb 11; have b12 := hb 12; have b13 := hb 13; have b14 := hb 14
  exact (walkN x0 x1 x2 x3 x4 x5 x6 x7 x8 x9 x10 x11 x12 x13 x14 x15 x16 (cf0 (atF len1 (fun i => z1.getD i 0))) (cf1 (atF len1 (fun i => z1.getD i 0))) (cf2 (atF len1 (fun i => z1.getD i 0))) (cf3 (atF len1 (fun i => z1.getD i 0))) (cf4 (atF len1 (fun i => z1.getD i 0))) (cf5 (atF len1 (fun i => z1.getD i 0))) (cf6 (atF len1 (fun i => z1.getD i 0))) (cf7 (atF len1 (fun i => z1.getD i 0))) (cf8 (atF len1 (fun i => z1.getD i 0))) (cf9 (atF len1 (fun i => z1.getD i 0))) (cf10 (atF len1 (fun i => z1.getD i 0))) (cf11 (atF len1 (fun i => z1.getD i 0))) (cf12 (atF len1 (fun i => z1.getD i 0))) (cf13 (atF len1 (fun i => z1.getD i 0))) (cf14 (atF len1 (fun i => z1.getD i 0))) (cf15 (atF len1 (fun i => z1.getD i 0))) (cf16 (atF len1 (fun i => z1.getD i 0))) n f d a1 len1 cap1 (fun i => z1.getD i 0) _ _ _ _ _ w rfl (by rw [hma]; rfl) rfl rfl rfl rfl h5 h12 h14 h2 (by unfold cf5 W64; omega) (by unfold cf12 W64; omega) (by unfold cf14 W64; omega) (by unfold cf2; omega) w2 w3 w4 hnm (Lib.hid hzc)).mono fun _ _ h => ⟨h.1, h.2⟩

/-! ### the row's step -/
set_option maxRecDepth 100000 in
theorem lifted (os : Os) (started : os.Started) (H : Type) (enc : TypeId × Value → H) :
    ReturnsInHanded {} Try.checked os 14 .any (Rows.judgeTimesSpec.pre6 enc Try.prog Try.f14 Rows.judgeTimesRow.domain false) (Rows.judgeTimesSpec.post enc Try.prog Try.f14 false true false false) := by
  refine returnsInHanded_of_change (C := Try.checked) own started (by kernel_rfl) Try.func14
    (ChangeSpec.witness6 (enc := enc) (C := Try.checked) false ⟨#[], #[.agg #[.int .i64 0, .int .u64 0, .int .i64 0, .int .u64 0, .int .i64 0, .int .u64 0, .int .u64 0, .int .u64 0, .int .u64 0, .int .i64 0, .int .u64 0, .int .u64 0, .int .u64 0, .int .u64 0, .int .u64 0, .int .i64 0, .int .u64 0], .slice none 0 0, .int .i64 0, .int .i64 0, .int .u64 0], []⟩ 8 (by kernel_rfl) (by kernel_rfl) (by kernel_rfl) (by kernel_rfl)) ?_
  intro W base args ds gs before hval0 hW hcnd _
  have hval : ∀ (j : Nat) t v, Try.f14.params[j]? = some t → args[j]? = some v → Value.okWide Try.prog W .any base t v := hval0
  have hW' := hW
  obtain ⟨p, q, hA0, hV, rfl, hfz, hnd⟩ := hW
  have hA : DataW.TrodAll enc Try.prog W 0 (fun _ => true) true Try.f14.params.toList args.toList ds p := hA0
  rw [Try.params14] at hA hval
  obtain ⟨v0, vs0, d0, ds0, p0, q0, hargs, rfl, rfl, h0, r0⟩ := trodAll_cons hA
  obtain ⟨v1, vs1, d1, ds1, p1, q1, rfl, rfl, rfl, h1, r1⟩ := trodAll_cons r0
  obtain ⟨v2, vs2, d2, ds2, p2, q2, rfl, rfl, rfl, h2, r2⟩ := trodAll_cons r1
  obtain ⟨v3, vs3, d3, ds3, p3, q3, rfl, rfl, rfl, h3, r3⟩ := trodAll_cons r2
  obtain ⟨v4, vs4, d4, ds4, p4, q4, rfl, rfl, rfl, h4, r4⟩ := trodAll_cons r3
  obtain ⟨rfl, rfl, rfl⟩ := trodAll_nil r4
  obtain rfl : args = #[v0, v1, v2, v3, v4] := by cases args; simp_all
  obtain ⟨rfl, rfl⟩ := trodVars_none hV
  obtain ⟨cs0, rfl, hsz0⟩ := okWide_struct Try.underlying24 (hval 0 24 v0 rfl rfl)
  have k0 := h0
  have lt0 : ∀ x ∈ p0, x.block < W.heap.size := by obtain ⟨m, hm⟩ := k0; exact DataW.trod_lt m _ _ _ hm
  have w0 : Fits [some .i64, some .u64, some .i64, some .u64, some .i64, some .u64, some .u64, some .u64, some .u64, some .i64, some .u64, some .u64, some .u64, some .u64, some .u64, some .i64, some .u64] cs0.toList := by
    obtain ⟨fuel, hf⟩ := h0
    exact fits_of_trod 8 24 _ fuel _ _ (by kernel_rfl) (by simpa [Value.cells] using hf)
  obtain ⟨a1, len1, cap1, rfl⟩ := okWide_slice Try.underlying25 (hval 1 25 v1 rfl rfl)
  have k1 := h1
  have lt1 : ∀ x ∈ p1, x.block < W.heap.size := by obtain ⟨m, hm⟩ := k1; exact DataW.trod_lt m _ _ _ hm
  obtain ⟨z1, w1⟩ : ∃ zs, IsRow .u32 W a1 len1 cap1 zs := by
    obtain ⟨fuel, hf⟩ := h1
    rcases open_ints Try.underlying25 Try.underlying45 (by kernel_rfl) hf with ⟨hcs, _⟩ | ⟨x, l, c, zs, hcs, _, hl, hm, hz, _, hcell, hwz⟩
    · simp [Value.cells] at hcs
      obtain ⟨rfl, rfl, rfl⟩ := hcs
      exact ⟨[], .inl ⟨rfl, rfl, rfl, rfl⟩⟩
    · simp [Value.cells] at hcs
      obtain ⟨rfl, rfl, rfl⟩ := hcs
      exact ⟨zs, .inr ⟨_, rfl, hl, hm, by simpa using hz, hcell, hwz⟩⟩
  obtain ⟨a2, rfl, rfl, rfl, w2⟩ := open_int Try.underlying3 (hval 2 3 v2 rfl rfl) h2
  obtain ⟨a3, rfl, rfl, rfl, w3⟩ := open_int Try.underlying3 (hval 3 3 v3 rfl rfl) h3
  obtain ⟨a4, rfl, rfl, rfl, w4⟩ := open_int Try.underlying22 (hval 4 22 v4 rfl rfl) h4
  clear hA0 hval0
  refine (walk cs0 a1 len1 cap1 z1 a2 a3 a4 W w0 w1 (wfI64 w2) (wfI64 w3) (wfU64 w4)).mono fun e W' ⟨he, bel⟩ => ?_
  subst he
  exact ⟨_, rfl, _, _, _, [], _, [], hW', trodAll_mk1 (shut_bool Try.underlying4 _), (trodAll_cons_mk (Below.trod laidOut (by kernel_rfl) (of_decide_eq_true (by kernel_rfl)) k0 bel lt0) (trodAll_cons_mk (Below.trod laidOut (by kernel_rfl) (of_decide_eq_true (by kernel_rfl)) k1 bel lt1) (trodAll_cons_mk (shut_int Try.underlying3 w2) (trodAll_cons_mk (shut_int Try.underlying3 w3) (trodAll_cons_mk (shut_int Try.underlying22 w4) trodAll_mk0))))), rfl, bel.frame _, fun h => by cases h⟩

theorem over : Rows.judgeTimesRow.holds Try.pinned (OpenSpec.ofChange Rows.judgeTimesSpec) :=
  OpenClaim.holds_of_wide 14 Try.f14 rfl rfl rfl rfl rfl rfl rfl ⟨rfl, rfl, rfl, rfl, rfl⟩ rfl rfl rfl rfl rfl (by kernel_rfl) Try.func14 (by kernel_rfl)
    (of_decide_eq_true (by kernel_rfl)) (by unfold Func.isWrapper; first | (rw [if_pos (by decide +kernel)]; kernel_rfl) | (rw [if_neg (by decide +kernel)]; exact ⟨rfl, rfl⟩))
    (fun os started H enc _ => lifted os started H enc)

/-- THE STATEMENT -/
theorem proved : Rows.JudgeTimesSaid := over
end Go.Proofs.Ytikkmdbaekdolaa.judgeTimes
