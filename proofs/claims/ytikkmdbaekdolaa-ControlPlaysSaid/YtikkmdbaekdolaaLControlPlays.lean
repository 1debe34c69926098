/- For all slices k of 32-bit numbers and l of events, ControlPlays returns true: the window stays within its bounds, grows by no more than what was acknowledged, and a round has one cut. No condition. -/
import Derived.Test.YtikkmdbaekdolaaBase
import Derived.Test.YtikkmdbaekdolaaAliveCtrl
import Derived.Test.YtikkmdbaekdolaaCtrl3
import Derived.Test.YtikkmdbaekdolaaCtrl4
import Derived.Test.YtikkmdbaekdolaaCtrlL
import Derived.Test.YtikkmdbaekdolaaSetRow
import Derived.Test.YtikkmdbaekdolaaConf0
import Derived.Test.YtikkmdbaekdolaaRowsF
namespace Go.Proofs.Ytikkmdbaekdolaa.controlPlays
open Go.ChangeShapes Go.WideShapes Go.ChangeAt Go.RowKit Go.Lib
set_option linter.unusedVariables false
set_option maxRecDepth 100000

theorem ack_C (m : Bool) (al ms lo hi z n s : Int) (S : W9) : (ackW m al ms lo hi z n s S).C = S.C := by
  unfold ackW
  repeat' split
  all_goals rfl

theorem cf5_W {w : World} {a : Option Addr} {len : Nat} {z : Nat → Int} (h : Nums w a len z) : W64 (cf5 (atF len z)) := by
  have := h.atF 0
  unfold cf5 W64
  omega

set_option maxHeartbeats 16000000 in
theorem walkLong (y0 y1 y2 y3 y4 y5 y6 y7 y8 y9 y10 y11 y12 y13 y14 y15 y16 : Int) (ka : Option Addr) (klen kcap : Nat) (z : Nat → Int) (b off len cap : Nat) (K Z V P : Nat → Int) (S0 : W9) (w : World) (h1 : len ≤ 300) (hb : b < w.heap.size)
    (hcell : ∀ i, i < len → w.cell? ⟨b, off + i * 4, none⟩ = some (.int .u8 (K i)) ∧ w.cell? ⟨b, off + i * 4 + 1, none⟩ = some (.int .u16 (Z i)) ∧ w.cell? ⟨b, off + i * 4 + 2, none⟩ = some (.int .u16 (V i)) ∧ w.cell? ⟨b, off + i * 4 + 3, none⟩ = some (.int .u64 (P i)))
    (hwz : ∀ i, i < len → (0 ≤ K i ∧ K i ≤ 255) ∧ (0 ≤ Z i ∧ Z i ≤ 65535) ∧ (0 ≤ V i ∧ V i ≤ 65535) ∧ W64 (P i))
    (hmy : (confI y0 y1 y2 y3 y4 y5 y6 y7 y8 y9 y10 y11 y12 y13 y14 y15 y16 == 0) = true) (h5y : W64 y5) (hy : MayK y9 y5 y7 y8) (hf : W64 y10) (hn : Nums w ka klen z) (hs0 : staW true y6 = S0) (hp0 : PlayK y9 y5 y7 y8 S0 y6 0 0 0) (hc0 : S0.C = 0)
    (HC0 : Hid (∀ w, Nums w ka klen z → Calls Try.prog 16 #[.slice ka klen kcap] w fun e w' => e = .returned (.agg #[.int .i64 y0, .int .u64 y1, .int .i64 y2, .int .u64 y3, .int .i64 y4, .int .u64 y5, .int .u64 y6, .int .u64 y7, .int .u64 y8, .int .i64 y9, .int .u64 y10, .int .u64 y11, .int .u64 y12, .int .u64 y13, .int .u64 y14, .int .i64 y15, .int .u64 y16]) ∧ Gr w w')) :
    Calls Try.prog 9 #[.slice ka klen kcap, .slice (some ⟨b, off, none⟩) len cap] w fun e w' => e = .returned (.bool true) ∧ Below w.heap.size w w' := by
  have e1 : (len : Int) ≤ 300 := by omega
  have HC := Lib.hid hcell
  have HZ := Lib.hid hwz
  have HMY := Lib.hid hmy
  have H5Y := Lib.hid h5y
  have HY := Lib.hid hy
  have HF := Lib.hid hf
  have HN := Lib.hid hn
  have HS0 := Lib.hid hs0
  have HP0 := Lib.hid hp0
  have HC0' := Lib.hid hc0
  clear hcell hwz hmy h5y hy hf hn hs0 hp0 hc0
  go_enter Try.func9, Try.ntmps9
  go_wp2_with fail
  ((with_reducible refine (HC0.out _ (Nums.below HN.out (Gr.below (by repeat (first | assumption | exact Gr.refl _ | apply Gr.drewN | apply Gr.drew | apply Gr.gw | apply Gr.alloc))))).mono ?_); rintro e' w1 ⟨rfl, g1⟩)
  have G1 := Gr.trans (show Gr w _ from by repeat (first | assumption | exact Gr.refl _ | apply Gr.drewN | apply Gr.drew | apply Gr.gw | apply Gr.alloc)) g1
  clear g1
  go_wp2_with (first | (refine wpList_store_newD rfl 24 _ _ rfl _ _ rfl rfl _ _ _ _ (by with_reducible rfl) (by first | (simp; done) | (simp; omega)) (by kernel_rfl) rfl (by first | kernel_rfl | simp [Value.oneCell'] | rfl) ?_) | (refine wpList_store_new rfl 24 _ _ rfl _ _ rfl rfl _ _ _ (by with_reducible rfl) (by first | (simp; done) | (simp; omega)) (by kernel_rfl) rfl (by first | kernel_rfl | simp [Value.oneCell'] | rfl) ?_))
  ((with_reducible refine (aliveCtrl _).mono ?_); rintro e' w2 ⟨rfl, g2⟩)
  have r5 := RowIs.gr (show RowIs _ (w1.heap.size) 24 #[.int .i64 y0, .int .u64 y1, .int .i64 y2, .int .u64 y3, .int .i64 y4, .int .u64 y5, .int .u64 y6, .int .u64 y7, .int .u64 y8, .int .i64 y9, .int .u64 y10, .int .u64 y11, .int .u64 y12, .int .u64 y13, .int .u64 y14, .int .i64 y15, .int .u64 y16] from by refine RowIs.mk ?_; repeat (first | (with_reducible exact RowIs.un r5) | (with_reducible refine heap_newS _ _ _ ?_; (first | (simp; done) | (simp; omega))) | with_reducible apply heap_gwS | with_reducible apply heap_drewNS | with_reducible apply heap_drewS | with_reducible apply heap_allocS)) g2
  have G2 := Gr.trans (show Gr w _ from by repeat (first | assumption | exact Gr.refl _ | apply Gr.drewN | apply Gr.drew | apply Gr.gw | apply Gr.alloc)) g2
  have hsz1 : w.heap.size ≤ w1.heap.size := G1.size
  clear g2 G1
  have c6 := r5.cell 6
  simp at c6
  go_wp2_with (first | (refine wpList_load_all (by rfl) 24 _ rfl _ rfl _ _ _ _ (by repeat (first | (with_reducible exact RowIs.un r5) | (with_reducible exact RowIs.un r6) | (with_reducible refine heap_newS _ _ _ ?_; (first | (simp; done) | (simp; omega))) | with_reducible apply heap_gwS | with_reducible apply heap_drewNS | with_reducible apply heap_drewS | with_reducible apply heap_allocS)) Try.underlying24 rfl (by kernel_rfl) ?_))
  ((with_reducible refine (nSta y0 y1 y2 y3 y4 y5 y6 y7 y8 y9 y10 y11 y12 y13 y14 y15 y16 S0 true HMY.out HS0.out H5Y.out _).mono ?_); rintro e' w3 ⟨rfl, g3⟩)
  have hB56 : w1.heap.size < w3.heap.size := Nat.lt_of_lt_of_le r5.lt g3.size
  have hB6 : w.heap.size ≤ w3.heap.size := by omega
  have r5n := RowIs.gr r5 g3
  have G3 := Gr.trans G2 g3
  clear r5 G2 g3 c6
  have r5 := r5n
  clear r5n
  have c6 := r5.cell 6
  simp at c6
  have l5 := r5.lt
  go_wp2_with (first | (refine wpList_store_newD rfl 31 _ _ rfl _ _ rfl rfl _ _ _ _ (by with_reducible rfl) (by first | (simp; done) | (simp; omega)) (by kernel_rfl) rfl (by first | kernel_rfl | simp [Value.oneCell'] | rfl) ?_) | (refine wpList_store_new rfl 31 _ _ rfl _ _ rfl rfl _ _ _ (by with_reducible rfl) (by first | (simp; done) | (simp; omega)) (by kernel_rfl) rfl (by first | kernel_rfl | simp [Value.oneCell'] | rfl) ?_))
  go_loopw [7, 8, 9, 10, 31] (fun most now nxt cuts i wr => ∃ (k : Nat) (S : W9) (M N X : Int), i = .int .i64 (k : Int) ∧ k ≤ len ∧ most = .int .u64 M ∧ now = .int .u64 N ∧ nxt = .int .u64 X ∧ cuts = .int .u64 S.C ∧ PlayK y9 y5 y7 y8 S M N X k ∧
      RowIs wr (w1.heap.size) 24 #[.int .i64 y0, .int .u64 y1, .int .i64 y2, .int .u64 y3, .int .i64 y4, .int .u64 y5, .int .u64 y6, .int .u64 y7, .int .u64 y8, .int .i64 y9, .int .u64 y10, .int .u64 y11, .int .u64 y12, .int .u64 y13, .int .u64 y14, .int .i64 y15, .int .u64 y16] ∧ RowIs wr (w3.heap.size) 31 #[.int .u64 S.c, .int .u64 S.t, .int .u64 S.a, .int .u64 S.p, .int .u64 S.e, .int .u64 S.k, .int .u64 S.f, .int .u64 S.E, .int .u64 S.C] ∧ Below w.heap.size w wr) (fun _ _ _ _ i _ => (len - intOf i).toNat)
  case atStart => exact ⟨0, S0, y6, 0, 0, by first | rfl | simp, by omega, by first | rfl | simp, by first | rfl | simp, by first | rfl | simp, by rw [HC0'.out], HP0.out, by refine RowIs.mk ?_; repeat (first | (with_reducible exact RowIs.un r5) | (with_reducible exact RowIs.un r6) | (with_reducible refine heap_newS _ _ _ ?_; (first | (simp; done) | (simp; omega))) | with_reducible apply heap_gwS | with_reducible apply heap_drewNS | with_reducible apply heap_drewS | with_reducible apply heap_allocS), by refine RowIs.mk ?_; repeat (first | (with_reducible exact RowIs.un r5) | (with_reducible exact RowIs.un r6) | (with_reducible refine heap_newS _ _ _ ?_; (first | (simp; done) | (simp; omega))) | with_reducible apply heap_gwS | with_reducible apply heap_drewNS | with_reducible apply heap_drewS | with_reducible apply heap_allocS), Gr.below (by repeat (first | assumption | exact Gr.refl _ | apply Gr.drewN | apply Gr.drew | apply Gr.gw | apply Gr.alloc))⟩
  case round =>
    clear r5 G3 c6 l5 HC0
    obtain ⟨k, S, M, N, X, rfl, hk, rfl, rfl, rfl, rfl, hp, r5, r6, hbel⟩ := hrel
    have HP := Lib.hid hp
    have HBel := Lib.hid hbel
    have m1 : M ≤ 1000 + 65535 * k := hp.m
    have m2 : M ≤ 20000000 := by omega
    have m0 : 0 ≤ M := by have := hp.cm; have := hp.ok.c.1; omega
    have n0 : 0 ≤ N := hp.n.1
    have n2 : N ≤ 20000000 := by have := hp.n.2; omega
    have x0 : 0 ≤ X := hp.x.1
    have x2 : X ≤ 2000 := by have := hp.x.2; omega
    have dc0 : 0 ≤ S.C := hp.d.1
    have dc1 : S.C ≤ 300 := by have := hp.d.2; omega
    clear hp hbel m1
    by_cases hlt : k < len
    · have hltI : (k : Int) < (len : Int) := by omega
      obtain ⟨⟨q0, q1⟩, ⟨z0, z1⟩, ⟨v0, v1⟩, hpw⟩ := HZ.out k hlt
      have p0 : 0 ≤ P k := hpw.1
      have p1 : P k ≤ 18446744073709551615 := hpw.2
      have hx5 : 0 ≤ X + Z k % 5 := by omega
      have hx6 : 0 < X + Z k % 5 + 1 := by omega
      have hx7 : X + Z k % 5 + 1 ≤ 3000 := by omega
      have hz5 : 0 ≤ Z k % 5 := by omega
      have hz6 : Z k % 5 ≤ 4 := by omega
      have hnz : (X + Z k % 5 + 1 == 0) = false := by rw [beq_eq_false_iff_ne]; omega
      clear hpw
      have k0 : wr.cell? ⟨b, off + k * 4, none⟩ = some (.int .u8 (K k)) := (by rw [HBel.out.cell hb]; exact (HC.out k hlt).1)
      have k1 : wr.cell? ⟨b, off + k * 4 + 1, none⟩ = some (.int .u16 (Z k)) := (by rw [HBel.out.cell hb]; exact (HC.out k hlt).2.1)
      have k2 : wr.cell? ⟨b, off + k * 4 + 2, none⟩ = some (.int .u16 (V k)) := (by rw [HBel.out.cell hb]; exact (HC.out k hlt).2.2.1)
      have k3 : wr.cell? ⟨b, off + k * 4 + 3, none⟩ = some (.int .u64 (P k)) := (by rw [HBel.out.cell hb]; exact (HC.out k hlt).2.2.2)
      have d0 := r6.cell 0
      have d1 := r6.cell 1
      have d2 := r6.cell 2
      have d3 := r6.cell 3
      have d4 := r6.cell 4
      have d5 := r6.cell 5
      have d6 := r6.cell 6
      have d7 := r6.cell 7
      have d8 := r6.cell 8
      simp at d0 d1 d2 d3 d4 d5 d6 d7 d8
      have c7 := r5.cell 7
      have c8 := r5.cell 8
      have c10 := r5.cell 10
      simp at c7 c8 c10
      have hb2 : b < wr.heap.size := (by have := HBel.out.size; omega)
      have l5 := r5.lt
      have l6 := r6.lt
      rcases (by omega : K k % 6 = 0 ∨ K k % 6 = 1 ∨ K k % 6 = 2 ∨ K k % 6 = 3 ∨ K k % 6 = 4 ∨ K k % 6 = 5) with hr | hr | hr | hr | hr | hr
      · as_aux_lemma =>
          have hpl := HP.out.ack HY.out (by omega) (Z k) (V k) (Z k % 5) y10 ⟨z0, z1⟩ ⟨v0, v1⟩ ⟨by omega, by omega⟩ HF.out
          obtain ⟨T, hT⟩ : ∃ T, ackW true y9 y5 y7 y8 (Z k) (N + V k) y10 S = T := ⟨_, rfl⟩
          rw [hT] at hpl
          have HT := Lib.hid hT
          clear hT
          have HPL := Lib.hid hpl
          have HTC := Lib.hid (show T.C = S.C by rw [← HT.out]; exact ack_C _ _ _ _ _ _ _ _ _)
          clear hpl
          have i1 := HPL.out.c0
          have i2 := HPL.out.c1
          have i3 := HPL.out.cm
          have i4 := HPL.out.t0
          go_wp2_with fail
          refine region_tail 11 (by kernel_rfl) (by kernel_rfl) ?_
          simp only [List.take_succ_cons, List.take_zero, List.drop_succ_cons, List.drop_zero]
          refine wpStill_load_row rfl 24 _ rfl _ rfl _ _ _ r5.drew Try.underlying24 rfl (by kernel_rfl) ?_
          refine wpStill_load_row rfl 31 _ rfl _ rfl _ _ _ r6.drew Try.underlying31 rfl (by kernel_rfl) ?_
          simp [Act.put]
          repeat still_step
          refine wpStill_nil ?_
          go_wp2_with fail
          ((with_reducible refine (nAck y0 y1 y2 y3 y4 y5 y6 y7 y8 y9 y10 y11 y12 y13 y14 y15 y16 S.c S.t S.a S.p S.e S.k S.f S.E S.C (Z k) (N + V k) y10 T true HMY.out HT.out H5Y.out HP.out.ok (Wlit (by omega)) (Wlit (by omega)) HF.out _).mono ?_); rintro e' w4 ⟨rfl, g4⟩)
          have r5n := RowIs.gr (show RowIs _ (w1.heap.size) 24 #[.int .i64 y0, .int .u64 y1, .int .i64 y2, .int .u64 y3, .int .i64 y4, .int .u64 y5, .int .u64 y6, .int .u64 y7, .int .u64 y8, .int .i64 y9, .int .u64 y10, .int .u64 y11, .int .u64 y12, .int .u64 y13, .int .u64 y14, .int .i64 y15, .int .u64 y16] from by refine RowIs.mk ?_; repeat (first | (with_reducible exact RowIs.un r5) | (with_reducible exact RowIs.un r6) | (with_reducible refine heap_newS _ _ _ ?_; (first | (simp; done) | (simp; omega))) | with_reducible apply heap_gwS | with_reducible apply heap_drewNS | with_reducible apply heap_drewS | with_reducible apply heap_allocS)) g4
          have r6n := RowIs.gr (show RowIs _ (w3.heap.size) 31 #[.int .u64 S.c, .int .u64 S.t, .int .u64 S.a, .int .u64 S.p, .int .u64 S.e, .int .u64 S.k, .int .u64 S.f, .int .u64 S.E, .int .u64 S.C] from by refine RowIs.mk ?_; repeat (first | (with_reducible exact RowIs.un r5) | (with_reducible exact RowIs.un r6) | (with_reducible refine heap_newS _ _ _ ?_; (first | (simp; done) | (simp; omega))) | with_reducible apply heap_gwS | with_reducible apply heap_drewNS | with_reducible apply heap_drewS | with_reducible apply heap_allocS)) g4
          have beln := Lib.hid (Below.trans (show Below w.heap.size w _ by repeat (first | with_reducible exact HBel.out | with_reducible apply below_drewN | with_reducible apply Below.drew)) (g4.below.mono (by have := HBel.out.size; first | exact this | (simp; omega))))
          clear k0 k1 k2 k3 d0 d1 d2 d3 d4 d5 d6 d7 d8 c7 c8 c10 hb2 l5 l6
          clear r5 r6 HBel g4
          have r5 := r5n
          have r6 := r6n
          have HBel := beln
          clear r5n r6n beln
          go_wp2_with (refine wpList_store_abs rfl 31 _ _ rfl _ _ rfl rfl _ _ r6 (by kernel_rfl) rfl (by first | kernel_rfl | simp [Value.oneCell'] | rfl) ?_; intro w5 ST; have r5n := ST.other r5 (Nat.ne_of_gt hB56); have r6n := ST.row; have beln := Lib.hid (ST.below HBel.out hB6); clear ST r5 r6 HBel; have r5 := r5n; have r6 := r6n; have HBel := beln; clear r5n r6n beln; have k0 : w5.cell? ⟨b, off + k * 4, none⟩ = some (.int .u8 (K k)) := (by rw [HBel.out.cell hb]; exact (HC.out k hlt).1); have k1 : w5.cell? ⟨b, off + k * 4 + 1, none⟩ = some (.int .u16 (Z k)) := (by rw [HBel.out.cell hb]; exact (HC.out k hlt).2.1); have k2 : w5.cell? ⟨b, off + k * 4 + 2, none⟩ = some (.int .u16 (V k)) := (by rw [HBel.out.cell hb]; exact (HC.out k hlt).2.2.1); have k3 : w5.cell? ⟨b, off + k * 4 + 3, none⟩ = some (.int .u64 (P k)) := (by rw [HBel.out.cell hb]; exact (HC.out k hlt).2.2.2); have d0 := r6.cell 0; have d1 := r6.cell 1; have d2 := r6.cell 2; have d3 := r6.cell 3; have d4 := r6.cell 4; have d5 := r6.cell 5; have d6 := r6.cell 6; have d7 := r6.cell 7; have d8 := r6.cell 8; simp at d0 d1 d2 d3 d4 d5 d6 d7 d8; have c7 := r5.cell 7; have c8 := r5.cell 8; have c10 := r5.cell 10; simp at c7 c8 c10; have hb2 : b < w5.heap.size := (by have := HBel.out.size; omega); have l5 := r5.lt; have l6 := r6.lt)
          go_roundw
          case rel => exact ⟨k + 1, T, M + Z k, N + V k, (X + Z k % 5), by congr 1, by omega, by first | rfl | congr 1, by first | rfl | congr 1, by first | rfl | congr 1, by first | rfl | (rw [HTC.out]), HPL.out, r5, r6, HBel.out⟩
          case measure => simp only [intOf]; omega
      · as_aux_lemma =>
          have hpl := HP.out.ack HY.out (by omega) (Z k) (V k) (Z k % 5) y10 ⟨z0, z1⟩ ⟨v0, v1⟩ ⟨by omega, by omega⟩ HF.out
          obtain ⟨T, hT⟩ : ∃ T, ackW true y9 y5 y7 y8 (Z k) (N + V k) y10 S = T := ⟨_, rfl⟩
          rw [hT] at hpl
          have HT := Lib.hid hT
          clear hT
          have HPL := Lib.hid hpl
          have HTC := Lib.hid (show T.C = S.C by rw [← HT.out]; exact ack_C _ _ _ _ _ _ _ _ _)
          clear hpl
          have i1 := HPL.out.c0
          have i2 := HPL.out.c1
          have i3 := HPL.out.cm
          have i4 := HPL.out.t0
          go_wp2_with fail
          refine region_tail 11 (by kernel_rfl) (by kernel_rfl) ?_
          simp only [List.take_succ_cons, List.take_zero, List.drop_succ_cons, List.drop_zero]
          refine wpStill_load_row rfl 24 _ rfl _ rfl _ _ _ r5.drew Try.underlying24 rfl (by kernel_rfl) ?_
          refine wpStill_load_row rfl 31 _ rfl _ rfl _ _ _ r6.drew Try.underlying31 rfl (by kernel_rfl) ?_
          simp [Act.put]
          repeat still_step
          refine wpStill_nil ?_
          go_wp2_with fail
          ((with_reducible refine (nAck y0 y1 y2 y3 y4 y5 y6 y7 y8 y9 y10 y11 y12 y13 y14 y15 y16 S.c S.t S.a S.p S.e S.k S.f S.E S.C (Z k) (N + V k) y10 T true HMY.out HT.out H5Y.out HP.out.ok (Wlit (by omega)) (Wlit (by omega)) HF.out _).mono ?_); rintro e' w4 ⟨rfl, g4⟩)
          have r5n := RowIs.gr (show RowIs _ (w1.heap.size) 24 #[.int .i64 y0, .int .u64 y1, .int .i64 y2, .int .u64 y3, .int .i64 y4, .int .u64 y5, .int .u64 y6, .int .u64 y7, .int .u64 y8, .int .i64 y9, .int .u64 y10, .int .u64 y11, .int .u64 y12, .int .u64 y13, .int .u64 y14, .int .i64 y15, .int .u64 y16] from by refine RowIs.mk ?_; repeat (first | (with_reducible exact RowIs.un r5) | (with_reducible exact RowIs.un r6) | (with_reducible refine heap_newS _ _ _ ?_; (first | (simp; done) | (simp; omega))) | with_reducible apply heap_gwS | with_reducible apply heap_drewNS | with_reducible apply heap_drewS | with_reducible apply heap_allocS)) g4
          have r6n := RowIs.gr (show RowIs _ (w3.heap.size) 31 #[.int .u64 S.c, .int .u64 S.t, .int .u64 S.a, .int .u64 S.p, .int .u64 S.e, .int .u64 S.k, .int .u64 S.f, .int .u64 S.E, .int .u64 S.C] from by refine RowIs.mk ?_; repeat (first | (with_reducible exact RowIs.un r5) | (with_reducible exact RowIs.un r6) | (with_reducible refine heap_newS _ _ _ ?_; (first | (simp; done) | (simp; omega))) | with_reducible apply heap_gwS | with_reducible apply heap_drewNS | with_reducible apply heap_drewS | with_reducible apply heap_allocS)) g4
          have beln := Lib.hid (Below.trans (show Below w.heap.size w _ by repeat (first | with_reducible exact HBel.out | with_reducible apply below_drewN | with_reducible apply Below.drew)) (g4.below.mono (by have := HBel.out.size; first | exact this | (simp; omega))))
          clear k0 k1 k2 k3 d0 d1 d2 d3 d4 d5 d6 d7 d8 c7 c8 c10 hb2 l5 l6
          clear r5 r6 HBel g4
          have r5 := r5n
          have r6 := r6n
          have HBel := beln
          clear r5n r6n beln
          go_wp2_with (refine wpList_store_abs rfl 31 _ _ rfl _ _ rfl rfl _ _ r6 (by kernel_rfl) rfl (by first | kernel_rfl | simp [Value.oneCell'] | rfl) ?_; intro w5 ST; have r5n := ST.other r5 (Nat.ne_of_gt hB56); have r6n := ST.row; have beln := Lib.hid (ST.below HBel.out hB6); clear ST r5 r6 HBel; have r5 := r5n; have r6 := r6n; have HBel := beln; clear r5n r6n beln; have k0 : w5.cell? ⟨b, off + k * 4, none⟩ = some (.int .u8 (K k)) := (by rw [HBel.out.cell hb]; exact (HC.out k hlt).1); have k1 : w5.cell? ⟨b, off + k * 4 + 1, none⟩ = some (.int .u16 (Z k)) := (by rw [HBel.out.cell hb]; exact (HC.out k hlt).2.1); have k2 : w5.cell? ⟨b, off + k * 4 + 2, none⟩ = some (.int .u16 (V k)) := (by rw [HBel.out.cell hb]; exact (HC.out k hlt).2.2.1); have k3 : w5.cell? ⟨b, off + k * 4 + 3, none⟩ = some (.int .u64 (P k)) := (by rw [HBel.out.cell hb]; exact (HC.out k hlt).2.2.2); have d0 := r6.cell 0; have d1 := r6.cell 1; have d2 := r6.cell 2; have d3 := r6.cell 3; have d4 := r6.cell 4; have d5 := r6.cell 5; have d6 := r6.cell 6; have d7 := r6.cell 7; have d8 := r6.cell 8; simp at d0 d1 d2 d3 d4 d5 d6 d7 d8; have c7 := r5.cell 7; have c8 := r5.cell 8; have c10 := r5.cell 10; simp at c7 c8 c10; have hb2 : b < w5.heap.size := (by have := HBel.out.size; omega); have l5 := r5.lt; have l6 := r6.lt)
          go_roundw
          case rel => exact ⟨k + 1, T, M + Z k, N + V k, (X + Z k % 5), by congr 1, by omega, by first | rfl | congr 1, by first | rfl | congr 1, by first | rfl | congr 1, by first | rfl | (rw [HTC.out]), HPL.out, r5, r6, HBel.out⟩
          case measure => simp only [intOf]; omega
      · as_aux_lemma =>
          have hpl := HP.out.ack HY.out (by omega) (Z k) (V k) (Z k % 5) y10 ⟨z0, z1⟩ ⟨v0, v1⟩ ⟨by omega, by omega⟩ HF.out
          obtain ⟨T, hT⟩ : ∃ T, ackW true y9 y5 y7 y8 (Z k) (N + V k) y10 S = T := ⟨_, rfl⟩
          rw [hT] at hpl
          have HT := Lib.hid hT
          clear hT
          have HPL := Lib.hid hpl
          have HTC := Lib.hid (show T.C = S.C by rw [← HT.out]; exact ack_C _ _ _ _ _ _ _ _ _)
          clear hpl
          have i1 := HPL.out.c0
          have i2 := HPL.out.c1
          have i3 := HPL.out.cm
          have i4 := HPL.out.t0
          go_wp2_with fail
          refine region_tail 11 (by kernel_rfl) (by kernel_rfl) ?_
          simp only [List.take_succ_cons, List.take_zero, List.drop_succ_cons, List.drop_zero]
          refine wpStill_load_row rfl 24 _ rfl _ rfl _ _ _ r5.drew Try.underlying24 rfl (by kernel_rfl) ?_
          refine wpStill_load_row rfl 31 _ rfl _ rfl _ _ _ r6.drew Try.underlying31 rfl (by kernel_rfl) ?_
          simp [Act.put]
          repeat still_step
          refine wpStill_nil ?_
          go_wp2_with fail
          ((with_reducible refine (nAck y0 y1 y2 y3 y4 y5 y6 y7 y8 y9 y10 y11 y12 y13 y14 y15 y16 S.c S.t S.a S.p S.e S.k S.f S.E S.C (Z k) (N + V k) y10 T true HMY.out HT.out H5Y.out HP.out.ok (Wlit (by omega)) (Wlit (by omega)) HF.out _).mono ?_); rintro e' w4 ⟨rfl, g4⟩)
          have r5n := RowIs.gr (show RowIs _ (w1.heap.size) 24 #[.int .i64 y0, .int .u64 y1, .int .i64 y2, .int .u64 y3, .int .i64 y4, .int .u64 y5, .int .u64 y6, .int .u64 y7, .int .u64 y8, .int .i64 y9, .int .u64 y10, .int .u64 y11, .int .u64 y12, .int .u64 y13, .int .u64 y14, .int .i64 y15, .int .u64 y16] from by refine RowIs.mk ?_; repeat (first | (with_reducible exact RowIs.un r5) | (with_reducible exact RowIs.un r6) | (with_reducible refine heap_newS _ _ _ ?_; (first | (simp; done) | (simp; omega))) | with_reducible apply heap_gwS | with_reducible apply heap_drewNS | with_reducible apply heap_drewS | with_reducible apply heap_allocS)) g4
          have r6n := RowIs.gr (show RowIs _ (w3.heap.size) 31 #[.int .u64 S.c, .int .u64 S.t, .int .u64 S.a, .int .u64 S.p, .int .u64 S.e, .int .u64 S.k, .int .u64 S.f, .int .u64 S.E, .int .u64 S.C] from by refine RowIs.mk ?_; repeat (first | (with_reducible exact RowIs.un r5) | (with_reducible exact RowIs.un r6) | (with_reducible refine heap_newS _ _ _ ?_; (first | (simp; done) | (simp; omega))) | with_reducible apply heap_gwS | with_reducible apply heap_drewNS | with_reducible apply heap_drewS | with_reducible apply heap_allocS)) g4
          have beln := Lib.hid (Below.trans (show Below w.heap.size w _ by repeat (first | with_reducible exact HBel.out | with_reducible apply below_drewN | with_reducible apply Below.drew)) (g4.below.mono (by have := HBel.out.size; first | exact this | (simp; omega))))
          clear k0 k1 k2 k3 d0 d1 d2 d3 d4 d5 d6 d7 d8 c7 c8 c10 hb2 l5 l6
          clear r5 r6 HBel g4
          have r5 := r5n
          have r6 := r6n
          have HBel := beln
          clear r5n r6n beln
          go_wp2_with (refine wpList_store_abs rfl 31 _ _ rfl _ _ rfl rfl _ _ r6 (by kernel_rfl) rfl (by first | kernel_rfl | simp [Value.oneCell'] | rfl) ?_; intro w5 ST; have r5n := ST.other r5 (Nat.ne_of_gt hB56); have r6n := ST.row; have beln := Lib.hid (ST.below HBel.out hB6); clear ST r5 r6 HBel; have r5 := r5n; have r6 := r6n; have HBel := beln; clear r5n r6n beln; have k0 : w5.cell? ⟨b, off + k * 4, none⟩ = some (.int .u8 (K k)) := (by rw [HBel.out.cell hb]; exact (HC.out k hlt).1); have k1 : w5.cell? ⟨b, off + k * 4 + 1, none⟩ = some (.int .u16 (Z k)) := (by rw [HBel.out.cell hb]; exact (HC.out k hlt).2.1); have k2 : w5.cell? ⟨b, off + k * 4 + 2, none⟩ = some (.int .u16 (V k)) := (by rw [HBel.out.cell hb]; exact (HC.out k hlt).2.2.1); have k3 : w5.cell? ⟨b, off + k * 4 + 3, none⟩ = some (.int .u64 (P k)) := (by rw [HBel.out.cell hb]; exact (HC.out k hlt).2.2.2); have d0 := r6.cell 0; have d1 := r6.cell 1; have d2 := r6.cell 2; have d3 := r6.cell 3; have d4 := r6.cell 4; have d5 := r6.cell 5; have d6 := r6.cell 6; have d7 := r6.cell 7; have d8 := r6.cell 8; simp at d0 d1 d2 d3 d4 d5 d6 d7 d8; have c7 := r5.cell 7; have c8 := r5.cell 8; have c10 := r5.cell 10; simp at c7 c8 c10; have hb2 : b < w5.heap.size := (by have := HBel.out.size; omega); have l5 := r5.lt; have l6 := r6.lt)
          go_roundw
          case rel => exact ⟨k + 1, T, M + Z k, N + V k, (X + Z k % 5), by congr 1, by omega, by first | rfl | congr 1, by first | rfl | congr 1, by first | rfl | congr 1, by first | rfl | (rw [HTC.out]), HPL.out, r5, r6, HBel.out⟩
          case measure => simp only [intOf]; omega
      · as_aux_lemma =>
          have hp0 : 0 ≤ P k % (X + Z k % 5 + 1) := Int.emod_nonneg _ (by omega)
          have hp1 : P k % (X + Z k % 5 + 1) < X + Z k % 5 + 1 := Int.emod_lt_of_pos _ (by omega)
          by_cases hE : S.E ≤ P k % (X + Z k % 5 + 1)
          · have hpl := HP.out.cut HY.out (by omega) 1 2 7 10 ⟨by omega, by omega, by omega⟩ ⟨by omega, by omega, by omega⟩ (V k) (Z k % 5) (P k % (X + Z k % 5 + 1)) ⟨v0, v1⟩ ⟨by omega, by omega⟩ ⟨hp0, hp1⟩ hE
            obtain ⟨T, hT⟩ : ∃ T, begW true y9 y7 y8 1 2 7 10 (P k % (X + Z k % 5 + 1)) (X + Z k % 5 + 1) S = T := ⟨_, rfl⟩
            rw [hT] at hpl
            have HT := Lib.hid hT
            clear hT
            have HPL := Lib.hid hpl.1
            have HTC := Lib.hid hpl.2.2
            have hTE : (T.E != X + Z k % 5 + 1) = false := by rw [hpl.2.1]; simp
            have hTE2 : (T.E == X + Z k % 5 + 1) = true := by rw [hpl.2.1]; simp
            clear hpl
            have HB := Lib.hid (show begO true (P k % (X + Z k % 5 + 1)) S = true by unfold begO; simp; omega)
            have i1 := HPL.out.c0
            have i2 := HPL.out.c1
            have i3 := HPL.out.cm
            have i4 := HPL.out.t0
            go_wp2_with (first | (refine wpList_load_all (by rfl) 24 _ rfl _ rfl _ _ _ _ (by repeat (first | (with_reducible exact RowIs.un r5) | (with_reducible exact RowIs.un r6) | (with_reducible refine heap_newS _ _ _ ?_; (first | (simp; done) | (simp; omega))) | with_reducible apply heap_gwS | with_reducible apply heap_drewNS | with_reducible apply heap_drewS | with_reducible apply heap_allocS)) Try.underlying24 rfl (by kernel_rfl) ?_) | (refine wpList_load_all (by rfl) 31 _ rfl _ rfl _ _ _ _ (by repeat (first | (with_reducible exact RowIs.un r5) | (with_reducible exact RowIs.un r6) | (with_reducible refine heap_newS _ _ _ ?_; (first | (simp; done) | (simp; omega))) | with_reducible apply heap_gwS | with_reducible apply heap_drewNS | with_reducible apply heap_drewS | with_reducible apply heap_allocS)) Try.underlying31 rfl (by kernel_rfl) ?_))
            ((with_reducible refine (nLoss y0 y1 y2 y3 y4 y5 y6 y7 y8 y9 y10 y11 y12 y13 y14 y15 y16 S.c S.t S.a S.p S.e S.k S.f S.E S.C (P k % (X + Z k % 5 + 1)) (X + Z k % 5 + 1) T true true HMY.out HT.out HB.out HP.out.ok.c HP.out.ok.C (Wlit (by omega)) _).mono ?_); rintro e' w4 ⟨rfl, g4⟩)
            have r5n := RowIs.gr (show RowIs _ (w1.heap.size) 24 #[.int .i64 y0, .int .u64 y1, .int .i64 y2, .int .u64 y3, .int .i64 y4, .int .u64 y5, .int .u64 y6, .int .u64 y7, .int .u64 y8, .int .i64 y9, .int .u64 y10, .int .u64 y11, .int .u64 y12, .int .u64 y13, .int .u64 y14, .int .i64 y15, .int .u64 y16] from by refine RowIs.mk ?_; repeat (first | (with_reducible exact RowIs.un r5) | (with_reducible exact RowIs.un r6) | (with_reducible refine heap_newS _ _ _ ?_; (first | (simp; done) | (simp; omega))) | with_reducible apply heap_gwS | with_reducible apply heap_drewNS | with_reducible apply heap_drewS | with_reducible apply heap_allocS)) g4
            have r6n := RowIs.gr (show RowIs _ (w3.heap.size) 31 #[.int .u64 S.c, .int .u64 S.t, .int .u64 S.a, .int .u64 S.p, .int .u64 S.e, .int .u64 S.k, .int .u64 S.f, .int .u64 S.E, .int .u64 S.C] from by refine RowIs.mk ?_; repeat (first | (with_reducible exact RowIs.un r5) | (with_reducible exact RowIs.un r6) | (with_reducible refine heap_newS _ _ _ ?_; (first | (simp; done) | (simp; omega))) | with_reducible apply heap_gwS | with_reducible apply heap_drewNS | with_reducible apply heap_drewS | with_reducible apply heap_allocS)) g4
            have beln := Lib.hid (Below.trans (show Below w.heap.size w _ by repeat (first | with_reducible exact HBel.out | with_reducible apply below_drewN | with_reducible apply Below.drew)) (g4.below.mono (by have := HBel.out.size; first | exact this | (simp; omega))))
            clear k0 k1 k2 k3 d0 d1 d2 d3 d4 d5 d6 d7 d8 c7 c8 c10 hb2 l5 l6
            clear r5 r6 HBel g4
            have r5 := r5n
            have r6 := r6n
            have HBel := beln
            clear r5n r6n beln
            go_wp2_with (refine wpList_store_abs rfl 31 _ _ rfl _ _ rfl rfl _ _ r6 (by kernel_rfl) rfl (by first | kernel_rfl | simp [Value.oneCell'] | rfl) ?_; intro w5 ST; have r5n := ST.other r5 (Nat.ne_of_gt hB56); have r6n := ST.row; have beln := Lib.hid (ST.below HBel.out hB6); clear ST r5 r6 HBel; have r5 := r5n; have r6 := r6n; have HBel := beln; clear r5n r6n beln; have k0 : w5.cell? ⟨b, off + k * 4, none⟩ = some (.int .u8 (K k)) := (by rw [HBel.out.cell hb]; exact (HC.out k hlt).1); have k1 : w5.cell? ⟨b, off + k * 4 + 1, none⟩ = some (.int .u16 (Z k)) := (by rw [HBel.out.cell hb]; exact (HC.out k hlt).2.1); have k2 : w5.cell? ⟨b, off + k * 4 + 2, none⟩ = some (.int .u16 (V k)) := (by rw [HBel.out.cell hb]; exact (HC.out k hlt).2.2.1); have k3 : w5.cell? ⟨b, off + k * 4 + 3, none⟩ = some (.int .u64 (P k)) := (by rw [HBel.out.cell hb]; exact (HC.out k hlt).2.2.2); have d0 := r6.cell 0; have d1 := r6.cell 1; have d2 := r6.cell 2; have d3 := r6.cell 3; have d4 := r6.cell 4; have d5 := r6.cell 5; have d6 := r6.cell 6; have d7 := r6.cell 7; have d8 := r6.cell 8; simp at d0 d1 d2 d3 d4 d5 d6 d7 d8; have c7 := r5.cell 7; have c8 := r5.cell 8; have c10 := r5.cell 10; simp at c7 c8 c10; have hb2 : b < w5.heap.size := (by have := HBel.out.size; omega); have l5 := r5.lt; have l6 := r6.lt)
            go_roundw
            case rel => exact ⟨k + 1, T, M, N + V k, (X + Z k % 5), by congr 1, by omega, by first | rfl | congr 1, by first | rfl | congr 1, by first | rfl | congr 1, by first | rfl | (rw [HTC.out]), HPL.out, r5, r6, HBel.out⟩
            case measure => simp only [intOf]; omega
          · have hE' : P k % (X + Z k % 5 + 1) < S.E := by omega
            have HT := Lib.hid (show begW true y9 y7 y8 1 2 7 10 (P k % (X + Z k % 5 + 1)) (X + Z k % 5 + 1) S = S by unfold begW; rw [if_pos rfl, if_neg hE])
            have HPL := Lib.hid (HP.out.stay (V k) (Z k % 5) ⟨v0, v1⟩ ⟨by omega, by omega⟩)
            have HB := Lib.hid (show begO true (P k % (X + Z k % 5 + 1)) S = false by unfold begO; simp; omega)
            clear hE
            have i1 := HPL.out.c0
            have i2 := HPL.out.c1
            have i3 := HPL.out.cm
            have i4 := HPL.out.t0
            go_wp2_with (first | (refine wpList_load_all (by rfl) 24 _ rfl _ rfl _ _ _ _ (by repeat (first | (with_reducible exact RowIs.un r5) | (with_reducible exact RowIs.un r6) | (with_reducible refine heap_newS _ _ _ ?_; (first | (simp; done) | (simp; omega))) | with_reducible apply heap_gwS | with_reducible apply heap_drewNS | with_reducible apply heap_drewS | with_reducible apply heap_allocS)) Try.underlying24 rfl (by kernel_rfl) ?_) | (refine wpList_load_all (by rfl) 31 _ rfl _ rfl _ _ _ _ (by repeat (first | (with_reducible exact RowIs.un r5) | (with_reducible exact RowIs.un r6) | (with_reducible refine heap_newS _ _ _ ?_; (first | (simp; done) | (simp; omega))) | with_reducible apply heap_gwS | with_reducible apply heap_drewNS | with_reducible apply heap_drewS | with_reducible apply heap_allocS)) Try.underlying31 rfl (by kernel_rfl) ?_))
            ((with_reducible refine (nLoss y0 y1 y2 y3 y4 y5 y6 y7 y8 y9 y10 y11 y12 y13 y14 y15 y16 S.c S.t S.a S.p S.e S.k S.f S.E S.C (P k % (X + Z k % 5 + 1)) (X + Z k % 5 + 1) S false true HMY.out HT.out HB.out HP.out.ok.c HP.out.ok.C (Wlit (by omega)) _).mono ?_); rintro e' w4 ⟨rfl, g4⟩)
            have r5n := RowIs.gr (show RowIs _ (w1.heap.size) 24 #[.int .i64 y0, .int .u64 y1, .int .i64 y2, .int .u64 y3, .int .i64 y4, .int .u64 y5, .int .u64 y6, .int .u64 y7, .int .u64 y8, .int .i64 y9, .int .u64 y10, .int .u64 y11, .int .u64 y12, .int .u64 y13, .int .u64 y14, .int .i64 y15, .int .u64 y16] from by refine RowIs.mk ?_; repeat (first | (with_reducible exact RowIs.un r5) | (with_reducible exact RowIs.un r6) | (with_reducible refine heap_newS _ _ _ ?_; (first | (simp; done) | (simp; omega))) | with_reducible apply heap_gwS | with_reducible apply heap_drewNS | with_reducible apply heap_drewS | with_reducible apply heap_allocS)) g4
            have r6n := RowIs.gr (show RowIs _ (w3.heap.size) 31 #[.int .u64 S.c, .int .u64 S.t, .int .u64 S.a, .int .u64 S.p, .int .u64 S.e, .int .u64 S.k, .int .u64 S.f, .int .u64 S.E, .int .u64 S.C] from by refine RowIs.mk ?_; repeat (first | (with_reducible exact RowIs.un r5) | (with_reducible exact RowIs.un r6) | (with_reducible refine heap_newS _ _ _ ?_; (first | (simp; done) | (simp; omega))) | with_reducible apply heap_gwS | with_reducible apply heap_drewNS | with_reducible apply heap_drewS | with_reducible apply heap_allocS)) g4
            have beln := Lib.hid (Below.trans (show Below w.heap.size w _ by repeat (first | with_reducible exact HBel.out | with_reducible apply below_drewN | with_reducible apply Below.drew)) (g4.below.mono (by have := HBel.out.size; first | exact this | (simp; omega))))
            clear k0 k1 k2 k3 d0 d1 d2 d3 d4 d5 d6 d7 d8 c7 c8 c10 hb2 l5 l6
            clear r5 r6 HBel g4
            have r5 := r5n
            have r6 := r6n
            have HBel := beln
            clear r5n r6n beln
            go_wp2_with (refine wpList_store_abs rfl 31 _ _ rfl _ _ rfl rfl _ _ r6 (by kernel_rfl) rfl (by first | kernel_rfl | simp [Value.oneCell'] | rfl) ?_; intro w5 ST; have r5n := ST.other r5 (Nat.ne_of_gt hB56); have r6n := ST.row; have beln := Lib.hid (ST.below HBel.out hB6); clear ST r5 r6 HBel; have r5 := r5n; have r6 := r6n; have HBel := beln; clear r5n r6n beln; have k0 : w5.cell? ⟨b, off + k * 4, none⟩ = some (.int .u8 (K k)) := (by rw [HBel.out.cell hb]; exact (HC.out k hlt).1); have k1 : w5.cell? ⟨b, off + k * 4 + 1, none⟩ = some (.int .u16 (Z k)) := (by rw [HBel.out.cell hb]; exact (HC.out k hlt).2.1); have k2 : w5.cell? ⟨b, off + k * 4 + 2, none⟩ = some (.int .u16 (V k)) := (by rw [HBel.out.cell hb]; exact (HC.out k hlt).2.2.1); have k3 : w5.cell? ⟨b, off + k * 4 + 3, none⟩ = some (.int .u64 (P k)) := (by rw [HBel.out.cell hb]; exact (HC.out k hlt).2.2.2); have d0 := r6.cell 0; have d1 := r6.cell 1; have d2 := r6.cell 2; have d3 := r6.cell 3; have d4 := r6.cell 4; have d5 := r6.cell 5; have d6 := r6.cell 6; have d7 := r6.cell 7; have d8 := r6.cell 8; simp at d0 d1 d2 d3 d4 d5 d6 d7 d8; have c7 := r5.cell 7; have c8 := r5.cell 8; have c10 := r5.cell 10; simp at c7 c8 c10; have hb2 : b < w5.heap.size := (by have := HBel.out.size; omega); have l5 := r5.lt; have l6 := r6.lt)
            go_roundw
            case rel => exact ⟨k + 1, S, M, N + V k, (X + Z k % 5), by congr 1, by omega, by first | rfl | congr 1, by first | rfl | congr 1, by first | rfl | congr 1, by first | rfl | rfl, HPL.out, r5, r6, HBel.out⟩
            case measure => simp only [intOf]; omega
      · as_aux_lemma =>
          have hp0 : 0 ≤ P k % (X + Z k % 5 + 1) := Int.emod_nonneg _ (by omega)
          have hp1 : P k % (X + Z k % 5 + 1) < X + Z k % 5 + 1 := Int.emod_lt_of_pos _ (by omega)
          by_cases hE : S.E ≤ P k % (X + Z k % 5 + 1)
          · have hpl := HP.out.cut HY.out (by omega) 4 5 17 20 ⟨by omega, by omega, by omega⟩ ⟨by omega, by omega, by omega⟩ (V k) (Z k % 5) (P k % (X + Z k % 5 + 1)) ⟨v0, v1⟩ ⟨by omega, by omega⟩ ⟨hp0, hp1⟩ hE
            obtain ⟨T, hT⟩ : ∃ T, begW true y9 y7 y8 4 5 17 20 (P k % (X + Z k % 5 + 1)) (X + Z k % 5 + 1) S = T := ⟨_, rfl⟩
            rw [hT] at hpl
            have HT := Lib.hid hT
            clear hT
            have HPL := Lib.hid hpl.1
            have HTC := Lib.hid hpl.2.2
            have hTE : (T.E != X + Z k % 5 + 1) = false := by rw [hpl.2.1]; simp
            have hTE2 : (T.E == X + Z k % 5 + 1) = true := by rw [hpl.2.1]; simp
            clear hpl
            have HB := Lib.hid (show begO true (P k % (X + Z k % 5 + 1)) S = true by unfold begO; simp; omega)
            have i1 := HPL.out.c0
            have i2 := HPL.out.c1
            have i3 := HPL.out.cm
            have i4 := HPL.out.t0
            go_wp2_with (first | (refine wpList_load_all (by rfl) 24 _ rfl _ rfl _ _ _ _ (by repeat (first | (with_reducible exact RowIs.un r5) | (with_reducible exact RowIs.un r6) | (with_reducible refine heap_newS _ _ _ ?_; (first | (simp; done) | (simp; omega))) | with_reducible apply heap_gwS | with_reducible apply heap_drewNS | with_reducible apply heap_drewS | with_reducible apply heap_allocS)) Try.underlying24 rfl (by kernel_rfl) ?_) | (refine wpList_load_all (by rfl) 31 _ rfl _ rfl _ _ _ _ (by repeat (first | (with_reducible exact RowIs.un r5) | (with_reducible exact RowIs.un r6) | (with_reducible refine heap_newS _ _ _ ?_; (first | (simp; done) | (simp; omega))) | with_reducible apply heap_gwS | with_reducible apply heap_drewNS | with_reducible apply heap_drewS | with_reducible apply heap_allocS)) Try.underlying31 rfl (by kernel_rfl) ?_))
            ((with_reducible refine (nMark y0 y1 y2 y3 y4 y5 y6 y7 y8 y9 y10 y11 y12 y13 y14 y15 y16 S.c S.t S.a S.p S.e S.k S.f S.E S.C (P k % (X + Z k % 5 + 1)) (X + Z k % 5 + 1) T true true HMY.out HT.out HB.out HP.out.ok.c HP.out.ok.C (Wlit (by omega)) _).mono ?_); rintro e' w4 ⟨rfl, g4⟩)
            have r5n := RowIs.gr (show RowIs _ (w1.heap.size) 24 #[.int .i64 y0, .int .u64 y1, .int .i64 y2, .int .u64 y3, .int .i64 y4, .int .u64 y5, .int .u64 y6, .int .u64 y7, .int .u64 y8, .int .i64 y9, .int .u64 y10, .int .u64 y11, .int .u64 y12, .int .u64 y13, .int .u64 y14, .int .i64 y15, .int .u64 y16] from by refine RowIs.mk ?_; repeat (first | (with_reducible exact RowIs.un r5) | (with_reducible exact RowIs.un r6) | (with_reducible refine heap_newS _ _ _ ?_; (first | (simp; done) | (simp; omega))) | with_reducible apply heap_gwS | with_reducible apply heap_drewNS | with_reducible apply heap_drewS | with_reducible apply heap_allocS)) g4
            have r6n := RowIs.gr (show RowIs _ (w3.heap.size) 31 #[.int .u64 S.c, .int .u64 S.t, .int .u64 S.a, .int .u64 S.p, .int .u64 S.e, .int .u64 S.k, .int .u64 S.f, .int .u64 S.E, .int .u64 S.C] from by refine RowIs.mk ?_; repeat (first | (with_reducible exact RowIs.un r5) | (with_reducible exact RowIs.un r6) | (with_reducible refine heap_newS _ _ _ ?_; (first | (simp; done) | (simp; omega))) | with_reducible apply heap_gwS | with_reducible apply heap_drewNS | with_reducible apply heap_drewS | with_reducible apply heap_allocS)) g4
            have beln := Lib.hid (Below.trans (show Below w.heap.size w _ by repeat (first | with_reducible exact HBel.out | with_reducible apply below_drewN | with_reducible apply Below.drew)) (g4.below.mono (by have := HBel.out.size; first | exact this | (simp; omega))))
            clear k0 k1 k2 k3 d0 d1 d2 d3 d4 d5 d6 d7 d8 c7 c8 c10 hb2 l5 l6
            clear r5 r6 HBel g4
            have r5 := r5n
            have r6 := r6n
            have HBel := beln
            clear r5n r6n beln
            go_wp2_with (refine wpList_store_abs rfl 31 _ _ rfl _ _ rfl rfl _ _ r6 (by kernel_rfl) rfl (by first | kernel_rfl | simp [Value.oneCell'] | rfl) ?_; intro w5 ST; have r5n := ST.other r5 (Nat.ne_of_gt hB56); have r6n := ST.row; have beln := Lib.hid (ST.below HBel.out hB6); clear ST r5 r6 HBel; have r5 := r5n; have r6 := r6n; have HBel := beln; clear r5n r6n beln; have k0 : w5.cell? ⟨b, off + k * 4, none⟩ = some (.int .u8 (K k)) := (by rw [HBel.out.cell hb]; exact (HC.out k hlt).1); have k1 : w5.cell? ⟨b, off + k * 4 + 1, none⟩ = some (.int .u16 (Z k)) := (by rw [HBel.out.cell hb]; exact (HC.out k hlt).2.1); have k2 : w5.cell? ⟨b, off + k * 4 + 2, none⟩ = some (.int .u16 (V k)) := (by rw [HBel.out.cell hb]; exact (HC.out k hlt).2.2.1); have k3 : w5.cell? ⟨b, off + k * 4 + 3, none⟩ = some (.int .u64 (P k)) := (by rw [HBel.out.cell hb]; exact (HC.out k hlt).2.2.2); have d0 := r6.cell 0; have d1 := r6.cell 1; have d2 := r6.cell 2; have d3 := r6.cell 3; have d4 := r6.cell 4; have d5 := r6.cell 5; have d6 := r6.cell 6; have d7 := r6.cell 7; have d8 := r6.cell 8; simp at d0 d1 d2 d3 d4 d5 d6 d7 d8; have c7 := r5.cell 7; have c8 := r5.cell 8; have c10 := r5.cell 10; simp at c7 c8 c10; have hb2 : b < w5.heap.size := (by have := HBel.out.size; omega); have l5 := r5.lt; have l6 := r6.lt)
            go_roundw
            case rel => exact ⟨k + 1, T, M, N + V k, (X + Z k % 5), by congr 1, by omega, by first | rfl | congr 1, by first | rfl | congr 1, by first | rfl | congr 1, by first | rfl | (rw [HTC.out]), HPL.out, r5, r6, HBel.out⟩
            case measure => simp only [intOf]; omega
          · have hE' : P k % (X + Z k % 5 + 1) < S.E := by omega
            have HT := Lib.hid (show begW true y9 y7 y8 4 5 17 20 (P k % (X + Z k % 5 + 1)) (X + Z k % 5 + 1) S = S by unfold begW; rw [if_pos rfl, if_neg hE])
            have HPL := Lib.hid (HP.out.stay (V k) (Z k % 5) ⟨v0, v1⟩ ⟨by omega, by omega⟩)
            have HB := Lib.hid (show begO true (P k % (X + Z k % 5 + 1)) S = false by unfold begO; simp; omega)
            clear hE
            have i1 := HPL.out.c0
            have i2 := HPL.out.c1
            have i3 := HPL.out.cm
            have i4 := HPL.out.t0
            go_wp2_with (first | (refine wpList_load_all (by rfl) 24 _ rfl _ rfl _ _ _ _ (by repeat (first | (with_reducible exact RowIs.un r5) | (with_reducible exact RowIs.un r6) | (with_reducible refine heap_newS _ _ _ ?_; (first | (simp; done) | (simp; omega))) | with_reducible apply heap_gwS | with_reducible apply heap_drewNS | with_reducible apply heap_drewS | with_reducible apply heap_allocS)) Try.underlying24 rfl (by kernel_rfl) ?_) | (refine wpList_load_all (by rfl) 31 _ rfl _ rfl _ _ _ _ (by repeat (first | (with_reducible exact RowIs.un r5) | (with_reducible exact RowIs.un r6) | (with_reducible refine heap_newS _ _ _ ?_; (first | (simp; done) | (simp; omega))) | with_reducible apply heap_gwS | with_reducible apply heap_drewNS | with_reducible apply heap_drewS | with_reducible apply heap_allocS)) Try.underlying31 rfl (by kernel_rfl) ?_))
            ((with_reducible refine (nMark y0 y1 y2 y3 y4 y5 y6 y7 y8 y9 y10 y11 y12 y13 y14 y15 y16 S.c S.t S.a S.p S.e S.k S.f S.E S.C (P k % (X + Z k % 5 + 1)) (X + Z k % 5 + 1) S false true HMY.out HT.out HB.out HP.out.ok.c HP.out.ok.C (Wlit (by omega)) _).mono ?_); rintro e' w4 ⟨rfl, g4⟩)
            have r5n := RowIs.gr (show RowIs _ (w1.heap.size) 24 #[.int .i64 y0, .int .u64 y1, .int .i64 y2, .int .u64 y3, .int .i64 y4, .int .u64 y5, .int .u64 y6, .int .u64 y7, .int .u64 y8, .int .i64 y9, .int .u64 y10, .int .u64 y11, .int .u64 y12, .int .u64 y13, .int .u64 y14, .int .i64 y15, .int .u64 y16] from by refine RowIs.mk ?_; repeat (first | (with_reducible exact RowIs.un r5) | (with_reducible exact RowIs.un r6) | (with_reducible refine heap_newS _ _ _ ?_; (first | (simp; done) | (simp; omega))) | with_reducible apply heap_gwS | with_reducible apply heap_drewNS | with_reducible apply heap_drewS | with_reducible apply heap_allocS)) g4
            have r6n := RowIs.gr (show RowIs _ (w3.heap.size) 31 #[.int .u64 S.c, .int .u64 S.t, .int .u64 S.a, .int .u64 S.p, .int .u64 S.e, .int .u64 S.k, .int .u64 S.f, .int .u64 S.E, .int .u64 S.C] from by refine RowIs.mk ?_; repeat (first | (with_reducible exact RowIs.un r5) | (with_reducible exact RowIs.un r6) | (with_reducible refine heap_newS _ _ _ ?_; (first | (simp; done) | (simp; omega))) | with_reducible apply heap_gwS | with_reducible apply heap_drewNS | with_reducible apply heap_drewS | with_reducible apply heap_allocS)) g4
            have beln := Lib.hid (Below.trans (show Below w.heap.size w _ by repeat (first | with_reducible exact HBel.out | with_reducible apply below_drewN | with_reducible apply Below.drew)) (g4.below.mono (by have := HBel.out.size; first | exact this | (simp; omega))))
            clear k0 k1 k2 k3 d0 d1 d2 d3 d4 d5 d6 d7 d8 c7 c8 c10 hb2 l5 l6
            clear r5 r6 HBel g4
            have r5 := r5n
            have r6 := r6n
            have HBel := beln
            clear r5n r6n beln
            go_wp2_with (refine wpList_store_abs rfl 31 _ _ rfl _ _ rfl rfl _ _ r6 (by kernel_rfl) rfl (by first | kernel_rfl | simp [Value.oneCell'] | rfl) ?_; intro w5 ST; have r5n := ST.other r5 (Nat.ne_of_gt hB56); have r6n := ST.row; have beln := Lib.hid (ST.below HBel.out hB6); clear ST r5 r6 HBel; have r5 := r5n; have r6 := r6n; have HBel := beln; clear r5n r6n beln; have k0 : w5.cell? ⟨b, off + k * 4, none⟩ = some (.int .u8 (K k)) := (by rw [HBel.out.cell hb]; exact (HC.out k hlt).1); have k1 : w5.cell? ⟨b, off + k * 4 + 1, none⟩ = some (.int .u16 (Z k)) := (by rw [HBel.out.cell hb]; exact (HC.out k hlt).2.1); have k2 : w5.cell? ⟨b, off + k * 4 + 2, none⟩ = some (.int .u16 (V k)) := (by rw [HBel.out.cell hb]; exact (HC.out k hlt).2.2.1); have k3 : w5.cell? ⟨b, off + k * 4 + 3, none⟩ = some (.int .u64 (P k)) := (by rw [HBel.out.cell hb]; exact (HC.out k hlt).2.2.2); have d0 := r6.cell 0; have d1 := r6.cell 1; have d2 := r6.cell 2; have d3 := r6.cell 3; have d4 := r6.cell 4; have d5 := r6.cell 5; have d6 := r6.cell 6; have d7 := r6.cell 7; have d8 := r6.cell 8; simp at d0 d1 d2 d3 d4 d5 d6 d7 d8; have c7 := r5.cell 7; have c8 := r5.cell 8; have c10 := r5.cell 10; simp at c7 c8 c10; have hb2 : b < w5.heap.size := (by have := HBel.out.size; omega); have l5 := r5.lt; have l6 := r6.lt)
            go_roundw
            case rel => exact ⟨k + 1, S, M, N + V k, (X + Z k % 5), by congr 1, by omega, by first | rfl | congr 1, by first | rfl | congr 1, by first | rfl | congr 1, by first | rfl | rfl, HPL.out, r5, r6, HBel.out⟩
            case measure => simp only [intOf]; omega
      · as_aux_lemma =>
          have hpl := HP.out.col HY.out (by omega) (V k) (Z k % 5) ⟨v0, v1⟩ ⟨by omega, by omega⟩
          obtain ⟨T, hT⟩ : ∃ T, colW true y9 y7 y8 1 2 7 10 S = T := ⟨_, rfl⟩
          rw [hT] at hpl
          have HT := Lib.hid hT
          clear hT
          have HPL := Lib.hid hpl.1
          have HTC := Lib.hid hpl.2.2.2
          have hTc : (T.c != y7) = false := by rw [hpl.2.1]; simp
          have hTE : (T.E != S.E) = false := by rw [hpl.2.2.1]; simp
          clear hpl
          have i1 := HPL.out.c0
          have i2 := HPL.out.c1
          have i3 := HPL.out.cm
          have i4 := HPL.out.t0
          go_wp2_with (first | (refine wpList_load_all (by rfl) 24 _ rfl _ rfl _ _ _ _ (by repeat (first | (with_reducible exact RowIs.un r5) | (with_reducible exact RowIs.un r6) | (with_reducible refine heap_newS _ _ _ ?_; (first | (simp; done) | (simp; omega))) | with_reducible apply heap_gwS | with_reducible apply heap_drewNS | with_reducible apply heap_drewS | with_reducible apply heap_allocS)) Try.underlying24 rfl (by kernel_rfl) ?_) | (refine wpList_load_all (by rfl) 31 _ rfl _ rfl _ _ _ _ (by repeat (first | (with_reducible exact RowIs.un r5) | (with_reducible exact RowIs.un r6) | (with_reducible refine heap_newS _ _ _ ?_; (first | (simp; done) | (simp; omega))) | with_reducible apply heap_gwS | with_reducible apply heap_drewNS | with_reducible apply heap_drewS | with_reducible apply heap_allocS)) Try.underlying31 rfl (by kernel_rfl) ?_))
          ((with_reducible refine (nColl y0 y1 y2 y3 y4 y5 y6 y7 y8 y9 y10 y11 y12 y13 y14 y15 y16 S.c S.t S.a S.p S.e S.k S.f S.E S.C T true HMY.out HT.out H5Y.out HP.out.ok.c _).mono ?_); rintro e' w4 ⟨rfl, g4⟩)
          have r5n := RowIs.gr (show RowIs _ (w1.heap.size) 24 #[.int .i64 y0, .int .u64 y1, .int .i64 y2, .int .u64 y3, .int .i64 y4, .int .u64 y5, .int .u64 y6, .int .u64 y7, .int .u64 y8, .int .i64 y9, .int .u64 y10, .int .u64 y11, .int .u64 y12, .int .u64 y13, .int .u64 y14, .int .i64 y15, .int .u64 y16] from by refine RowIs.mk ?_; repeat (first | (with_reducible exact RowIs.un r5) | (with_reducible exact RowIs.un r6) | (with_reducible refine heap_newS _ _ _ ?_; (first | (simp; done) | (simp; omega))) | with_reducible apply heap_gwS | with_reducible apply heap_drewNS | with_reducible apply heap_drewS | with_reducible apply heap_allocS)) g4
          have r6n := RowIs.gr (show RowIs _ (w3.heap.size) 31 #[.int .u64 S.c, .int .u64 S.t, .int .u64 S.a, .int .u64 S.p, .int .u64 S.e, .int .u64 S.k, .int .u64 S.f, .int .u64 S.E, .int .u64 S.C] from by refine RowIs.mk ?_; repeat (first | (with_reducible exact RowIs.un r5) | (with_reducible exact RowIs.un r6) | (with_reducible refine heap_newS _ _ _ ?_; (first | (simp; done) | (simp; omega))) | with_reducible apply heap_gwS | with_reducible apply heap_drewNS | with_reducible apply heap_drewS | with_reducible apply heap_allocS)) g4
          have beln := Lib.hid (Below.trans (show Below w.heap.size w _ by repeat (first | with_reducible exact HBel.out | with_reducible apply below_drewN | with_reducible apply Below.drew)) (g4.below.mono (by have := HBel.out.size; first | exact this | (simp; omega))))
          clear k0 k1 k2 k3 d0 d1 d2 d3 d4 d5 d6 d7 d8 c7 c8 c10 hb2 l5 l6
          clear r5 r6 HBel g4
          have r5 := r5n
          have r6 := r6n
          have HBel := beln
          clear r5n r6n beln
          go_wp2_with (refine wpList_store_abs rfl 31 _ _ rfl _ _ rfl rfl _ _ r6 (by kernel_rfl) rfl (by first | kernel_rfl | simp [Value.oneCell'] | rfl) ?_; intro w5 ST; have r5n := ST.other r5 (Nat.ne_of_gt hB56); have r6n := ST.row; have beln := Lib.hid (ST.below HBel.out hB6); clear ST r5 r6 HBel; have r5 := r5n; have r6 := r6n; have HBel := beln; clear r5n r6n beln; have k0 : w5.cell? ⟨b, off + k * 4, none⟩ = some (.int .u8 (K k)) := (by rw [HBel.out.cell hb]; exact (HC.out k hlt).1); have k1 : w5.cell? ⟨b, off + k * 4 + 1, none⟩ = some (.int .u16 (Z k)) := (by rw [HBel.out.cell hb]; exact (HC.out k hlt).2.1); have k2 : w5.cell? ⟨b, off + k * 4 + 2, none⟩ = some (.int .u16 (V k)) := (by rw [HBel.out.cell hb]; exact (HC.out k hlt).2.2.1); have k3 : w5.cell? ⟨b, off + k * 4 + 3, none⟩ = some (.int .u64 (P k)) := (by rw [HBel.out.cell hb]; exact (HC.out k hlt).2.2.2); have d0 := r6.cell 0; have d1 := r6.cell 1; have d2 := r6.cell 2; have d3 := r6.cell 3; have d4 := r6.cell 4; have d5 := r6.cell 5; have d6 := r6.cell 6; have d7 := r6.cell 7; have d8 := r6.cell 8; simp at d0 d1 d2 d3 d4 d5 d6 d7 d8; have c7 := r5.cell 7; have c8 := r5.cell 8; have c10 := r5.cell 10; simp at c7 c8 c10; have hb2 : b < w5.heap.size := (by have := HBel.out.size; omega); have l5 := r5.lt; have l6 := r6.lt)
          go_roundw
          case rel => exact ⟨k + 1, T, M, N + V k, (X + Z k % 5), by congr 1, by omega, by first | rfl | congr 1, by first | rfl | congr 1, by first | rfl | congr 1, by first | rfl | (rw [HTC.out]), HPL.out, r5, r6, HBel.out⟩
          case measure => simp only [intOf]; omega
    · have hd : decide ((k : Int) < (len : Int)) = false := by rw [decide_eq_false_iff_not]; omega
      have d8 := r6.cell 8
      simp at d8
      go_wp2_with fail
      go_ret
      exact ⟨by first | rfl | simp, HBel.out⟩

set_option maxHeartbeats 4000000 in
theorem walkShort (y0 y1 y2 y3 y4 y5 y6 y7 y8 y9 y10 y11 y12 y13 y14 y15 y16 : Int) (ka : Option Addr) (klen kcap : Nat) (z : Nat → Int) (a : Option Addr) (len cap : Nat) (S0 : W9) (w : World) (h1 : len = 0 ∨ 300 < len) (hl9 : len ≤ 9223372036854775807)
    (hmy : (confI y0 y1 y2 y3 y4 y5 y6 y7 y8 y9 y10 y11 y12 y13 y14 y15 y16 == 0) = true) (h5y : W64 y5) (hy : MayK y9 y5 y7 y8) (hf : W64 y10) (hn : Nums w ka klen z) (hs0 : staW true y6 = S0) (hp0 : PlayK y9 y5 y7 y8 S0 y6 0 0 0) (hc0 : S0.C = 0)
    (HC0 : Hid (∀ w, Nums w ka klen z → Calls Try.prog 16 #[.slice ka klen kcap] w fun e w' => e = .returned (.agg #[.int .i64 y0, .int .u64 y1, .int .i64 y2, .int .u64 y3, .int .i64 y4, .int .u64 y5, .int .u64 y6, .int .u64 y7, .int .u64 y8, .int .i64 y9, .int .u64 y10, .int .u64 y11, .int .u64 y12, .int .u64 y13, .int .u64 y14, .int .i64 y15, .int .u64 y16]) ∧ Gr w w')) :
    Calls Try.prog 9 #[.slice ka klen kcap, .slice a len cap] w fun e w' => e = .returned (.bool true) ∧ Below w.heap.size w w' := by
  have hl9' : (len : Int) ≤ 9223372036854775807 := by omega
  have HMY := Lib.hid hmy
  have H5Y := Lib.hid h5y
  have HN := Lib.hid hn
  have HS0 := Lib.hid hs0
  have HC0' := Lib.hid hc0
  clear hmy h5y hy hf hn hs0 hp0 hc0
  rcases h1 with rfl | h1
  · go_enter Try.func9, Try.ntmps9
    go_wp2_with fail
    ((with_reducible refine (HC0.out _ (Nums.below HN.out (Gr.below (by repeat (first | assumption | exact Gr.refl _ | apply Gr.drewN | apply Gr.drew | apply Gr.gw | apply Gr.alloc))))).mono ?_); rintro e' w1 ⟨rfl, g1⟩)
    have G1 := Gr.trans (show Gr w _ from by repeat (first | assumption | exact Gr.refl _ | apply Gr.drewN | apply Gr.drew | apply Gr.gw | apply Gr.alloc)) g1
    clear g1
    go_wp2_with (first | (refine wpList_store_newD rfl 24 _ _ rfl _ _ rfl rfl _ _ _ _ (by with_reducible rfl) (by first | (simp; done) | (simp; omega)) (by kernel_rfl) rfl (by first | kernel_rfl | simp [Value.oneCell'] | rfl) ?_) | (refine wpList_store_new rfl 24 _ _ rfl _ _ rfl rfl _ _ _ (by with_reducible rfl) (by first | (simp; done) | (simp; omega)) (by kernel_rfl) rfl (by first | kernel_rfl | simp [Value.oneCell'] | rfl) ?_))
    ((with_reducible refine (aliveCtrl _).mono ?_); rintro e' w2 ⟨rfl, g2⟩)
    have r5 := RowIs.gr (show RowIs _ (w1.heap.size) 24 #[.int .i64 y0, .int .u64 y1, .int .i64 y2, .int .u64 y3, .int .i64 y4, .int .u64 y5, .int .u64 y6, .int .u64 y7, .int .u64 y8, .int .i64 y9, .int .u64 y10, .int .u64 y11, .int .u64 y12, .int .u64 y13, .int .u64 y14, .int .i64 y15, .int .u64 y16] from by refine RowIs.mk ?_; repeat (first | (with_reducible exact RowIs.un r5) | (with_reducible refine heap_newS _ _ _ ?_; (first | (simp; done) | (simp; omega))) | with_reducible apply heap_gwS | with_reducible apply heap_drewNS | with_reducible apply heap_drewS | with_reducible apply heap_allocS)) g2
    have G2 := Gr.trans (show Gr w _ from by repeat (first | assumption | exact Gr.refl _ | apply Gr.drewN | apply Gr.drew | apply Gr.gw | apply Gr.alloc)) g2
    have hsz1 : w.heap.size ≤ w1.heap.size := G1.size
    clear g2 G1
    have c6 := r5.cell 6
    simp at c6
    go_wp2_with (first | (refine wpList_load_all (by rfl) 24 _ rfl _ rfl _ _ _ _ (by repeat (first | (with_reducible exact RowIs.un r5) | (with_reducible exact RowIs.un r6) | (with_reducible refine heap_newS _ _ _ ?_; (first | (simp; done) | (simp; omega))) | with_reducible apply heap_gwS | with_reducible apply heap_drewNS | with_reducible apply heap_drewS | with_reducible apply heap_allocS)) Try.underlying24 rfl (by kernel_rfl) ?_))
    ((with_reducible refine (nSta y0 y1 y2 y3 y4 y5 y6 y7 y8 y9 y10 y11 y12 y13 y14 y15 y16 S0 true HMY.out HS0.out H5Y.out _).mono ?_); rintro e' w3 ⟨rfl, g3⟩)
    have r5n := RowIs.gr r5 g3
    have G3 := Gr.trans G2 g3
    clear r5 G2 g3 c6
    have c6 := r5n.cell 6
    simp at c6
    have l5 := r5n.lt
    go_wp2_with (first | (refine wpList_store_newD rfl 31 _ _ rfl _ _ rfl rfl _ _ _ _ (by with_reducible rfl) (by first | (simp; done) | (simp; omega)) (by kernel_rfl) rfl (by first | kernel_rfl | simp [Value.oneCell'] | rfl) ?_) | (refine wpList_store_new rfl 31 _ _ rfl _ _ rfl rfl _ _ _ (by with_reducible rfl) (by first | (simp; done) | (simp; omega)) (by kernel_rfl) rfl (by first | kernel_rfl | simp [Value.oneCell'] | rfl) ?_))
    refine wp_loop_rounds 1 ?_; rw [rounds_succ]
    go_wp2_with fail
    go_ret
    exact ⟨by rw [HC0'.out]; first | rfl | simp, Gr.below (by repeat (first | assumption | exact Gr.refl _ | apply Gr.drewN | apply Gr.drew | apply Gr.gw | apply Gr.alloc))⟩
  · have e2 : (300 : Int) < (len : Int) := by omega
    go_enter Try.func9, Try.ntmps9
    go_wp2_with fail
    ((with_reducible refine (HC0.out _ (Nums.below HN.out (Gr.below (by repeat (first | assumption | exact Gr.refl _ | apply Gr.drewN | apply Gr.drew | apply Gr.gw | apply Gr.alloc))))).mono ?_); rintro e' w1 ⟨rfl, g1⟩)
    have G1 := Gr.trans (show Gr w _ from by repeat (first | assumption | exact Gr.refl _ | apply Gr.drewN | apply Gr.drew | apply Gr.gw | apply Gr.alloc)) g1
    clear g1
    go_wp2_with (first | (refine wpList_store_newD rfl 24 _ _ rfl _ _ rfl rfl _ _ _ _ (by with_reducible rfl) (by first | (simp; done) | (simp; omega)) (by kernel_rfl) rfl (by first | kernel_rfl | simp [Value.oneCell'] | rfl) ?_) | (refine wpList_store_new rfl 24 _ _ rfl _ _ rfl rfl _ _ _ (by with_reducible rfl) (by first | (simp; done) | (simp; omega)) (by kernel_rfl) rfl (by first | kernel_rfl | simp [Value.oneCell'] | rfl) ?_))
    ((with_reducible refine (aliveCtrl _).mono ?_); rintro e' w2 ⟨rfl, g2⟩)
    have r5 := RowIs.gr (show RowIs _ (w1.heap.size) 24 #[.int .i64 y0, .int .u64 y1, .int .i64 y2, .int .u64 y3, .int .i64 y4, .int .u64 y5, .int .u64 y6, .int .u64 y7, .int .u64 y8, .int .i64 y9, .int .u64 y10, .int .u64 y11, .int .u64 y12, .int .u64 y13, .int .u64 y14, .int .i64 y15, .int .u64 y16] from by refine RowIs.mk ?_; repeat (first | (with_reducible exact RowIs.un r5) | (with_reducible refine heap_newS _ _ _ ?_; (first | (simp; done) | (simp; omega))) | with_reducible apply heap_gwS | with_reducible apply heap_drewNS | with_reducible apply heap_drewS | with_reducible apply heap_allocS)) g2
    have G2 := Gr.trans (show Gr w _ from by repeat (first | assumption | exact Gr.refl _ | apply Gr.drewN | apply Gr.drew | apply Gr.gw | apply Gr.alloc)) g2
    have hsz1 : w.heap.size ≤ w1.heap.size := G1.size
    clear g2 G1
    go_wp2_with fail
    ((with_reducible refine (aliveCtrl _).mono ?_); rintro e' w3 ⟨rfl, g3⟩)
    go_wp2_with fail
    go_ret
    exact ⟨rfl, (Gr.trans G2 g3).below⟩

theorem pick4 (w : World) (b off len : Nat) (h : ∀ i, i < len → ∃ cs, Fits [some .u8, some .u16, some .u16, some .u64] cs ∧ cs.length = 4 ∧ ∀ j, j < 4 → w.cell? ⟨b, off + (i * 4 + j), none⟩ = cs[j]?) :
    ∃ K Z V P : Nat → Int, (∀ i, i < len → w.cell? ⟨b, off + i * 4, none⟩ = some (.int .u8 (K i)) ∧ w.cell? ⟨b, off + i * 4 + 1, none⟩ = some (.int .u16 (Z i)) ∧ w.cell? ⟨b, off + i * 4 + 2, none⟩ = some (.int .u16 (V i)) ∧ w.cell? ⟨b, off + i * 4 + 3, none⟩ = some (.int .u64 (P i))) ∧
      ∀ i, i < len → (0 ≤ K i ∧ K i ≤ 255) ∧ (0 ≤ Z i ∧ Z i ≤ 65535) ∧ (0 ≤ V i ∧ V i ≤ 65535) ∧ W64 (P i) := by
  have g : ∀ i, ∃ p : Int × Int × Int × Int, i < len → (w.cell? ⟨b, off + i * 4, none⟩ = some (.int .u8 p.1) ∧ w.cell? ⟨b, off + i * 4 + 1, none⟩ = some (.int .u16 p.2.1) ∧ w.cell? ⟨b, off + i * 4 + 2, none⟩ = some (.int .u16 p.2.2.1) ∧ w.cell? ⟨b, off + i * 4 + 3, none⟩ = some (.int .u64 p.2.2.2)) ∧ (0 ≤ p.1 ∧ p.1 ≤ 255) ∧ (0 ≤ p.2.1 ∧ p.2.1 ≤ 65535) ∧ (0 ≤ p.2.2.1 ∧ p.2.2.1 ≤ 65535) ∧ W64 p.2.2.2 := by
    intro i
    by_cases hi : i < len
    · obtain ⟨cs, hf, hl, hc⟩ := h i hi
      match cs, hf with
      | [c0, c1, c2, c3], ⟨⟨x, e0, h0⟩, ⟨y, e1, h1⟩, ⟨z, e2, h2⟩, ⟨u, e3, h3⟩, _⟩ =>
        subst e0 e1 e2 e3
        exact ⟨(x, y, z, u), fun _ => ⟨⟨hc 0 (by omega), hc 1 (by omega), hc 2 (by omega), hc 3 (by omega)⟩, wfU8 h0, wfU16 h1, wfU16 h2, wfU64 h3⟩⟩
    · exact ⟨(0, 0, 0, 0), fun h => absurd h hi⟩
  obtain ⟨q, hq⟩ := Classical.axiomOfChoice g
  exact ⟨fun i => (q i).1, fun i => (q i).2.1, fun i => (q i).2.2.1, fun i => (q i).2.2.2, fun i hi => (hq i hi).1, fun i hi => (hq i hi).2⟩

theorem walk (a0 : Option Addr) (len0 cap0 : Nat) (z0 : List Int) (a1 : Option Addr) (len1 cap1 : Nat) (w : World) (w0 : IsRow .u32 w a0 len0 cap0 z0) (w1 : IsRowsF w a1 len1 cap1 4 [some .u8, some .u16, some .u16, some .u64]) :
    Calls Try.prog 9 #[.slice a0 len0 cap0, .slice a1 len1 cap1] w fun e w' => e = .returned (.bool true) ∧ Below w.heap.size w w' := by
  have hnm := nums_of_row w0
  have hma := confI_made (atF len0 (fun i => z0.getD i 0)) (fun i => hnm.atF i)
  have hzc : ∀ w, Nums w a0 len0 (fun i => z0.getD i 0) → _ := fun w h => zConf a0 len0 cap0 (fun i => z0.getD i 0) w h
  obtain ⟨y5, hy5⟩ : ∃ y, cf5 (atF len0 (fun i => z0.getD i 0)) = y := ⟨_, rfl⟩
  obtain ⟨y6, hy6⟩ : ∃ y, cf6 (atF len0 (fun i => z0.getD i 0)) = y := ⟨_, rfl⟩
  obtain ⟨y7, hy7⟩ : ∃ y, cf7 (atF len0 (fun i => z0.getD i 0)) = y := ⟨_, rfl⟩
  obtain ⟨y8, hy8⟩ : ∃ y, cf8 (atF len0 (fun i => z0.getD i 0)) = y := ⟨_, rfl⟩
  obtain ⟨y9, hy9⟩ : ∃ y, cf9 (atF len0 (fun i => z0.getD i 0)) = y := ⟨_, rfl⟩
  obtain ⟨y10, hy10⟩ : ∃ y, cf10 (atF len0 (fun i => z0.getD i 0)) = y := ⟨_, rfl⟩
  have B := fun i => hnm.atF i
  have b0 := B 0
  have b1 := B 1
  have b2 := B 2
  have b3 := B 3
  have b9 := B 9
  have b10 := B 10
  clear B
  have e5 := hy5
  have e6 := hy6
  have e7 := hy7
  have e8 := hy8
  have e9 := hy9
  have e10 := hy10
  unfold cf5 at e5
  unfold cf6 at e6
  unfold cf7 at e7
  unfold cf8 at e8
  unfold cf9 at e9
  unfold cf10 at e10
  have hy : MayK y9 y5 y7 y8 := ⟨by omega, by omega, by omega, by omega, by omega⟩
  have h5 : W64 y5 := ⟨by omega, by omega⟩
  have h10 : W64 y10 := ⟨by omega, by omega⟩
  have T : W64 18446744073709551615 := Wlit (by omega)
  have O : W64 0 := Wlit (by omega)
  have hp0 : PlayK y9 y5 y7 y8 (staW true y6) y6 0 0 0 :=
    ⟨⟨(show W64 y6 from ⟨by omega, by omega⟩), T, O, O, T, O, O, O, O⟩, (show y7 ≤ y6 by omega), (show y6 ≤ y8 by omega), (show y7 ≤ 18446744073709551615 by omega), (show y6 ≤ y6 by omega), fun _ => ⟨(show (0 : Int) ≤ 0 by omega), (show y6 + 0 ≤ y6 by omega)⟩, fun _ => ⟨(show (0 : Int) ≤ 0 by omega), (show (0 : Int) ≤ y6 by omega)⟩, by omega, by omega, by omega, ⟨(show (0 : Int) ≤ 0 by omega), (show (0 : Int) ≤ _ by omega)⟩⟩
  rw [hy5, hy6, hy7, hy8, hy9, hy10] at hma hzc
  rcases w1.plain (by omega) with h0 | ⟨h0, hm, b, off, rfl, hb, hx⟩
  · exact walkShort (cf0 (atF len0 (fun i => z0.getD i 0))) (cf1 (atF len0 (fun i => z0.getD i 0))) (cf2 (atF len0 (fun i => z0.getD i 0))) (cf3 (atF len0 (fun i => z0.getD i 0))) (cf4 (atF len0 (fun i => z0.getD i 0))) y5 y6 y7 y8 y9 y10 (cf11 (atF len0 (fun i => z0.getD i 0))) (cf12 (atF len0 (fun i => z0.getD i 0))) (cf13 (atF len0 (fun i => z0.getD i 0))) (cf14 (atF len0 (fun i => z0.getD i 0))) (cf15 (atF len0 (fun i => z0.getD i 0))) (cf16 (atF len0 (fun i => z0.getD i 0))) a0 len0 cap0 (fun i => z0.getD i 0) a1 len1 cap1 _ w (.inl h0) (by omega) (by rw [hma]; rfl) h5 hy h10 hnm rfl hp0 rfl (Lib.hid hzc)
  · unfold maxLen at hm
    by_cases h300 : 300 < len1
    · exact walkShort (cf0 (atF len0 (fun i => z0.getD i 0))) (cf1 (atF len0 (fun i => z0.getD i 0))) (cf2 (atF len0 (fun i => z0.getD i 0))) (cf3 (atF len0 (fun i => z0.getD i 0))) (cf4 (atF len0 (fun i => z0.getD i 0))) y5 y6 y7 y8 y9 y10 (cf11 (atF len0 (fun i => z0.getD i 0))) (cf12 (atF len0 (fun i => z0.getD i 0))) (cf13 (atF len0 (fun i => z0.getD i 0))) (cf14 (atF len0 (fun i => z0.getD i 0))) (cf15 (atF len0 (fun i => z0.getD i 0))) (cf16 (atF len0 (fun i => z0.getD i 0))) a0 len0 cap0 (fun i => z0.getD i 0) _ len1 cap1 _ w (.inr h300) (by omega) (by rw [hma]; rfl) h5 hy h10 hnm rfl hp0 rfl (Lib.hid hzc)
    · obtain ⟨K, Z, V, P, hcell, hwz⟩ := pick4 w b off len1 hx
      exact walkLong (cf0 (atF len0 (fun i => z0.getD i 0))) (cf1 (atF len0 (fun i => z0.getD i 0))) (cf2 (atF len0 (fun i => z0.getD i 0))) (cf3 (atF len0 (fun i => z0.getD i 0))) (cf4 (atF len0 (fun i => z0.getD i 0))) y5 y6 y7 y8 y9 y10 (cf11 (atF len0 (fun i => z0.getD i 0))) (cf12 (atF len0 (fun i => z0.getD i 0))) (cf13 (atF len0 (fun i => z0.getD i 0))) (cf14 (atF len0 (fun i => z0.getD i 0))) (cf15 (atF len0 (fun i => z0.getD i 0))) (cf16 (atF len0 (fun i => z0.getD i 0))) a0 len0 cap0 (fun i => z0.getD i 0) b off len1 cap1 K Z V P _ w (by omega) hb hcell hwz (by rw [hma]; rfl) h5 hy h10 hnm rfl hp0 rfl (Lib.hid hzc)

/-! ### the row's step -/
set_option maxRecDepth 100000 in
theorem lifted (os : Os) (started : os.Started) (H : Type) (enc : TypeId × Value → H) :
    ReturnsInHanded {} Try.checked os 9 .any (Rows.controlPlaysSpec.pre6 enc Try.prog Try.f9 Rows.controlPlaysRow.domain false) (Rows.controlPlaysSpec.post enc Try.prog Try.f9 false true false false) := by
  refine returnsInHanded_of_change (C := Try.checked) own started (by kernel_rfl) Try.func9
    (ChangeSpec.witness6 (enc := enc) (C := Try.checked) false ⟨#[], #[.slice none 0 0, .slice none 0 0], []⟩ 8 (by kernel_rfl) (by kernel_rfl) (by kernel_rfl) (by kernel_rfl)) ?_
  intro W base args ds gs before hval0 hW hcnd _
  have hval : ∀ (j : Nat) t v, Try.f9.params[j]? = some t → args[j]? = some v → Value.okWide Try.prog W .any base t v := hval0
  have hW' := hW
  obtain ⟨p, q, hA0, hV, rfl, hfz, hnd⟩ := hW
  have hA : DataW.TrodAll enc Try.prog W 0 (fun _ => true) true Try.f9.params.toList args.toList ds p := hA0
  rw [Try.params9] at hA hval
  obtain ⟨v0, vs0, d0, ds0, p0, q0, hargs, rfl, rfl, h0, r0⟩ := trodAll_cons hA
  obtain ⟨v1, vs1, d1, ds1, p1, q1, rfl, rfl, rfl, h1, r1⟩ := trodAll_cons r0
  obtain ⟨rfl, rfl, rfl⟩ := trodAll_nil r1
  obtain rfl : args = #[v0, v1] := by cases args; simp_all
  obtain ⟨rfl, rfl⟩ := trodVars_none hV
  obtain ⟨a0, len0, cap0, rfl⟩ := okWide_slice Try.underlying25 (hval 0 25 v0 rfl rfl)
  have k0 := h0
  have lt0 : ∀ x ∈ p0, x.block < W.heap.size := by obtain ⟨m, hm⟩ := k0; exact DataW.trod_lt m _ _ _ hm
  obtain ⟨z0, w0⟩ : ∃ zs, IsRow .u32 W a0 len0 cap0 zs := by
    obtain ⟨fuel, hf⟩ := h0
    rcases open_ints Try.underlying25 Try.underlying45 (by kernel_rfl) hf with ⟨hcs, _⟩ | ⟨x, l, c, zs, hcs, _, hl, hm, hz, _, hcell, hwz⟩
    · simp [Value.cells] at hcs
      obtain ⟨rfl, rfl, rfl⟩ := hcs
      exact ⟨[], .inl ⟨rfl, rfl, rfl, rfl⟩⟩
    · simp [Value.cells] at hcs
      obtain ⟨rfl, rfl, rfl⟩ := hcs
      exact ⟨zs, .inr ⟨_, rfl, hl, hm, by simpa using hz, hcell, hwz⟩⟩
  obtain ⟨a1, len1, cap1, rfl⟩ := okWide_slice Try.underlying66 (hval 1 66 v1 rfl rfl)
  have k1 := h1
  have lt1 : ∀ x ∈ p1, x.block < W.heap.size := by obtain ⟨m, hm⟩ := k1; exact DataW.trod_lt m _ _ _ hm
  have w1 : IsRowsF W a1 len1 cap1 4 [some .u8, some .u16, some .u16, some .u64] := by
    obtain ⟨fuel, hf⟩ := h1
    have h := rows_of_trod [some .u8, some .u16, some .u16, some .u64] Try.underlying66 (by simpa [Value.cells] using hf) (fun m cs y hy => fits_of_trod 8 69 _ m _ _ (by kernel_rfl) hy)
    rwa [show Try.prog.cellsOf 69 = 4 from by kernel_rfl] at h
  clear hA0 hval0
  refine (walk a0 len0 cap0 z0 a1 len1 cap1 W w0 w1).mono fun e W' ⟨he, bel⟩ => ?_
  subst he
  exact ⟨_, rfl, _, _, _, [], _, [], hW', trodAll_mk1 (shut_bool Try.underlying4 _), (trodAll_cons_mk (Below.trod laidOut (by kernel_rfl) (of_decide_eq_true (by kernel_rfl)) k0 bel lt0) (trodAll_cons_mk (Below.trod laidOut (by kernel_rfl) (of_decide_eq_true (by kernel_rfl)) k1 bel lt1) trodAll_mk0)), rfl, bel.frame _, fun h => by cases h⟩

theorem over : Rows.controlPlaysRow.holds Try.pinned (OpenSpec.ofChange Rows.controlPlaysSpec) :=
  OpenClaim.holds_of_wide 9 Try.f9 rfl rfl rfl rfl rfl rfl rfl ⟨rfl, rfl, rfl, rfl, rfl⟩ rfl rfl rfl rfl rfl (by kernel_rfl) Try.func9 (by kernel_rfl)
    (of_decide_eq_true (by kernel_rfl)) (by unfold Func.isWrapper; first | (rw [if_pos (by decide +kernel)]; kernel_rfl) | (rw [if_neg (by decide +kernel)]; exact ⟨rfl, rfl⟩))
    (fun os started H enc _ => lifted os started H enc)

/-- THE STATEMENT -/
theorem proved : Rows.ControlPlaysSaid := over
end Go.Proofs.Ytikkmdbaekdolaa.controlPlays
