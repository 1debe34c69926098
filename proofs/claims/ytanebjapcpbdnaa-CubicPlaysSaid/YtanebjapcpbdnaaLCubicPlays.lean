/- For all 16-bit begin, thresh, 8-bit mss and all slices l of pairs of 16-bit numbers and cuts of bools, CubicPlays returns true: a window, and the fair one, are at most what it began with and all that was acknowledged. No condition. -/
import Derived.Test.YtanebjapcpbdnaaBase
import Derived.Test.YtanebjapcpbdnaaAliveCubic
import Derived.Test.YtanebjapcpbdnaaGrowLaw
import Derived.Test.YtanebjapcpbdnaaRowsF
namespace Go.Proofs.Ytanebjapcpbdnaa.cubicPlays
open Go.ChangeShapes Go.WideShapes Go.ChangeAt Go.RowKit Go.Lib
set_option linter.unusedVariables false

/-- what holds of the window behind k acknowledgments -/
structure PlayC (a2 C T A P E K F M N : Int) (k : Nat) : Prop where
  c : a2 + 1 ≤ C
  cm : C ≤ M
  f0 : 0 ≤ F
  fm : F ≤ M
  m : M ≤ 66000 + 65535 * k
  n0 : 0 ≤ N
  n : N ≤ 65535000 * k
  wt : W64 T
  wa : W64 A
  wp : W64 P
  we : W64 E
  wk : W64 K

set_option maxHeartbeats 6000000 in
set_option maxRecDepth 100000 in
theorem walkLong (a0 a1 a2 : Int) (b off len cap : Nat) (z y : Nat → Int) (cb co clen ccap : Nat) (cz : Nat → Bool) (w : World) (w0 : 0 ≤ a0 ∧ a0 ≤ 65535) (w1 : 0 ≤ a1 ∧ a1 ≤ 65535) (w2 : 0 ≤ a2 ∧ a2 ≤ 255)
    (h1 : len ≤ 300) (hb : b < w.heap.size)
    (hcell : ∀ i, i < len → w.cell? ⟨b, off + i * 2, none⟩ = some (.int .u16 (z i)) ∧ w.cell? ⟨b, off + (i * 2 + 1), none⟩ = some (.int .u16 (y i))) (hwz : ∀ i, i < len → (0 ≤ z i ∧ z i ≤ 65535) ∧ (0 ≤ y i ∧ y i ≤ 65535))
    (hcb : cb < w.heap.size) (hccell : ∀ i, i < clen → w.cell? ⟨cb, co + i, none⟩ = some (.bool (cz i))) (hcl : clen ≤ 9223372036854775807) :
    Calls Try.prog 13 #[.int .u16 a0, .int .u16 a1, .int .u8 a2, .slice (some ⟨b, off, none⟩) len cap, .slice (some ⟨cb, co, none⟩) clen ccap] w fun e w' => e = .returned (.bool true) ∧ Below w.heap.size w w' := by
  obtain ⟨x0, x1⟩ := w0
  obtain ⟨y0, y1⟩ := w1
  obtain ⟨z0, z1⟩ := w2
  have e1 : (len : Int) ≤ 300 := by omega
  have HC := Lib.hid hcell
  have HW := Lib.hid hwz
  have HCC := Lib.hid hccell
  have HWM := Lib.hid (show W64 (a2 + 1) from Wlit (by omega))
  have hbs : ∀ s : Nat, b < w.heap.size + s := fun s => by omega
  have hcbs : ∀ s : Nat, cb < w.heap.size + s := fun s => by omega
  clear hcell hwz hccell
  go_enter Try.func13, Try.ntmps13
  go_wp2_with fail
  refine (aliveCubic _).mono ?_; rintro e' w' ⟨rfl, n1, os1, rfl⟩
  go_wp2_with fail
  go_loopw [13, 14, 39] (fun most now i wr => ∃ (k : Nat) (C T A P E K F M N : Int), i = .int .i64 (k : Int) ∧ k ≤ len ∧ most = .int .u64 M ∧ now = .int .u64 N ∧ PlayC a2 C T A P E K F M N k ∧
      wr.cell? ⟨w.heap.size, 0, none⟩ = some (.int .u64 C) ∧ wr.cell? ⟨w.heap.size, 1, none⟩ = some (.int .u64 T) ∧ wr.cell? ⟨w.heap.size, 2, none⟩ = some (.int .u64 A) ∧ wr.cell? ⟨w.heap.size, 3, none⟩ = some (.int .u64 P) ∧ wr.cell? ⟨w.heap.size, 4, none⟩ = some (.int .u64 E) ∧ wr.cell? ⟨w.heap.size, 5, none⟩ = some (.int .u64 K) ∧ wr.cell? ⟨w.heap.size, 6, none⟩ = some (.int .u64 F) ∧
      (∀ j, j < 7 → wr.frozen? ⟨w.heap.size, j, none⟩ = false) ∧ w.heap.size < wr.heap.size ∧ Below w.heap.size w wr) (fun _ _ i _ => (len - intOf i).toNat)
  case atStart =>
    refine ⟨0, a2 + 1 + a0, a1, 0, 0, 18446744073709551615, 0, 0, a2 + 1 + a0, 0, rfl, by omega, rfl, rfl, ⟨by omega, by omega, by omega, by omega, by omega, by omega, by omega, Wlit (by omega), Wlit (by omega), Wlit (by omega), Wlit (by omega), Wlit (by omega)⟩, by go_simp, by go_simp, by go_simp, by go_simp, by go_simp, by go_simp, by go_simp, ?_, by simp, ?_⟩
    · intro j hj
      rcases (by omega : j = 0 ∨ j = 1 ∨ j = 2 ∨ j = 3 ∨ j = 4 ∨ j = 5 ∨ j = 6) with rfl | rfl | rfl | rfl | rfl | rfl | rfl <;> go_simp
    · exact Gr.below (by repeat (first | exact Gr.refl _ | apply Gr.drewN | apply Gr.drew | apply Gr.gw | apply Gr.alloc))
  case round =>
    obtain ⟨k, C, T, A, P, E, K, F, M, N, rfl, hk, rfl, rfl, ⟨i1, i2, i3, i4, i5, i6, i7, i8, i9, i10, i11, i12⟩, d0, d1, d2, d3, d4, d5, d6, hfz, hB, hbel⟩ := hrel
    have HM5 := Lib.hid i5
    have HN7 := Lib.hid i7
    have m5 : M ≤ 20000000 := by omega
    have m7 : N ≤ 20000000000 := by omega
    clear i5 i7
    have f0 := hfz 0 (by omega)
    have f1 := hfz 1 (by omega)
    have f2 := hfz 2 (by omega)
    have f3 := hfz 3 (by omega)
    have f4 := hfz 4 (by omega)
    have f5 := hfz 5 (by omega)
    have f6 := hfz 6 (by omega)
    have HBel := Lib.hid hbel
    have hB2 : ∀ s : Nat, w.heap.size < wr.heap.size + s := fun s => by omega
    have hB3 : ∀ s t : Nat, w.heap.size < wr.heap.size + s + t := fun s t => by omega
    have hb2 : b < wr.heap.size := by have := hbel.size; omega
    have hcb2 : cb < wr.heap.size := by have := hbel.size; omega
    clear hfz hbel
    by_cases hlt : k < len
    · have ck : wr.cell? ⟨b, off + k * 2, none⟩ = some (.int .u16 (z k)) := by rw [HBel.out.cell hb]; exact (HC.out k hlt).1
      have ck1 : wr.cell? ⟨b, off + (k * 2 + 1), none⟩ = some (.int .u16 (y k)) := by rw [HBel.out.cell hb]; exact (HC.out k hlt).2
      have ck2 : wr.cell? ⟨b, off + k * 2 + 1, none⟩ = some (.int .u16 (y k)) := ck1
      obtain ⟨⟨zk0, zk1⟩, zy0, zy1⟩ := HW.out k hlt
      have hlt' : (k : Int) < (len : Int) := by omega
      have HWC := Lib.hid (show W64 C from Wlit (by omega))
      have HWF := Lib.hid (show W64 F from Wlit (by omega))
      have HWN := Lib.hid (show W64 (N + y k * 1000) from Wlit (by omega))
      have HWT := Lib.hid i8
      have HWA := Lib.hid i9
      have HWP := Lib.hid i10
      have HWE := Lib.hid i11
      have HWK := Lib.hid i12
      clear i8 i9 i10 i11 i12
      have HWZ := Lib.hid (show W64 (z k) from Wlit (by omega))
      obtain ⟨g1, g2, g3, g4⟩ := growPlays C T P E K F (z k) (a2 + 1) (N + y k * 1000) 30000 M ⟨by omega, by omega⟩ i1 i2 ⟨i3, i4⟩ (by omega) ⟨by omega, by omega⟩
      obtain ⟨u1, u2, u3⟩ := gw_W C T P E K F (z k) (a2 + 1) (N + y k * 1000) 30000 HWC.out HWP.out HWE.out HWK.out HWN.out
      have U1 := Lib.hid u1
      have U2 := Lib.hid u2
      have U3 := Lib.hid u3
      clear u1 u2 u3
      by_cases hcut : k < clen
      · have hcutI : (k : Int) < (clen : Int) := by omega
        have cck : wr.cell? ⟨cb, co + k, none⟩ = some (.bool (cz k)) := by rw [HBel.out.cell hcb]; exact HCC.out k hcut
        cases hz : cz k
        · rw [hz] at cck
          clear hz
          go_wp2_with fail
          refine region_tail 9 (by kernel_rfl) (by kernel_rfl) ?_
          simp only [List.take_succ_cons, List.take_zero, List.drop_succ_cons, List.drop_zero]
          repeat still_step
          refine wpStill_nil ?_
          go_wp2_with fail
          refine (tGrow C T A P E K F (z k) (a2 + 1) (N + y k * 1000) 30000 HWC.out HWP.out HWE.out HWK.out HWF.out HWZ.out HWM.out HWN.out (Wlit (by omega)) _).mono ?_; rintro e' w' ⟨rfl, n3, os3, rfl⟩
          go_wp2_with fail
          go_roundw
          case rel =>
            have i5 := HM5.out
            have i7 := HN7.out
            refine ⟨k + 1, gwC C T P E K F (z k) (a2 + 1) (N + y k * 1000) 30000, T, A, gwP C T P E, gwE C T E (N + y k * 1000), gwK C T P E K (a2 + 1), gwF C T P E F (z k) (a2 + 1), M + z k, N + y k * 1000, by congr 1, by omega, rfl, rfl, ⟨by omega, by omega, by omega, by omega, by omega, by omega, by omega, HWT.out, HWA.out, U1.out, U2.out, U3.out⟩, by go_simp, by go_simp, by go_simp, by go_simp, by go_simp, by go_simp, by go_simp, ?_, by go_simp, ?_⟩
            · intro j hj
              rcases (by omega : j = 0 ∨ j = 1 ∨ j = 2 ∨ j = 3 ∨ j = 4 ∨ j = 5 ∨ j = 6) with rfl | rfl | rfl | rfl | rfl | rfl | rfl <;> go_simp
            · have hs := HBel.out.size
              repeat (first | with_reducible exact HBel.out | with_reducible apply below_drewN | with_reducible apply Below.drew | with_reducible refine below_gw ?_ (by simp; omega) _ | with_reducible refine Below.alloc ?_ (by simp; omega) _ | with_reducible refine Below.setCell ?_ (by first | (simp; done) | (simp; omega)) _)
          case measure => simp only [intOf]; omega
        · rw [hz] at cck
          clear hz
          by_cases h2 : 2 * (a2 + 1) ≤ gwC C T P E K F (z k) (a2 + 1) (N + y k * 1000) 30000
          · have hd1 := cut7 (gwC C T P E K F (z k) (a2 + 1) (N + y k * 1000) 30000) (a2 + 1) (by omega) h2 (by omega)
            have HWG := Lib.hid (show W64 (gwC C T P E K F (z k) (a2 + 1) (N + y k * 1000) 30000) from Wlit (by omega))
            go_wp2_with fail
            refine region_tail 9 (by kernel_rfl) (by kernel_rfl) ?_
            simp only [List.take_succ_cons, List.take_zero, List.drop_succ_cons, List.drop_zero]
            repeat still_step
            refine wpStill_nil ?_
            go_wp2_with fail
            refine (tGrow C T A P E K F (z k) (a2 + 1) (N + y k * 1000) 30000 HWC.out HWP.out HWE.out HWK.out HWF.out HWZ.out HWM.out HWN.out (Wlit (by omega)) _).mono ?_; rintro e' w' ⟨rfl, n3, os3, rfl⟩
            go_wp2_with fail
            refine (tCut (gwC C T P E K F (z k) (a2 + 1) (N + y k * 1000) 30000) T A (gwP C T P E) (gwE C T E (N + y k * 1000)) (gwK C T P E K (a2 + 1)) (gwF C T P E F (z k) (a2 + 1)) 7 10 HWG.out (Wlit (by omega)) (Wlit (by omega)) _).mono ?_; rintro e' w' ⟨rfl, n4, os4, rfl⟩
            go_wp2_with fail
            go_roundw
            case rel =>
              have i5 := HM5.out
              have i7 := HN7.out
              refine ⟨k + 1, downI (gwC C T P E K F (z k) (a2 + 1) (N + y k * 1000) 30000) 7 10, downI (gwC C T P E K F (z k) (a2 + 1) (N + y k * 1000) 30000) 7 10, 0, cutP (gwC C T P E K F (z k) (a2 + 1) (N + y k * 1000) 30000) (gwP C T P E), 18446744073709551615, 0, 0, M + z k, N + y k * 1000, by congr 1, by omega, rfl, rfl, ⟨by omega, by omega, by omega, by omega, by omega, by omega, by omega, Wlit (by omega), Wlit (by omega), cutP_W _ _ HWG.out, Wlit (by omega), Wlit (by omega)⟩, by go_simp, by go_simp, by go_simp, by go_simp, by go_simp, by go_simp, by go_simp, ?_, by go_simp, ?_⟩
              · intro j hj
                rcases (by omega : j = 0 ∨ j = 1 ∨ j = 2 ∨ j = 3 ∨ j = 4 ∨ j = 5 ∨ j = 6) with rfl | rfl | rfl | rfl | rfl | rfl | rfl <;> go_simp
              · have hs := HBel.out.size
                repeat (first | with_reducible exact HBel.out | with_reducible apply below_drewN | with_reducible apply Below.drew | with_reducible refine below_gw ?_ (by simp; omega) _ | with_reducible refine Below.alloc ?_ (by simp; omega) _ | with_reducible refine Below.setCell ?_ (by first | (simp; done) | (simp; omega)) _)
            case measure => simp only [intOf]; omega
          · have h2' : gwC C T P E K F (z k) (a2 + 1) (N + y k * 1000) 30000 < 2 * (a2 + 1) := by omega
            clear h2
            go_wp2_with fail
            refine region_tail 9 (by kernel_rfl) (by kernel_rfl) ?_
            simp only [List.take_succ_cons, List.take_zero, List.drop_succ_cons, List.drop_zero]
            repeat still_step
            refine wpStill_nil ?_
            go_wp2_with fail
            refine (tGrow C T A P E K F (z k) (a2 + 1) (N + y k * 1000) 30000 HWC.out HWP.out HWE.out HWK.out HWF.out HWZ.out HWM.out HWN.out (Wlit (by omega)) _).mono ?_; rintro e' w' ⟨rfl, n3, os3, rfl⟩
            go_wp2_with fail
            go_roundw
            case rel =>
              have i5 := HM5.out
              have i7 := HN7.out
              refine ⟨k + 1, gwC C T P E K F (z k) (a2 + 1) (N + y k * 1000) 30000, T, A, gwP C T P E, gwE C T E (N + y k * 1000), gwK C T P E K (a2 + 1), gwF C T P E F (z k) (a2 + 1), M + z k, N + y k * 1000, by congr 1, by omega, rfl, rfl, ⟨by omega, by omega, by omega, by omega, by omega, by omega, by omega, HWT.out, HWA.out, U1.out, U2.out, U3.out⟩, by go_simp, by go_simp, by go_simp, by go_simp, by go_simp, by go_simp, by go_simp, ?_, by go_simp, ?_⟩
              · intro j hj
                rcases (by omega : j = 0 ∨ j = 1 ∨ j = 2 ∨ j = 3 ∨ j = 4 ∨ j = 5 ∨ j = 6) with rfl | rfl | rfl | rfl | rfl | rfl | rfl <;> go_simp
              · have hs := HBel.out.size
                repeat (first | with_reducible exact HBel.out | with_reducible apply below_drewN | with_reducible apply Below.drew | with_reducible refine below_gw ?_ (by simp; omega) _ | with_reducible refine Below.alloc ?_ (by simp; omega) _ | with_reducible refine Below.setCell ?_ (by first | (simp; done) | (simp; omega)) _)
            case measure => simp only [intOf]; omega
      · have hcutI : (clen : Int) ≤ (k : Int) := by omega
        have hd : decide ((k : Int) < (clen : Int)) = false := by rw [decide_eq_false_iff_not]; omega
        clear hcut
        go_wp2_with fail
        refine region_tail 9 (by kernel_rfl) (by kernel_rfl) ?_
        simp only [List.take_succ_cons, List.take_zero, List.drop_succ_cons, List.drop_zero]
        repeat still_step
        refine wpStill_nil ?_
        go_wp2_with fail
        refine (tGrow C T A P E K F (z k) (a2 + 1) (N + y k * 1000) 30000 HWC.out HWP.out HWE.out HWK.out HWF.out HWZ.out HWM.out HWN.out (Wlit (by omega)) _).mono ?_; rintro e' w' ⟨rfl, n3, os3, rfl⟩
        go_wp2_with fail
        go_roundw
        case rel =>
          have i5 := HM5.out
          have i7 := HN7.out
          refine ⟨k + 1, gwC C T P E K F (z k) (a2 + 1) (N + y k * 1000) 30000, T, A, gwP C T P E, gwE C T E (N + y k * 1000), gwK C T P E K (a2 + 1), gwF C T P E F (z k) (a2 + 1), M + z k, N + y k * 1000, by congr 1, by omega, rfl, rfl, ⟨by omega, by omega, by omega, by omega, by omega, by omega, by omega, HWT.out, HWA.out, U1.out, U2.out, U3.out⟩, by go_simp, by go_simp, by go_simp, by go_simp, by go_simp, by go_simp, by go_simp, ?_, by go_simp, ?_⟩
          · intro j hj
            rcases (by omega : j = 0 ∨ j = 1 ∨ j = 2 ∨ j = 3 ∨ j = 4 ∨ j = 5 ∨ j = 6) with rfl | rfl | rfl | rfl | rfl | rfl | rfl <;> go_simp
          · have hs := HBel.out.size
            repeat (first | with_reducible exact HBel.out | with_reducible apply below_drewN | with_reducible apply Below.drew | with_reducible refine below_gw ?_ (by simp; omega) _ | with_reducible refine Below.alloc ?_ (by simp; omega) _ | with_reducible refine Below.setCell ?_ (by first | (simp; done) | (simp; omega)) _)
        case measure => simp only [intOf]; omega
    · have hd : decide ((k : Int) < (len : Int)) = false := by rw [decide_eq_false_iff_not]; omega
      go_wp2_with fail
      go_ret
      exact ⟨rfl, HBel.out⟩

set_option maxHeartbeats 6000000 in
set_option maxRecDepth 100000 in
theorem walkNone (a0 a1 a2 : Int) (b off len cap : Nat) (z y : Nat → Int) (ca : Option Addr) (ccap : Nat) (w : World) (w0 : 0 ≤ a0 ∧ a0 ≤ 65535) (w1 : 0 ≤ a1 ∧ a1 ≤ 65535) (w2 : 0 ≤ a2 ∧ a2 ≤ 255)
    (h1 : len ≤ 300) (hb : b < w.heap.size)
    (hcell : ∀ i, i < len → w.cell? ⟨b, off + i * 2, none⟩ = some (.int .u16 (z i)) ∧ w.cell? ⟨b, off + (i * 2 + 1), none⟩ = some (.int .u16 (y i))) (hwz : ∀ i, i < len → (0 ≤ z i ∧ z i ≤ 65535) ∧ (0 ≤ y i ∧ y i ≤ 65535)) :
    Calls Try.prog 13 #[.int .u16 a0, .int .u16 a1, .int .u8 a2, .slice (some ⟨b, off, none⟩) len cap, .slice ca 0 ccap] w fun e w' => e = .returned (.bool true) ∧ Below w.heap.size w w' := by
  obtain ⟨x0, x1⟩ := w0
  obtain ⟨y0, y1⟩ := w1
  obtain ⟨z0, z1⟩ := w2
  have e1 : (len : Int) ≤ 300 := by omega
  have HC := Lib.hid hcell
  have HW := Lib.hid hwz
  have HCC : True := trivial
  have HWM := Lib.hid (show W64 (a2 + 1) from Wlit (by omega))
  have hbs : ∀ s : Nat, b < w.heap.size + s := fun s => by omega

  clear hcell hwz 
  go_enter Try.func13, Try.ntmps13
  go_wp2_with fail
  refine (aliveCubic _).mono ?_; rintro e' w' ⟨rfl, n1, os1, rfl⟩
  go_wp2_with fail
  go_loopw [13, 14, 39] (fun most now i wr => ∃ (k : Nat) (C T A P E K F M N : Int), i = .int .i64 (k : Int) ∧ k ≤ len ∧ most = .int .u64 M ∧ now = .int .u64 N ∧ PlayC a2 C T A P E K F M N k ∧
      wr.cell? ⟨w.heap.size, 0, none⟩ = some (.int .u64 C) ∧ wr.cell? ⟨w.heap.size, 1, none⟩ = some (.int .u64 T) ∧ wr.cell? ⟨w.heap.size, 2, none⟩ = some (.int .u64 A) ∧ wr.cell? ⟨w.heap.size, 3, none⟩ = some (.int .u64 P) ∧ wr.cell? ⟨w.heap.size, 4, none⟩ = some (.int .u64 E) ∧ wr.cell? ⟨w.heap.size, 5, none⟩ = some (.int .u64 K) ∧ wr.cell? ⟨w.heap.size, 6, none⟩ = some (.int .u64 F) ∧
      (∀ j, j < 7 → wr.frozen? ⟨w.heap.size, j, none⟩ = false) ∧ w.heap.size < wr.heap.size ∧ Below w.heap.size w wr) (fun _ _ i _ => (len - intOf i).toNat)
  case atStart =>
    refine ⟨0, a2 + 1 + a0, a1, 0, 0, 18446744073709551615, 0, 0, a2 + 1 + a0, 0, rfl, by omega, rfl, rfl, ⟨by omega, by omega, by omega, by omega, by omega, by omega, by omega, Wlit (by omega), Wlit (by omega), Wlit (by omega), Wlit (by omega), Wlit (by omega)⟩, by go_simp, by go_simp, by go_simp, by go_simp, by go_simp, by go_simp, by go_simp, ?_, by simp, ?_⟩
    · intro j hj
      rcases (by omega : j = 0 ∨ j = 1 ∨ j = 2 ∨ j = 3 ∨ j = 4 ∨ j = 5 ∨ j = 6) with rfl | rfl | rfl | rfl | rfl | rfl | rfl <;> go_simp
    · exact Gr.below (by repeat (first | exact Gr.refl _ | apply Gr.drewN | apply Gr.drew | apply Gr.gw | apply Gr.alloc))
  case round =>
    obtain ⟨k, C, T, A, P, E, K, F, M, N, rfl, hk, rfl, rfl, ⟨i1, i2, i3, i4, i5, i6, i7, i8, i9, i10, i11, i12⟩, d0, d1, d2, d3, d4, d5, d6, hfz, hB, hbel⟩ := hrel
    have HM5 := Lib.hid i5
    have HN7 := Lib.hid i7
    have m5 : M ≤ 20000000 := by omega
    have m7 : N ≤ 20000000000 := by omega
    clear i5 i7
    have f0 := hfz 0 (by omega)
    have f1 := hfz 1 (by omega)
    have f2 := hfz 2 (by omega)
    have f3 := hfz 3 (by omega)
    have f4 := hfz 4 (by omega)
    have f5 := hfz 5 (by omega)
    have f6 := hfz 6 (by omega)
    have HBel := Lib.hid hbel
    have hB2 : ∀ s : Nat, w.heap.size < wr.heap.size + s := fun s => by omega
    have hB3 : ∀ s t : Nat, w.heap.size < wr.heap.size + s + t := fun s t => by omega
    have hb2 : b < wr.heap.size := by have := hbel.size; omega

    clear hfz hbel
    by_cases hlt : k < len
    · have ck : wr.cell? ⟨b, off + k * 2, none⟩ = some (.int .u16 (z k)) := by rw [HBel.out.cell hb]; exact (HC.out k hlt).1
      have ck1 : wr.cell? ⟨b, off + (k * 2 + 1), none⟩ = some (.int .u16 (y k)) := by rw [HBel.out.cell hb]; exact (HC.out k hlt).2
      have ck2 : wr.cell? ⟨b, off + k * 2 + 1, none⟩ = some (.int .u16 (y k)) := ck1
      obtain ⟨⟨zk0, zk1⟩, zy0, zy1⟩ := HW.out k hlt
      have hlt' : (k : Int) < (len : Int) := by omega
      have HWC := Lib.hid (show W64 C from Wlit (by omega))
      have HWF := Lib.hid (show W64 F from Wlit (by omega))
      have HWN := Lib.hid (show W64 (N + y k * 1000) from Wlit (by omega))
      have HWT := Lib.hid i8
      have HWA := Lib.hid i9
      have HWP := Lib.hid i10
      have HWE := Lib.hid i11
      have HWK := Lib.hid i12
      clear i8 i9 i10 i11 i12
      have HWZ := Lib.hid (show W64 (z k) from Wlit (by omega))
      obtain ⟨g1, g2, g3, g4⟩ := growPlays C T P E K F (z k) (a2 + 1) (N + y k * 1000) 30000 M ⟨by omega, by omega⟩ i1 i2 ⟨i3, i4⟩ (by omega) ⟨by omega, by omega⟩
      obtain ⟨u1, u2, u3⟩ := gw_W C T P E K F (z k) (a2 + 1) (N + y k * 1000) 30000 HWC.out HWP.out HWE.out HWK.out HWN.out
      have U1 := Lib.hid u1
      have U2 := Lib.hid u2
      have U3 := Lib.hid u3
      clear u1 u2 u3
      · have hk0 : (0 : Int) ≤ (k : Int) := by omega
        go_wp2_with fail
        refine region_tail 9 (by kernel_rfl) (by kernel_rfl) ?_
        simp only [List.take_succ_cons, List.take_zero, List.drop_succ_cons, List.drop_zero]
        repeat still_step
        refine wpStill_nil ?_
        go_wp2_with fail
        refine (tGrow C T A P E K F (z k) (a2 + 1) (N + y k * 1000) 30000 HWC.out HWP.out HWE.out HWK.out HWF.out HWZ.out HWM.out HWN.out (Wlit (by omega)) _).mono ?_; rintro e' w' ⟨rfl, n3, os3, rfl⟩
        go_wp2_with fail
        go_roundw
        case rel =>
          have i5 := HM5.out
          have i7 := HN7.out
          refine ⟨k + 1, gwC C T P E K F (z k) (a2 + 1) (N + y k * 1000) 30000, T, A, gwP C T P E, gwE C T E (N + y k * 1000), gwK C T P E K (a2 + 1), gwF C T P E F (z k) (a2 + 1), M + z k, N + y k * 1000, by congr 1, by omega, rfl, rfl, ⟨by omega, by omega, by omega, by omega, by omega, by omega, by omega, HWT.out, HWA.out, U1.out, U2.out, U3.out⟩, by go_simp, by go_simp, by go_simp, by go_simp, by go_simp, by go_simp, by go_simp, ?_, by go_simp, ?_⟩
          · intro j hj
            rcases (by omega : j = 0 ∨ j = 1 ∨ j = 2 ∨ j = 3 ∨ j = 4 ∨ j = 5 ∨ j = 6) with rfl | rfl | rfl | rfl | rfl | rfl | rfl <;> go_simp
          · have hs := HBel.out.size
            repeat (first | with_reducible exact HBel.out | with_reducible apply below_drewN | with_reducible apply Below.drew | with_reducible refine below_gw ?_ (by simp; omega) _ | with_reducible refine Below.alloc ?_ (by simp; omega) _ | with_reducible refine Below.setCell ?_ (by first | (simp; done) | (simp; omega)) _)
        case measure => simp only [intOf]; omega
    · have hd : decide ((k : Int) < (len : Int)) = false := by rw [decide_eq_false_iff_not]; omega
      go_wp2_with fail
      go_ret
      exact ⟨rfl, HBel.out⟩

set_option maxHeartbeats 400000 in
theorem walkShort (a0 a1 a2 : Int) (a : Option Addr) (len cap : Nat) (c : Option Addr) (clen ccap : Nat) (w : World) (w0 : 0 ≤ a0 ∧ a0 ≤ 65535) (w1 : 0 ≤ a1 ∧ a1 ≤ 65535) (w2 : 0 ≤ a2 ∧ a2 ≤ 255) (h : len = 0 ∨ 300 < len) (hl : len ≤ 9223372036854775807) :
    Calls Try.prog 13 #[.int .u16 a0, .int .u16 a1, .int .u8 a2, .slice a len cap, .slice c clen ccap] w fun e w' => e = .returned (.bool true) ∧ Below w.heap.size w w' := by
  obtain ⟨x0, x1⟩ := w0
  obtain ⟨y0, y1⟩ := w1
  obtain ⟨z0, z1⟩ := w2
  rcases h with rfl | h
  · go_enter Try.func13, Try.ntmps13
    go_wp2_with fail
    refine (aliveCubic _).mono ?_; rintro e' w' ⟨rfl, n1, os1, rfl⟩
    go_wp2_with fail
    refine wp_loop_rounds 1 ?_; rw [rounds_succ]
    go_wp2_with fail
    go_ret
    exact ⟨ret_bool (decide_eq_true (by omega)), Gr.below (by repeat (first | exact Gr.refl _ | apply Gr.drewN | apply Gr.drew | apply Gr.gw | apply Gr.alloc))⟩
  · have e2 : (300 : Int) < (len : Int) := by omega
    go_enter Try.func13, Try.ntmps13
    go_wp2_with fail
    refine (aliveCubic _).mono ?_; rintro e' w' ⟨rfl, n1, os1, rfl⟩
    go_wp2_with fail
    refine (aliveCubic _).mono ?_; rintro e' w' ⟨rfl, n2, os2, rfl⟩
    go_wp2_with fail
    go_ret
    exact ⟨rfl, Gr.below (by repeat (first | exact Gr.refl _ | apply Gr.drewN | apply Gr.drew | apply Gr.gw | apply Gr.alloc))⟩

theorem pick (w : World) (b off len : Nat) (h : ∀ i, i < len → ∃ cs, Fits [some .u16, some .u16] cs ∧ cs.length = 2 ∧ ∀ j, j < 2 → w.cell? ⟨b, off + (i * 2 + j), none⟩ = cs[j]?) :
    ∃ z y : Nat → Int, (∀ i, i < len → w.cell? ⟨b, off + i * 2, none⟩ = some (.int .u16 (z i)) ∧ w.cell? ⟨b, off + (i * 2 + 1), none⟩ = some (.int .u16 (y i))) ∧ ∀ i, i < len → (0 ≤ z i ∧ z i ≤ 65535) ∧ (0 ≤ y i ∧ y i ≤ 65535) := by
  have g : ∀ i, ∃ p : Int × Int, i < len → (w.cell? ⟨b, off + i * 2, none⟩ = some (.int .u16 p.1) ∧ w.cell? ⟨b, off + (i * 2 + 1), none⟩ = some (.int .u16 p.2)) ∧ (0 ≤ p.1 ∧ p.1 ≤ 65535) ∧ (0 ≤ p.2 ∧ p.2 ≤ 65535) := by
    intro i
    by_cases hi : i < len
    · obtain ⟨cs, hf, hl, hc⟩ := h i hi
      match cs, hf with
      | [c0, c1], ⟨⟨x, e0, h0⟩, ⟨y, e1, h1⟩, _⟩ =>
        subst e0 e1
        exact ⟨(x, y), fun _ => ⟨⟨hc 0 (by omega), hc 1 (by omega)⟩, wfU16 h0, wfU16 h1⟩⟩
    · exact ⟨(0, 0), fun h => absurd h hi⟩
  obtain ⟨q, hq⟩ := Classical.axiomOfChoice g
  exact ⟨fun i => (q i).1, fun i => (q i).2, fun i hi => (hq i hi).1, fun i hi => (hq i hi).2⟩

theorem walk (a0 a1 a2 : Int) (a3 : Option Addr) (len3 cap3 : Nat) (a4 : Option Addr) (len4 cap4 : Nat) (z4 : Nat → Bool) (w : World) (w0 : 0 ≤ a0 ∧ a0 ≤ 65535) (w1 : 0 ≤ a1 ∧ a1 ≤ 65535) (w2 : 0 ≤ a2 ∧ a2 ≤ 255) (w3 : IsRowsF w a3 len3 cap3 2 [some .u16, some .u16]) (w4 : IsBits w a4 len4 cap4 z4) :
    Calls Try.prog 13 #[.int .u16 a0, .int .u16 a1, .int .u8 a2, .slice a3 len3 cap3, .slice a4 len4 cap4] w fun e w' => e = .returned (.bool true) ∧ Below w.heap.size w w' := by
  rcases w3.plain (by omega) with h0 | ⟨h0, hm, b, off, rfl, hb, hx⟩
  · exact walkShort a0 a1 a2 a3 len3 cap3 a4 len4 cap4 w w0 w1 w2 (.inl h0) (by omega)
  · unfold maxLen at hm
    by_cases h5 : 300 < len3
    · exact walkShort a0 a1 a2 _ len3 cap3 a4 len4 cap4 w w0 w1 w2 (.inr h5) (by omega)
    · obtain ⟨z, y, hcell, hwz⟩ := pick w b off len3 hx
      rcases w4.plain with rfl | ⟨g0, gm, cb, co, rfl, gb, gcell⟩
      · exact walkNone a0 a1 a2 b off len3 cap3 z y a4 cap4 w w0 w1 w2 (by omega) hb hcell hwz
      · unfold maxLen at gm
        exact walkLong a0 a1 a2 b off len3 cap3 z y cb co len4 cap4 z4 w w0 w1 w2 (by omega) hb hcell hwz gb gcell (by omega)

/-! ### the row's step -/
set_option maxRecDepth 100000 in
theorem lifted (os : Os) (started : os.Started) (H : Type) (enc : TypeId × Value → H) :
    ReturnsInHanded {} Try.checked os 13 .any (Rows.cubicPlaysSpec.pre6 enc Try.prog Try.f13 Rows.cubicPlaysRow.domain false) (Rows.cubicPlaysSpec.post enc Try.prog Try.f13 false true false false) := by
  refine returnsInHanded_of_change (C := Try.checked) own started (by kernel_rfl) Try.func13
    (ChangeSpec.witness6 (enc := enc) (C := Try.checked) false ⟨#[], #[.int .u16 0, .int .u16 0, .int .u8 0, .slice none 0 0, .slice none 0 0], []⟩ 8 (by kernel_rfl) (by kernel_rfl) (by kernel_rfl) (by kernel_rfl)) ?_
  intro W base args ds gs before hval0 hW hcnd _
  have hval : ∀ (j : Nat) t v, Try.f13.params[j]? = some t → args[j]? = some v → Value.okWide Try.prog W .any base t v := hval0
  have hW' := hW
  obtain ⟨p, q, hA0, hV, rfl, hfz, hnd⟩ := hW
  have hA : DataW.TrodAll enc Try.prog W 0 (fun _ => true) true Try.f13.params.toList args.toList ds p := hA0
  rw [Try.params13] at hA hval
  obtain ⟨v0, vs0, d0, ds0, p0, q0, hargs, rfl, rfl, h0, r0⟩ := trodAll_cons hA
  obtain ⟨v1, vs1, d1, ds1, p1, q1, rfl, rfl, rfl, h1, r1⟩ := trodAll_cons r0
  obtain ⟨v2, vs2, d2, ds2, p2, q2, rfl, rfl, rfl, h2, r2⟩ := trodAll_cons r1
  obtain ⟨v3, vs3, d3, ds3, p3, q3, rfl, rfl, rfl, h3, r3⟩ := trodAll_cons r2
  obtain ⟨v4, vs4, d4, ds4, p4, q4, rfl, rfl, rfl, h4, r4⟩ := trodAll_cons r3
  obtain ⟨rfl, rfl, rfl⟩ := trodAll_nil r4
  obtain rfl : args = #[v0, v1, v2, v3, v4] := by cases args; simp_all
  obtain ⟨rfl, rfl⟩ := trodVars_none hV
  obtain ⟨a0, rfl, rfl, rfl, w0⟩ := open_int Try.underlying32 (hval 0 32 v0 rfl rfl) h0
  obtain ⟨a1, rfl, rfl, rfl, w1⟩ := open_int Try.underlying32 (hval 1 32 v1 rfl rfl) h1
  obtain ⟨a2, rfl, rfl, rfl, w2⟩ := open_int Try.underlying5 (hval 2 5 v2 rfl rfl) h2
  obtain ⟨a3, len3, cap3, rfl⟩ := okWide_slice Try.underlying54 (hval 3 54 v3 rfl rfl)
  have k3 := h3
  have lt3 : ∀ x ∈ p3, x.block < W.heap.size := by obtain ⟨m, hm⟩ := k3; exact DataW.trod_lt m _ _ _ hm
  have w3 : IsRowsF W a3 len3 cap3 2 [some .u16, some .u16] := by
    obtain ⟨fuel, hf⟩ := h3
    have h := rows_of_trod [some .u16, some .u16] Try.underlying54 (by simpa [Value.cells] using hf) (fun m cs y hy => pair_of_trod Try.underlying56 Try.underlying32 (by kernel_rfl) (by kernel_rfl) hy)
    rwa [show Try.prog.cellsOf 56 = 2 from by kernel_rfl] at h
  obtain ⟨a4, len4, cap4, rfl⟩ := okWide_slice Try.underlying55 (hval 4 55 v4 rfl rfl)
  have k4 := h4
  have lt4 : ∀ x ∈ p4, x.block < W.heap.size := by obtain ⟨m, hm⟩ := k4; exact DataW.trod_lt m _ _ _ hm
  obtain ⟨z4, w4⟩ : ∃ zs, IsBits W a4 len4 cap4 zs := by
    obtain ⟨fuel, hf⟩ := h4
    rcases Go.Deep.open_bools Try.underlying55 Try.underlying4 (by kernel_rfl) hf with ⟨hcs, _⟩ | ⟨x, l, c, zs, hcs, _, hl, hm, _, hcell⟩
    · simp [Value.cells] at hcs
      obtain ⟨rfl, rfl, rfl⟩ := hcs
      exact ⟨fun _ => false, .inl ⟨rfl, rfl, rfl⟩⟩
    · simp [Value.cells] at hcs
      obtain ⟨rfl, rfl, rfl⟩ := hcs
      exact ⟨zs, .inr ⟨_, rfl, hl, hm, hcell⟩⟩
  clear hA0 hval0
  refine (walk a0 a1 a2 a3 len3 cap3 a4 len4 cap4 z4 W (wfU16 w0) (wfU16 w1) (wfU8 w2) w3 w4).mono fun e W' ⟨he, bel⟩ => ?_
  subst he
  exact ⟨_, rfl, _, _, _, [], _, [], hW', trodAll_mk1 (shut_bool Try.underlying4 _), (trodAll_cons_mk (shut_int Try.underlying32 w0) (trodAll_cons_mk (shut_int Try.underlying32 w1) (trodAll_cons_mk (shut_int Try.underlying5 w2) (trodAll_cons_mk (Below.trod laidOut (by kernel_rfl) (of_decide_eq_true (by kernel_rfl)) k3 bel lt3) (trodAll_cons_mk (Below.trod laidOut (by kernel_rfl) (of_decide_eq_true (by kernel_rfl)) k4 bel lt4) trodAll_mk0))))), rfl, bel.frame _, fun h => by cases h⟩

theorem over : Rows.cubicPlaysRow.holds Try.pinned (OpenSpec.ofChange Rows.cubicPlaysSpec) :=
  OpenClaim.holds_of_wide 13 Try.f13 rfl rfl rfl rfl rfl rfl rfl ⟨rfl, rfl, rfl, rfl, rfl⟩ rfl rfl rfl rfl rfl (by kernel_rfl) Try.func13 (by kernel_rfl)
    (of_decide_eq_true (by kernel_rfl)) (by unfold Func.isWrapper; first | (rw [if_pos (by decide +kernel)]; kernel_rfl) | (rw [if_neg (by decide +kernel)]; exact ⟨rfl, rfl⟩))
    (fun os started H enc _ => lifted os started H enc)

/-- THE STATEMENT -/
theorem proved : Rows.CubicPlaysSaid := over
end Go.Proofs.Ytanebjapcpbdnaa.cubicPlays
