/- the reference's GetData, for all bytes. -/
import Derived.Test.YtikkmdbaekdolaaHead
namespace Go.Proofs.Ytikkmdbaekdolaa
open Go.RowKit Go.Lib
set_option linter.unusedVariables false
set_option maxRecDepth 100000

theorem BytesAt.belowA' {w w' : World} {B b off : Nat} {xs : List Int} (h : BytesAt w b off xs) (hb : Below B w w') (hB : b < B) : BytesAt w' b off xs :=
  ⟨Nat.lt_of_lt_of_le h.1 hb.size, fun i hi => by rw [hb.cell hB]; exact h.2 i hi⟩

set_option maxHeartbeats 8000000 in
theorem rGet (bv : Value) (bs : List Int) (hb : ∀ x ∈ bs, 0 ≤ x ∧ x ≤ 255) (hlen : bs.length ≤ 140737488351232) (w : World) (hB : BodyAt w bv bs) (E : Int) (d : Dat) (hG : getF bs = (E, d)) :
    Calls Try.prog 104 #[bv] w fun e w' => ∃ v, e = .returned (.tuple #[dataV d v, .int .i64 E]) ∧ Below w.heap.size w w' ∧ BodyAt w' v d.body := by
  obtain ⟨i, hi, hzz, hs, hbb⟩ := info_parts (P := Try.prog) (e := 5) (z := .int .u8 0) (size := 1) (bytes := 1) (by kernel_rfl)
  obtain ⟨w2, hw2⟩ : ∃ w2, w2 = (w.alloc (.cells #[.int .u64 0, .int .u64 0, .int .u64 0, .int .u64 0, .int .i64 0, .slice none 0 0] 82 (0, 0))).alloc (.cells #[.int .u64 0, .int .u64 0, .int .u64 0, .int .u64 0, .int .i64 0, .slice none 0 0] 82 (0, 0)) := ⟨_, rfl⟩
  have s2 : w2.heap.size = w.heap.size + 2 := by rw [hw2]; simp
  have H2 : DatAt w2 w.heap.size (.int .u64 0) (.int .u64 0) (.int .u64 0) (.int .u64 0) (.int .i64 0) (.slice none 0 0) := by
    rw [hw2]
    exact DatAt.belowB (show DatAt (w.alloc _) _ _ _ _ _ _ _ from heap_alloc_new w _) (by simp) ((Below.refl (w.heap.size + 1) _).alloc (by simp) _)
  have D2 : DatAt w2 (w.heap.size + 1) (.int .u64 0) (.int .u64 0) (.int .u64 0) (.int .u64 0) (.int .i64 0) (.slice none 0 0) := by
    rw [hw2]
    have := heap_alloc_new (w.alloc (.cells #[.int .u64 0, .int .u64 0, .int .u64 0, .int .u64 0, .int .i64 0, .slice none 0 0] 82 (0, 0))) (.cells #[.int .u64 0, .int .u64 0, .int .u64 0, .int .u64 0, .int .i64 0, .slice none 0 0] 82 (0, 0))
    rwa [show (w.alloc (.cells #[.int .u64 0, .int .u64 0, .int .u64 0, .int .u64 0, .int .i64 0, .slice none 0 0] 82 (0, 0))).heap.size = w.heap.size + 1 by simp] at this
  have b02 : Below w.heap.size w w2 := by rw [hw2]; exact ((Below.refl _ _).alloc (Nat.le_refl _) _).alloc (by simp) _
  obtain ⟨b0, hb0⟩ : ∃ n, n = w.heap.size := ⟨_, rfl⟩
  obtain ⟨D, hD⟩ : ∃ n, n = w.heap.size + 1 := ⟨_, rfl⟩
  have hbD : b0 ≠ D := by omega
  have hDb : D ≠ b0 := by omega
  have hwD : w.heap.size ≠ D := by omega
  have hDw : D ≠ w.heap.size := by omega
  rw [← hb0] at H2
  rw [← hD] at D2
  have HD := Lib.hid hD
  have hDgt : w.heap.size < D := by omega
  clear hD
  rcases hB with ⟨x, c0, rfl, h0, rfl⟩ | ⟨g, o, cap, rfl, h1, h2, h3, B0⟩
  · simp only [getF, Prod.mk.injEq] at hG
    obtain ⟨rfl, rfl⟩ := hG
    go_enter Try.func104, Try.ntmps104
    go_wp2_with fail
    refine bodyPost_ret (v := .tuple #[.agg #[.int .u64 0, .int .u64 0, .int .u64 0, .int .u64 0, .int .i64 0, .slice none 0 0], .int .i64 2]) (by simp [results, Try.results104, go_sem]) rfl ⟨.slice none 0 0, rfl, by repeat (first | with_reducible exact Below.refl _ _ | with_reducible refine Below.alloc ?_ (by first | (simp; done) | (simp; omega)) _), .inl ⟨none, 0, rfl, fun _ => rfl, rfl⟩⟩
  have hgl := B0.1
  have hgD : g ≠ D := by omega
  have hgb : g ≠ b0 := by omega
  have B2 : BytesAt w2 g o bs := B0.below b02
  rcases bs with _ | ⟨k, bs⟩
  · simp at h1
  have ck : w2.cell? ⟨g, o, none⟩ = some (.int .u8 k) := by simpa using B2.at 0 k rfl
  by_cases hk1 : k = 1
  case neg =>
    rw [getF, if_neg hk1, Prod.mk.injEq] at hG
    obtain ⟨rfl, rfl⟩ := hG
    have hd : (k != 1) = true := by rw [bne_iff_ne]; exact hk1
    rw [hw2] at ck
    go_enter Try.func104, Try.ntmps104
    go_wp2_with fail
    refine bodyPost_ret (v := .tuple #[.agg #[.int .u64 0, .int .u64 0, .int .u64 0, .int .u64 0, .int .i64 0, .slice none 0 0], .int .i64 4]) (by simp [results, Try.results104, go_sem]) rfl ⟨.slice none 0 0, rfl, by repeat (first | with_reducible exact Below.refl _ _ | with_reducible refine Below.alloc ?_ (by first | (simp; done) | (simp; omega)) _), .inl ⟨none, 0, rfl, fun _ => rfl, rfl⟩⟩
  subst hk1
  rw [getF, if_pos rfl] at hG
  rcases bs with _ | ⟨c, zs⟩
  · rw [get0, Prod.mk.injEq] at hG
    obtain ⟨rfl, rfl⟩ := hG
    rw [hw2] at ck
    go_enter Try.func104, Try.ntmps104
    go_wp2_with fail
    refine bodyPost_ret (v := .tuple #[.agg #[.int .u64 0, .int .u64 0, .int .u64 0, .int .u64 0, .int .i64 0, .slice none 0 0], .int .i64 2]) (by simp [results, Try.results104, go_sem]) rfl ⟨.slice none 0 0, rfl, by repeat (first | with_reducible exact Below.refl _ _ | with_reducible refine Below.alloc ?_ (by first | (simp; done) | (simp; omega)) _), .inl ⟨none, 0, rfl, fun _ => rfl, rfl⟩⟩
  have hc := hb c (by simp)
  have ck2 : w2.cell? ⟨g, o + 1, none⟩ = some (.int .u8 c) := B2.at 1 c rfl
  rw [get0] at hG
  obtain ⟨len, hln⟩ : ∃ n, n = (1 :: c :: zs).length := ⟨_, rfl⟩
  have hl2 : 2 ≤ len := by rw [hln]; simp
  rw [← hln] at hlen h2
  have hlc : len ≠ 1 := by omega
  have hl0 : len ≠ 0 := by omega
  rw [← hln]
  obtain ⟨bl, hbl⟩ : ∃ l, l = 1 :: c :: zs := ⟨_, rfl⟩
  have hzs : zs = bl.drop 2 := by rw [hbl]; rfl
  rw [← hbl] at hb B2 hln
  have HLN := Lib.hid hln
  rw [hzs] at hG
  have HBL := Lib.hid hbl
  have hlb : bl.length ≤ 140737488351232 := by omega
  have HBY := Lib.hid hb
  clear hzs hbl h1 hln hb
  rw [hw2] at ck ck2
  by_cases hc3 : 1 ≤ c ∧ c ≤ 3
  case neg =>
    rw [if_neg hc3, Prod.mk.injEq] at hG
    obtain ⟨rfl, rfl⟩ := hG
    rcases (by omega : c < 1 ∨ (1 ≤ c ∧ 3 < c)) with h | ⟨h, h'⟩
    · go_enter Try.func104, Try.ntmps104
      go_wp2_with fail
      refine bodyPost_ret (v := .tuple #[.agg #[.int .u64 0, .int .u64 0, .int .u64 0, .int .u64 0, .int .i64 0, .slice none 0 0], .int .i64 5]) (by simp [results, Try.results104, go_sem]) rfl ⟨.slice none 0 0, rfl, by repeat (first | with_reducible exact Below.refl _ _ | with_reducible refine Below.alloc ?_ (by first | (simp; done) | (simp; omega)) _), .inl ⟨none, 0, rfl, fun _ => rfl, rfl⟩⟩
    · go_enter Try.func104, Try.ntmps104
      go_wp2_with fail
      refine bodyPost_ret (v := .tuple #[.agg #[.int .u64 0, .int .u64 0, .int .u64 0, .int .u64 0, .int .i64 0, .slice none 0 0], .int .i64 5]) (by simp [results, Try.results104, go_sem]) rfl ⟨.slice none 0 0, rfl, by repeat (first | with_reducible exact Below.refl _ _ | with_reducible refine Below.alloc ?_ (by first | (simp; done) | (simp; omega)) _), .inl ⟨none, 0, rfl, fun _ => rfl, rfl⟩⟩
  rw [if_pos hc3] at hG
  obtain ⟨c1, c3⟩ := hc3
  go_enter Try.func104, Try.ntmps104
  go_wp2_with fail
  obtain ⟨w3, hw3⟩ : ∃ w3, w3 = (w.alloc (.cells #[.int .u64 0, .int .u64 0, .int .u64 0, .int .u64 0, .int .i64 0, .slice none 0 0] 82 (0, 0))).alloc (.cells #[.int .u64 0, .int .u64 0, .int .u64 0, .int .u64 0, .int .i64 c, .slice none 0 0] 82 (0, 0)) := ⟨_, rfl⟩
  have q3 : w3.heap.size = w.heap.size + 2 := by rw [hw3]; simp
  have H3 : DatAt w3 b0 (.int .u64 0) (.int .u64 0) (.int .u64 0) (.int .u64 0) (.int .i64 0) (.slice none 0 0) := by
    rw [hw3, hb0]
    exact DatAt.belowB (show DatAt (w.alloc _) _ _ _ _ _ _ _ from heap_alloc_new w _) (by simp) ((Below.refl (w.heap.size + 1) _).alloc (by simp) _)
  have D3 : DatAt w3 D (.int .u64 0) (.int .u64 0) (.int .u64 0) (.int .u64 0) (.int .i64 c) (.slice none 0 0) := by
    rw [hw3, HD.out]
    have := heap_alloc_new (w.alloc (.cells #[.int .u64 0, .int .u64 0, .int .u64 0, .int .u64 0, .int .i64 0, .slice none 0 0] 82 (0, 0))) (.cells #[.int .u64 0, .int .u64 0, .int .u64 0, .int .u64 0, .int .i64 c, .slice none 0 0] 82 (0, 0))
    rwa [show (w.alloc (.cells #[.int .u64 0, .int .u64 0, .int .u64 0, .int .u64 0, .int .i64 0, .slice none 0 0] 82 (0, 0))).heap.size = w.heap.size + 1 by simp] at this
  have b03 : Below w.heap.size w w3 := by rw [hw3]; exact ((Below.refl _ _).alloc (Nat.le_refl _) _).alloc (by simp) _
  have B3 : BytesAt w3 g o bl := by have h := B0.below b03; rwa [← HBL.out] at h
  rw [← hw3, ← HD.out]
  clear hw3 ck ck2 hw2 s2 H2 D2 b02 B2 B0
  have hA : 2 ≤ bl.length := by have := HLN.out; omega
  obtain ⟨hT, hK⟩ := numThere bl 2 HBY.out hA hlb
  have hZ := numF_zero (bl.drop 2) (byte_drop HBY.out _)
  have HT := hT _ g o cap B3
  rw [← HLN.out] at HT
  refine HT.mono ?_; rintro e' w' ⟨rfl, rfl⟩
  clear hT HT
  rw [get1] at hG
  obtain ⟨⟨d0, d1, d2, d3, d4, d5⟩, dz⟩ := D3.cells
  have y0 := dz 0
  obtain ⟨⟨a0, a1, a2, a3, a4, a5⟩, fz⟩ := H3.cells
  have x0 := fz 0
  have x1 := fz 1
  have x2 := fz 2
  have x3 := fz 3
  have x4 := fz 4
  have x5 := fz 5
  rw [hb0] at a0 a1 a2 a3 a4 a5 x0 x1 x2 x3 x4 x5
  by_cases he : (numF (bl.drop 2)).2.2 = 0
  case neg =>
    rw [if_neg he, Prod.mk.injEq] at hG
    obtain ⟨hE, rfl⟩ := hG
    have hd : ((numF (bl.drop 2)).2.2 != 0) = true := by rw [bne_iff_ne]; exact he
    clear hZ
    generalize (numF (bl.drop 2)).2.2 = er at *
    generalize (numF (bl.drop 2)).1 = N at *
    generalize (numF (bl.drop 2)).2.1 = KK at *
    subst hE
    go_wp2_with fail
    refine bodyPost_ret (v := .tuple #[.agg #[.int .u64 0, .int .u64 0, .int .u64 0, .int .u64 0, .int .i64 0, .slice none 0 0], .int .i64 er]) (by simp [results, Try.results104, go_sem, a0, a1, a2, a3, a4, a5]) rfl ⟨.slice none 0 0, rfl, by repeat (first | with_reducible exact b03 | with_reducible refine Below.setCell ?_ (by first | (simp; done) | (simp; omega) | omega) _), .inl ⟨none, 0, rfl, fun _ => rfl, rfl⟩⟩
  rw [if_pos he] at hG
  rw [he]
  obtain ⟨np, hnp⟩ : ∃ n, n = (numF (bl.drop 2)).1 := ⟨_, rfl⟩
  have hZ1 := (hZ he).1
  obtain ⟨Ap, hAAp⟩ : ∃ n, n = 2 + (numF (bl.drop 2)).2.1 := ⟨_, rfl⟩
  have ep : (((2 : Nat) : Int) + (((numF (bl.drop 2)).2.1 : Nat) : Int)) = (Ap : Int) := by rw [hAAp]; omega
  rw [ep]
  rw [List.drop_drop, ← hAAp, ← hnp] at hG
  rw [← hAAp] at hK
  rw [← hnp] at hZ1
  rw [← hnp]
  have hAp := hK
  clear hZ he hK hnp ep hAAp
  have hp64 := hZ1
  clear hZ1
  go_wp2_with fail
  obtain ⟨w4, hw4⟩ : ∃ w4, w4 = w3.setCell ⟨D, 0, none⟩ (.int .u64 np) := ⟨_, rfl⟩
  have B4 : BytesAt w4 g o bl := by rw [hw4]; exact BytesAt.set B3 _ (Ne.symm hgD) _
  have H4 : DatAt w4 b0 (.int .u64 0) (.int .u64 0) (.int .u64 0) (.int .u64 0) (.int .i64 0) (.slice none 0 0) := by unfold DatAt; rw [hw4, kept_set _ _ _ _ hbD]; exact H3
  have D4 : DatAt w4 D (.int .u64 np) (.int .u64 0) (.int .u64 0) (.int .u64 0) (.int .i64 c) (.slice none 0 0) := by rw [hw4]; exact heap_set_self _ _ _ _ _ _ _ D3
  have b04 : Below w.heap.size w w4 := by rw [hw4]; exact Below.setCell b03 (by simp; omega) _
  have q4 : w4.heap.size = w.heap.size + 2 := by rw [hw4]; simpa using q3
  rw [← hw4]
  clear d0 d1 d2 d3 d4 d5 dz a0 a1 a2 a3 a4 a5 fz x0 x1 x2 x3 x4 x5
  clear y0
  clear hw4 B3 H3 D3 b03
  obtain ⟨hT, hK⟩ := numThere bl Ap HBY.out hAp hlb
  have hZ := numF_zero (bl.drop Ap) (byte_drop HBY.out _)
  have HT := hT _ g o cap B4
  rw [← HLN.out] at HT
  refine HT.mono ?_; rintro e' w' ⟨rfl, rfl⟩
  clear hT HT
  rw [get2] at hG
  obtain ⟨⟨d0, d1, d2, d3, d4, d5⟩, dz⟩ := D4.cells
  have y1 := dz 1
  obtain ⟨⟨a0, a1, a2, a3, a4, a5⟩, fz⟩ := H4.cells
  have x0 := fz 0
  have x1 := fz 1
  have x2 := fz 2
  have x3 := fz 3
  have x4 := fz 4
  have x5 := fz 5
  rw [hb0] at a0 a1 a2 a3 a4 a5 x0 x1 x2 x3 x4 x5
  by_cases he : (numF (bl.drop Ap)).2.2 = 0
  case neg =>
    rw [if_neg he, Prod.mk.injEq] at hG
    obtain ⟨hE, rfl⟩ := hG
    have hd : ((numF (bl.drop Ap)).2.2 != 0) = true := by rw [bne_iff_ne]; exact he
    clear hZ
    generalize (numF (bl.drop Ap)).2.2 = er at *
    generalize (numF (bl.drop Ap)).1 = N at *
    generalize (numF (bl.drop Ap)).2.1 = KK at *
    subst hE
    go_wp2_with fail
    refine bodyPost_ret (v := .tuple #[.agg #[.int .u64 0, .int .u64 0, .int .u64 0, .int .u64 0, .int .i64 0, .slice none 0 0], .int .i64 er]) (by simp [results, Try.results104, go_sem, a0, a1, a2, a3, a4, a5]) rfl ⟨.slice none 0 0, rfl, by repeat (first | with_reducible exact b04 | with_reducible refine Below.setCell ?_ (by first | (simp; done) | (simp; omega) | omega) _), .inl ⟨none, 0, rfl, fun _ => rfl, rfl⟩⟩
  rw [if_pos he] at hG
  rw [he]
  obtain ⟨nl, hnl⟩ : ∃ n, n = (numF (bl.drop Ap)).1 := ⟨_, rfl⟩
  have hZ1 := (hZ he).1
  obtain ⟨Al, hAAl⟩ : ∃ n, n = Ap + (numF (bl.drop Ap)).2.1 := ⟨_, rfl⟩
  have el : (((Ap : Nat) : Int) + (((numF (bl.drop Ap)).2.1 : Nat) : Int)) = (Al : Int) := by rw [hAAl]; omega
  rw [el]
  rw [List.drop_drop, ← hAAl, ← hnl] at hG
  rw [← hAAl] at hK
  rw [← hnl] at hZ1
  rw [← hnl]
  have hAl := hK
  clear hZ he hK hnl el hAAl
  have hl64 := hZ1
  clear hZ1
  by_cases hx : nl ≤ np
  case neg =>
    rw [if_neg hx, Prod.mk.injEq] at hG
    obtain ⟨rfl, rfl⟩ := hG
    have hd : decide (np < nl) = true := by rw [decide_eq_true_iff]; omega
    go_wp2_with fail
    refine bodyPost_ret (v := .tuple #[.agg #[.int .u64 0, .int .u64 0, .int .u64 0, .int .u64 0, .int .i64 0, .slice none 0 0], .int .i64 5]) (by simp [results, Try.results104, go_sem, a0, a1, a2, a3, a4, a5]) rfl ⟨.slice none 0 0, rfl, by repeat (first | with_reducible exact b04 | with_reducible refine Below.setCell ?_ (by first | (simp; done) | (simp; omega) | omega) _), .inl ⟨none, 0, rfl, fun _ => rfl, rfl⟩⟩
  rw [if_pos hx] at hG
  have hd : decide (np < nl) = false := by rw [decide_eq_false_iff_not]; omega
  go_wp2_with fail
  obtain ⟨w5, hw5⟩ : ∃ w5, w5 = w4.setCell ⟨D, 1, none⟩ (.int .u64 nl) := ⟨_, rfl⟩
  have B5 : BytesAt w5 g o bl := by rw [hw5]; exact BytesAt.set B4 _ (Ne.symm hgD) _
  have H5 : DatAt w5 b0 (.int .u64 0) (.int .u64 0) (.int .u64 0) (.int .u64 0) (.int .i64 0) (.slice none 0 0) := by unfold DatAt; rw [hw5, kept_set _ _ _ _ hbD]; exact H4
  have D5 : DatAt w5 D (.int .u64 np) (.int .u64 nl) (.int .u64 0) (.int .u64 0) (.int .i64 c) (.slice none 0 0) := by rw [hw5]; exact heap_set_self _ _ _ _ _ _ _ D4
  have b05 : Below w.heap.size w w5 := by rw [hw5]; exact Below.setCell b04 (by simp; omega) _
  have q5 : w5.heap.size = w.heap.size + 2 := by rw [hw5]; simpa using q4
  rw [← hw5]
  clear d0 d1 d2 d3 d4 d5 dz a0 a1 a2 a3 a4 a5 fz x0 x1 x2 x3 x4 x5
  clear y1
  clear hw5 B4 H4 D4 b04
  clear hx hd
  obtain ⟨hT, hK⟩ := numThere bl Al HBY.out hAl hlb
  have hZ := numF_zero (bl.drop Al) (byte_drop HBY.out _)
  have HT := hT _ g o cap B5
  rw [← HLN.out] at HT
  refine HT.mono ?_; rintro e' w' ⟨rfl, rfl⟩
  clear hT HT
  rw [get3] at hG
  obtain ⟨⟨d0, d1, d2, d3, d4, d5⟩, dz⟩ := D5.cells
  have y2 := dz 2
  obtain ⟨⟨a0, a1, a2, a3, a4, a5⟩, fz⟩ := H5.cells
  have x0 := fz 0
  have x1 := fz 1
  have x2 := fz 2
  have x3 := fz 3
  have x4 := fz 4
  have x5 := fz 5
  rw [hb0] at a0 a1 a2 a3 a4 a5 x0 x1 x2 x3 x4 x5
  by_cases he : (numF (bl.drop Al)).2.2 = 0
  case neg =>
    rw [if_neg he, Prod.mk.injEq] at hG
    obtain ⟨hE, rfl⟩ := hG
    have hd : ((numF (bl.drop Al)).2.2 != 0) = true := by rw [bne_iff_ne]; exact he
    clear hZ
    generalize (numF (bl.drop Al)).2.2 = er at *
    generalize (numF (bl.drop Al)).1 = N at *
    generalize (numF (bl.drop Al)).2.1 = KK at *
    subst hE
    go_wp2_with fail
    refine bodyPost_ret (v := .tuple #[.agg #[.int .u64 0, .int .u64 0, .int .u64 0, .int .u64 0, .int .i64 0, .slice none 0 0], .int .i64 er]) (by simp [results, Try.results104, go_sem, a0, a1, a2, a3, a4, a5]) rfl ⟨.slice none 0 0, rfl, by repeat (first | with_reducible exact b05 | with_reducible refine Below.setCell ?_ (by first | (simp; done) | (simp; omega) | omega) _), .inl ⟨none, 0, rfl, fun _ => rfl, rfl⟩⟩
  rw [if_pos he] at hG
  rw [he]
  obtain ⟨no, hno⟩ : ∃ n, n = (numF (bl.drop Al)).1 := ⟨_, rfl⟩
  have hZ1 := (hZ he).1
  obtain ⟨Ao, hAAo⟩ : ∃ n, n = Al + (numF (bl.drop Al)).2.1 := ⟨_, rfl⟩
  have eo : (((Al : Nat) : Int) + (((numF (bl.drop Al)).2.1 : Nat) : Int)) = (Ao : Int) := by rw [hAAo]; omega
  rw [eo]
  rw [List.drop_drop, ← hAAo, ← hno] at hG
  rw [← hAAo] at hK
  rw [← hno] at hZ1
  rw [← hno]
  have hAo := hK
  clear hZ he hK hno eo hAAo
  have ho64 := hZ1
  clear hZ1
  go_wp2_with fail
  obtain ⟨w6, hw6⟩ : ∃ w6, w6 = w5.setCell ⟨D, 2, none⟩ (.int .u64 no) := ⟨_, rfl⟩
  have B6 : BytesAt w6 g o bl := by rw [hw6]; exact BytesAt.set B5 _ (Ne.symm hgD) _
  have H6 : DatAt w6 b0 (.int .u64 0) (.int .u64 0) (.int .u64 0) (.int .u64 0) (.int .i64 0) (.slice none 0 0) := by unfold DatAt; rw [hw6, kept_set _ _ _ _ hbD]; exact H5
  have D6 : DatAt w6 D (.int .u64 np) (.int .u64 nl) (.int .u64 no) (.int .u64 0) (.int .i64 c) (.slice none 0 0) := by rw [hw6]; exact heap_set_self _ _ _ _ _ _ _ D5
  have b06 : Below w.heap.size w w6 := by rw [hw6]; exact Below.setCell b05 (by simp; omega) _
  have q6 : w6.heap.size = w.heap.size + 2 := by rw [hw6]; simpa using q5
  rw [← hw6]
  clear d0 d1 d2 d3 d4 d5 dz a0 a1 a2 a3 a4 a5 fz x0 x1 x2 x3 x4 x5
  clear y2
  clear hw6 B5 H5 D5 b05
  obtain ⟨hT, hK⟩ := wordThere bl Ao HBY.out hAo hlb
  have hZ := wordF_zero (bl.drop Ao) (byte_drop HBY.out _)
  have HT := hT _ g o cap B6
  rw [← HLN.out] at HT
  refine HT.mono ?_; rintro e' w' ⟨rfl, rfl⟩
  clear hT HT
  rw [get4] at hG
  obtain ⟨⟨d0, d1, d2, d3, d4, d5⟩, dz⟩ := D6.cells
  have y3 := dz 3
  obtain ⟨⟨a0, a1, a2, a3, a4, a5⟩, fz⟩ := H6.cells
  have x0 := fz 0
  have x1 := fz 1
  have x2 := fz 2
  have x3 := fz 3
  have x4 := fz 4
  have x5 := fz 5
  rw [hb0] at a0 a1 a2 a3 a4 a5 x0 x1 x2 x3 x4 x5
  by_cases he : (wordF (bl.drop Ao)).2.2 = 0
  case neg =>
    rw [if_neg he, Prod.mk.injEq] at hG
    obtain ⟨hE, rfl⟩ := hG
    have hd : ((wordF (bl.drop Ao)).2.2 != 0) = true := by rw [bne_iff_ne]; exact he
    clear hZ
    generalize (wordF (bl.drop Ao)).2.2 = er at *
    generalize (wordF (bl.drop Ao)).1 = N at *
    generalize (wordF (bl.drop Ao)).2.1 = KK at *
    subst hE
    go_wp2_with fail
    refine bodyPost_ret (v := .tuple #[.agg #[.int .u64 0, .int .u64 0, .int .u64 0, .int .u64 0, .int .i64 0, .slice none 0 0], .int .i64 er]) (by simp [results, Try.results104, go_sem, a0, a1, a2, a3, a4, a5]) rfl ⟨.slice none 0 0, rfl, by repeat (first | with_reducible exact b06 | with_reducible refine Below.setCell ?_ (by first | (simp; done) | (simp; omega) | omega) _), .inl ⟨none, 0, rfl, fun _ => rfl, rfl⟩⟩
  rw [if_pos he] at hG
  rw [he]
  obtain ⟨nx, hnx⟩ : ∃ n, n = (wordF (bl.drop Ao)).1 := ⟨_, rfl⟩
  have hZ1 := (hZ he).1
  obtain ⟨Ax, hAAx⟩ : ∃ n, n = Ao + (wordF (bl.drop Ao)).2.1 := ⟨_, rfl⟩
  have ex : (((Ao : Nat) : Int) + (((wordF (bl.drop Ao)).2.1 : Nat) : Int)) = (Ax : Int) := by rw [hAAx]; omega
  rw [ex]
  rw [List.drop_drop, ← hAAx, ← hnx] at hG
  rw [← hAAx] at hK
  rw [← hnx] at hZ1
  rw [← hnx]
  have hAx := hK
  clear hZ he hK hnx ex hAAx
  have hx64 := hZ1
  clear hZ1
  go_wp2_with fail
  obtain ⟨w7, hw7⟩ : ∃ w7, w7 = w6.setCell ⟨D, 3, none⟩ (.int .u64 nx) := ⟨_, rfl⟩
  have B7 : BytesAt w7 g o bl := by rw [hw7]; exact BytesAt.set B6 _ (Ne.symm hgD) _
  have H7 : DatAt w7 b0 (.int .u64 0) (.int .u64 0) (.int .u64 0) (.int .u64 0) (.int .i64 0) (.slice none 0 0) := by unfold DatAt; rw [hw7, kept_set _ _ _ _ hbD]; exact H6
  have D7 : DatAt w7 D (.int .u64 np) (.int .u64 nl) (.int .u64 no) (.int .u64 nx) (.int .i64 c) (.slice none 0 0) := by rw [hw7]; exact heap_set_self _ _ _ _ _ _ _ D6
  have b07 : Below w.heap.size w w7 := by rw [hw7]; exact Below.setCell b06 (by simp; omega) _
  have q7 : w7.heap.size = w.heap.size + 2 := by rw [hw7]; simpa using q6
  rw [← hw7]
  clear d0 d1 d2 d3 d4 d5 dz a0 a1 a2 a3 a4 a5 fz x0 x1 x2 x3 x4 x5
  clear y3
  clear hw7 B6 H6 D6 b06
  obtain ⟨hT, hK⟩ := numThere bl Ax HBY.out hAx hlb
  have hZ := numF_zero (bl.drop Ax) (byte_drop HBY.out _)
  have HT := hT _ g o cap B7
  rw [← HLN.out] at HT
  refine HT.mono ?_; rintro e' w' ⟨rfl, rfl⟩
  clear hT HT
  rw [get5] at hG
  obtain ⟨⟨d0, d1, d2, d3, d4, d5⟩, dz⟩ := D7.cells
  obtain ⟨⟨a0, a1, a2, a3, a4, a5⟩, fz⟩ := H7.cells
  have x0 := fz 0
  have x1 := fz 1
  have x2 := fz 2
  have x3 := fz 3
  have x4 := fz 4
  have x5 := fz 5
  rw [hb0] at a0 a1 a2 a3 a4 a5 x0 x1 x2 x3 x4 x5
  by_cases he : (numF (bl.drop Ax)).2.2 = 0
  case neg =>
    rw [if_neg he, Prod.mk.injEq] at hG
    obtain ⟨hE, rfl⟩ := hG
    have hd : ((numF (bl.drop Ax)).2.2 != 0) = true := by rw [bne_iff_ne]; exact he
    clear hZ
    generalize (numF (bl.drop Ax)).2.2 = er at *
    generalize (numF (bl.drop Ax)).1 = N at *
    generalize (numF (bl.drop Ax)).2.1 = KK at *
    subst hE
    go_wp2_with fail
    refine bodyPost_ret (v := .tuple #[.agg #[.int .u64 0, .int .u64 0, .int .u64 0, .int .u64 0, .int .i64 0, .slice none 0 0], .int .i64 er]) (by simp [results, Try.results104, go_sem, a0, a1, a2, a3, a4, a5]) rfl ⟨.slice none 0 0, rfl, by repeat (first | with_reducible exact b07 | with_reducible refine Below.setCell ?_ (by first | (simp; done) | (simp; omega) | omega) _), .inl ⟨none, 0, rfl, fun _ => rfl, rfl⟩⟩
  rw [if_pos he] at hG
  rw [he]
  obtain ⟨nm, hnm⟩ : ∃ n, n = (numF (bl.drop Ax)).1 := ⟨_, rfl⟩
  have hZ1 := (hZ he).1
  obtain ⟨Am, hAAm⟩ : ∃ n, n = Ax + (numF (bl.drop Ax)).2.1 := ⟨_, rfl⟩
  have em : (((Ax : Nat) : Int) + (((numF (bl.drop Ax)).2.1 : Nat) : Int)) = (Am : Int) := by rw [hAAm]; omega
  rw [em]
  rw [List.drop_drop, ← hAAm, ← hnm] at hG
  rw [← hAAm] at hK
  rw [← hnm] at hZ1
  rw [← hnm]
  have hAm := hK
  clear hZ he hK hnm em hAAm
  have hm64 := hZ1
  clear hZ1
  by_cases hx : 1 ≤ nm ∧ nm ≤ 1500 ∧ no ≤ 4611686018427387903 - nm
  case neg =>
    rw [if_neg hx, Prod.mk.injEq] at hG
    obtain ⟨rfl, rfl⟩ := hG
    rcases (by omega : nm < 1 ∨ (1 ≤ nm ∧ 1500 < nm) ∨ (1 ≤ nm ∧ nm ≤ 1500 ∧ 4611686018427387903 - nm < no)) with h | ⟨h, h'⟩ | ⟨h, h', h2'⟩
    · go_wp2_with fail
      refine bodyPost_ret (v := .tuple #[.agg #[.int .u64 0, .int .u64 0, .int .u64 0, .int .u64 0, .int .i64 0, .slice none 0 0], .int .i64 5]) (by simp [results, Try.results104, go_sem, a0, a1, a2, a3, a4, a5]) rfl ⟨.slice none 0 0, rfl, by repeat (first | with_reducible exact b07 | with_reducible refine Below.setCell ?_ (by first | (simp; done) | (simp; omega) | omega) _), .inl ⟨none, 0, rfl, fun _ => rfl, rfl⟩⟩
    · go_wp2_with fail
      refine bodyPost_ret (v := .tuple #[.agg #[.int .u64 0, .int .u64 0, .int .u64 0, .int .u64 0, .int .i64 0, .slice none 0 0], .int .i64 5]) (by simp [results, Try.results104, go_sem, a0, a1, a2, a3, a4, a5]) rfl ⟨.slice none 0 0, rfl, by repeat (first | with_reducible exact b07 | with_reducible refine Below.setCell ?_ (by first | (simp; done) | (simp; omega) | omega) _), .inl ⟨none, 0, rfl, fun _ => rfl, rfl⟩⟩
    · go_wp2_with fail
      refine bodyPost_ret (v := .tuple #[.agg #[.int .u64 0, .int .u64 0, .int .u64 0, .int .u64 0, .int .i64 0, .slice none 0 0], .int .i64 5]) (by simp [results, Try.results104, go_sem, a0, a1, a2, a3, a4, a5]) rfl ⟨.slice none 0 0, rfl, by repeat (first | with_reducible exact b07 | with_reducible refine Below.setCell ?_ (by first | (simp; done) | (simp; omega) | omega) _), .inl ⟨none, 0, rfl, fun _ => rfl, rfl⟩⟩
  rw [if_pos hx, get6] at hG
  obtain ⟨x1', x2', x3'⟩ := hx
  obtain ⟨m, rfl⟩ : ∃ m : Nat, nm = (m : Int) := ⟨nm.toNat, by omega⟩
  have hm1 : 1 ≤ m := by omega
  obtain ⟨ms, hms⟩ : ∃ l, l = bl.drop Am := ⟨_, rfl⟩
  have hml : ms.length = len - Am := by rw [hms, List.length_drop, HLN.out]
  rw [← hms] at hG
  rw [← HLN.out] at hAm
  have HMS := Lib.hid hms
  clear hms
  by_cases hs1 : (ms.length : Int) < m
  · rw [if_pos hs1, Prod.mk.injEq] at hG
    obtain ⟨rfl, rfl⟩ := hG
    have hs2 : (len : Int) - (Am : Int) < (m : Int) := by omega
    go_wp2_with fail
    refine bodyPost_ret (v := .tuple #[.agg #[.int .u64 0, .int .u64 0, .int .u64 0, .int .u64 0, .int .i64 0, .slice none 0 0], .int .i64 2]) (by simp [results, Try.results104, go_sem, a0, a1, a2, a3, a4, a5]) rfl ⟨.slice none 0 0, rfl, by repeat (first | with_reducible exact b07 | with_reducible refine Below.setCell ?_ (by first | (simp; done) | (simp; omega) | omega) _), .inl ⟨none, 0, rfl, fun _ => rfl, rfl⟩⟩
  rw [if_neg hs1] at hG
  have hs2 : ¬ (len : Int) - (Am : Int) < (m : Int) := by omega
  by_cases hs3 : (m : Int) < (ms.length : Int)
  · rw [if_pos hs3, Prod.mk.injEq] at hG
    obtain ⟨rfl, rfl⟩ := hG
    have hs4 : (m : Int) < (len : Int) - (Am : Int) := by omega
    go_wp2_with fail
    refine bodyPost_ret (v := .tuple #[.agg #[.int .u64 0, .int .u64 0, .int .u64 0, .int .u64 0, .int .i64 0, .slice none 0 0], .int .i64 3]) (by simp [results, Try.results104, go_sem, a0, a1, a2, a3, a4, a5]) rfl ⟨.slice none 0 0, rfl, by repeat (first | with_reducible exact b07 | with_reducible refine Below.setCell ?_ (by first | (simp; done) | (simp; omega) | omega) _), .inl ⟨none, 0, rfl, fun _ => rfl, rfl⟩⟩
  rw [if_neg hs3, Prod.mk.injEq] at hG
  obtain ⟨rfl, rfl⟩ := hG
  have hs4 : ¬ (m : Int) < (len : Int) - (Am : Int) := by omega
  have hmm : ms.length = m := by omega
  have hlA : len - Am = m := by omega
  have BM : BytesAt w7 g (o + Am) ms := by rw [HMS.out]; exact BytesAt.drop B7 Am
  have k1 : (Am : Int) ≤ (len : Int) := by omega
  have k2 : (0 : Int) ≤ (Am : Int) := by omega
  have k3 : Am ≤ cap := by omega
  have k4 : (len : Int) ≤ (cap : Int) := by omega
  have k5 : Am < cap := by omega
  have k6 : cap ≠ Am := by omega
  have k7 : Am ≠ cap := by omega
  have k8 : cap - Am ≠ 0 := by omega
  have k9 : ¬ cap = Am := by omega
  go_wp2_with (at_builtin; refine wpList_append_own _ rfl (.const (.slice none 0 0)) (.tmp 132) 44 rfl w7.heap.size 5 i (.int .u8 0) 1 1 Try.underlying44 hi hzz hs hbb rfl (by decide) (.slice none 0 0) 0 [] rfl (World.ownsRow_nil _ _ _ _) ⟨g, o + Am, none⟩ m (cap - Am) (ms.map (.int .u8)) rfl (by simp [hmm]) BM.news (oneCell_bytes _) (by simp [maxLen]; omega) (by omega) (by omega) ?_; intro v8 w8 own8 hgrow8 hnil8; simp only [Nat.zero_add, List.nil_append] at own8; obtain ⟨q, qc, rfl, hq, hqc, hqm, BQ⟩ := ownBytes own8 hm1; have bN : Below w7.heap.size w7 w8 := below_grown (Below.refl _ _) hgrow8 (by omega); obtain ⟨⟨d0, d1, d2, d3, d4, d5⟩, dz⟩ := (D7.belowB D7.lt bN).cells; have y5 := dz 5; obtain ⟨⟨a0, a1, a2, a3, a4, a5⟩, fz⟩ := (H7.belowB H7.lt bN).cells; have x0 := fz 0; have x1 := fz 1; have x2 := fz 2; have x3 := fz 3; have x4 := fz 4; have x5 := fz 5; rw [hb0] at a0 a1 a2 a3 a4 a5 x0 x1 x2 x3 x4 x5)
  have lD := D7.lt
  have lH := H7.lt
  have bE : Below w.heap.size w w8 := b07.trans (bN.mono (by omega))
  refine bodyPost_ret (v := .tuple #[.agg #[.int .u64 np, .int .u64 nl, .int .u64 no, .int .u64 nx, .int .i64 c, .slice (some ⟨q, 0, none⟩) m qc], .int .i64 0]) (by simp [results, Try.results104, go_sem, a0, a1, a2, a3, a4, a5]) rfl ⟨.slice (some ⟨q, 0, none⟩) m qc, rfl, by repeat (first | with_reducible exact bE | with_reducible refine Below.setCell ?_ (by first | (simp; done) | (simp; omega) | omega) _), .inr ⟨q, 0, qc, by rw [hmm], by omega, by omega, hqm, by repeat (first | with_reducible exact BQ | with_reducible refine BytesAt.set ?_ _ (by simp; omega) _)⟩⟩

end Go.Proofs.Ytikkmdbaekdolaa
