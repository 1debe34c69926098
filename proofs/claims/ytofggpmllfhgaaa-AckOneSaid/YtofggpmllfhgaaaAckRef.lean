/- the reference's GetAck, for all bytes. -/
import Derived.Test.YtofggpmllfhgaaaAckDec
import Derived.Test.YtofggpmllfhgaaaGetRow
import Derived.Test.YtofggpmllfhgaaaHeadRef
namespace Go.Proofs.Ytofggpmllfhgaaa
open Go.RowKit Go.Lib
set_option linter.unusedVariables false
set_option maxRecDepth 100000

set_option maxHeartbeats 16000000 in
set_option maxRecDepth 100000 in
theorem rGetAck (bv : Value) (bs : List Int) (hb : ∀ x ∈ bs, 0 ≤ x ∧ x ≤ 255) (hlen : bs.length ≤ 140737488351232) (w : World) (hB : BodyAt w bv bs) (E : Int) (d : AckD) (hG : getA bs = (E, d)) :
    Calls Try.prog 33 #[bv] w fun e w' => ∃ v u, e = .returned (.tuple #[ackV d v u, .int .i64 E]) ∧ Below w.heap.size w w' ∧ RowAt w' v d.spans ∧ RowAt w' u d.marked := by
  obtain ⟨w2, hw2⟩ : ∃ w2, w2 = (w.alloc (.cells #[.slice none 0 0, .slice none 0 0, .int .u64 0, .int .u64 0, .bool false] 52 (0, 0))).alloc (.cells #[.slice none 0 0, .slice none 0 0, .int .u64 0, .int .u64 0, .bool false] 52 (0, 0)) := ⟨_, rfl⟩
  have H2 : AckAt w2 w.heap.size (.slice none 0 0) (.slice none 0 0) (.int .u64 0) (.int .u64 0) (.bool false) := by
    rw [hw2]
    exact (AckAt.alloc w _ _ _ _ _).belowB (by simp) ((Below.refl (w.heap.size + 1) _).alloc (by simp) _)
  have D2 : AckAt w2 (w.heap.size + 1) (.slice none 0 0) (.slice none 0 0) (.int .u64 0) (.int .u64 0) (.bool false) := by
    rw [hw2]
    have := AckAt.alloc (w.alloc (.cells #[.slice none 0 0, .slice none 0 0, .int .u64 0, .int .u64 0, .bool false] 52 (0, 0))) (.slice none 0 0) (.slice none 0 0) (.int .u64 0) (.int .u64 0) (.bool false)
    rwa [show (w.alloc (.cells #[.slice none 0 0, .slice none 0 0, .int .u64 0, .int .u64 0, .bool false] 52 (0, 0))).heap.size = w.heap.size + 1 by simp] at this
  have b02 : Below w.heap.size w w2 := by rw [hw2]; exact ((Below.refl _ _).alloc (Nat.le_refl _) _).alloc (by simp) _
  obtain ⟨b0, hb0⟩ : ∃ n, n = w.heap.size := ⟨_, rfl⟩
  obtain ⟨D, hD⟩ : ∃ n, n = w.heap.size + 1 := ⟨_, rfl⟩
  have hbD : b0 ≠ D := by omega
  have hDb : D ≠ b0 := by omega
  have hwD : w.heap.size ≠ D := by omega
  have hDw : D ≠ w.heap.size := by omega
  rw [← hb0] at H2
  rw [← hD] at D2
  have HD := Lib.hid hD
  have hDgt : w.heap.size < D := by omega
  clear hD
  rcases hB with ⟨x, c0, rfl, h0, rfl⟩ | ⟨g, o, cap, rfl, h1, h2, h3, B0⟩
  · rw [getA, Prod.mk.injEq] at hG
    obtain ⟨rfl, rfl⟩ := hG
    go_enter Try.func33, Try.ntmps33
    go_wp2_with fail
    refine bodyPost_ret (v := .tuple #[.agg #[.slice none 0 0, .slice none 0 0, .int .u64 0, .int .u64 0, .bool false], .int .i64 2]) (by simp [results, Try.results33, go_sem]) rfl ⟨.slice none 0 0, .slice none 0 0, rfl, by repeat (first | with_reducible exact Below.refl _ _ | with_reducible refine Below.alloc ?_ (by first | (simp; done) | (simp; omega)) _), RowAt.nil _, RowAt.nil _⟩
  have hgl := B0.1
  have hgD : g ≠ D := by omega
  have hgb : g ≠ b0 := by omega
  have B2 : BytesAt w2 g o bs := B0.below b02
  rcases bs with _ | ⟨k, zs⟩
  · simp at h1
  have ck : w2.cell? ⟨g, o, none⟩ = some (.int .u8 k) := by simpa using B2.at 0 k rfl
  by_cases hk1 : k = 2
  case neg =>
    rw [getA, if_neg hk1, Prod.mk.injEq] at hG
    obtain ⟨rfl, rfl⟩ := hG
    have hd : (k != 2) = true := by rw [bne_iff_ne]; exact hk1
    have ck : w.cell? ⟨g, o, none⟩ = some (.int .u8 k) := by simpa using B0.at 0 k rfl
    go_enter Try.func33, Try.ntmps33
    go_wp2_with fail
    refine bodyPost_ret (v := .tuple #[.agg #[.slice none 0 0, .slice none 0 0, .int .u64 0, .int .u64 0, .bool false], .int .i64 4]) (by simp [results, Try.results33, go_sem]) rfl ⟨.slice none 0 0, .slice none 0 0, rfl, by repeat (first | with_reducible exact Below.refl _ _ | with_reducible refine Below.alloc ?_ (by first | (simp; done) | (simp; omega)) _), RowAt.nil _, RowAt.nil _⟩
  subst hk1
  rw [getA, if_pos rfl] at hG
  have ck : w.cell? ⟨g, o, none⟩ = some (.int .u8 2) := by simpa using B0.at 0 2 rfl
  obtain ⟨len, hln⟩ : ∃ n, n = (2 :: zs).length := ⟨_, rfl⟩
  have hl1 : 1 ≤ len := by rw [hln]; simp
  rw [← hln] at hlen h2
  have hl0 : len ≠ 0 := by omega
  rw [← hln]
  obtain ⟨bl, hbl⟩ : ∃ l, l = 2 :: zs := ⟨_, rfl⟩
  have hzs : zs = bl.drop 1 := by rw [hbl]; rfl
  rw [← hbl] at hb B2 hln
  have HLN := Lib.hid hln
  rw [hzs] at hG
  have hlb : bl.length ≤ 140737488351232 := by omega
  have hcap : bl.length ≤ cap := by omega
  have HBY := Lib.hid hb
  have hA1 : 1 ≤ bl.length := by omega
  clear hzs hbl h1 hln hb
  go_enter Try.func33, Try.ntmps33
  go_wp2_with fail
  rw [show (1 : Int) = ((1 : Nat) : Int) from rfl] -- NATONE
  rw [← hw2, ← HD.out]
  clear hw2 ck B0
  obtain ⟨es, s, ss, hRs⟩ : ∃ e s r, getRowF 1 (bl.drop 1) = (e, s, r) := ⟨_, _, _, rfl⟩
  rw [getA1, hRs] at hG
  simp only at hG
  have HT := rGetRow g o cap bl HBY.out hlb 1 hA1 hcap 1 (by omega) es s ss hRs _ B2
  rw [← HLN.out] at HT
  refine HT.mono ?_; rintro e' w3 ⟨vs, ats, rfl, b3, ns, os⟩
  clear HT
  have B3 := B2.below b3
  have H3 := H2.belowB H2.lt b3
  have D3 := D2.belowB D2.lt b3
  have b03 : Below w.heap.size w w3 := b02.trans (b3.mono b02.size)
  obtain ⟨Bs, hBs⟩ : ∃ n, n = w2.heap.size := ⟨_, rfl⟩
  have hDs : D < Bs := by rw [hBs]; exact D2.lt
  have hbs : b0 < Bs := by rw [hBs]; exact H2.lt
  rw [← hBs] at os
  clear hBs b3 B2 H2 D2 b02
  obtain ⟨⟨d0, d1, d2, d3, d4⟩, dz⟩ := D3.cells
  have y0 := dz 0
  obtain ⟨⟨a0, a1, a2, a3, a4⟩, fz⟩ := H3.cells
  have x0 := fz 0
  have x1 := fz 1
  have x2 := fz 2
  have x3 := fz 3
  have x4 := fz 4
  rw [hb0] at a0 a1 a2 a3 a4 x0 x1 x2 x3 x4
  by_cases he : es = 0
  case neg =>
    rw [if_neg he, Prod.mk.injEq] at hG
    obtain ⟨rfl, rfl⟩ := hG
    obtain rfl := ns he
    have hd : (es != 0) = true := by rw [bne_iff_ne]; exact he
    go_wp2_with fail
    refine bodyPost_ret (v := .tuple #[.agg #[.slice none 0 0, .slice none 0 0, .int .u64 0, .int .u64 0, .bool false], .int .i64 es]) (by simp [results, Try.results33, go_sem, a0, a1, a2, a3, a4]) rfl ⟨.slice none 0 0, .slice none 0 0, rfl, by repeat (first | with_reducible exact b03 | with_reducible refine Below.setCell ?_ (by first | (simp; done) | (simp; omega) | omega) _), RowAt.nil _, RowAt.nil _⟩
  subst he
  rw [if_pos rfl] at hG
  obtain ⟨As, rfl, hAs, drs, own⟩ := os rfl
  rw [HLN.out] at hAs
  obtain ⟨xas, cas, rfl, Ss3⟩ := SIn.ofOwn own
  obtain ⟨gs, _, ls, _, _⟩ := getRowF_ok 1 (bl.drop 1) ss s (byte_drop HBY.out _) hRs
  have Gs := Lib.hid gs
  rw [← drs] at hG
  clear os ns own hRs gs drs
  go_wp2_with fail
  obtain ⟨w4, hw4⟩ : ∃ w4, w4 = w3.setCell ⟨D, 0, none⟩ (.slice xas s.length cas) := ⟨_, rfl⟩
  have B4 : BytesAt w4 g o bl := by rw [hw4]; exact BytesAt.set B3 _ (Ne.symm hgD) _
  have H4 : AckAt w4 b0 (.slice none 0 0) (.slice none 0 0) (.int .u64 0) (.int .u64 0) (.bool false) := by unfold AckAt; rw [hw4, kept_set _ _ _ _ hbD]; exact H3
  have D4 : AckAt w4 D (.slice xas s.length cas) (.slice none 0 0) (.int .u64 0) (.int .u64 0) (.bool false) := by rw [hw4]; exact heap_set_self _ _ _ _ _ _ _ D3
  have b04 : Below w.heap.size w w4 := by rw [hw4]; exact Below.setCell b03 (by simp; omega) _
  have Ss4 : SIn w4 Bs xas s := by rw [hw4]; exact Ss3.set hDs _ _
  rw [← hw4]
  clear d0 d1 d2 d3 d4 dz a0 a1 a2 a3 a4 fz x0 x1 x2 x3 x4
  clear y0
  clear hw4 B3 H3 D3 b03 Ss3
  obtain ⟨em, m, ms, hRm⟩ : ∃ e s r, getRowF 0 (bl.drop As) = (e, s, r) := ⟨_, _, _, rfl⟩
  rw [getA2, hRm] at hG
  simp only at hG
  have HT := rGetRow g o cap bl HBY.out hlb As hAs hcap 0 (by omega) em m ms hRm _ B4
  rw [← HLN.out] at HT
  refine HT.mono ?_; rintro e' w5 ⟨vm, atm, rfl, b5, nm, om⟩
  clear HT
  have B5 := B4.below b5
  have H5 := H4.belowB H4.lt b5
  have D5 := D4.belowB D4.lt b5
  have b05 : Below w.heap.size w w5 := b04.trans (b5.mono b04.size)
  have Ss5 := Ss4.below b5
  obtain ⟨Bm, hBm⟩ : ∃ n, n = w4.heap.size := ⟨_, rfl⟩
  have hDm : D < Bm := by rw [hBm]; exact D4.lt
  have hbm : b0 < Bm := by rw [hBm]; exact H4.lt
  rw [← hBm] at om
  clear hBm b5 B4 H4 D4 b04 Ss4
  obtain ⟨⟨d0, d1, d2, d3, d4⟩, dz⟩ := D5.cells
  have y1 := dz 1
  obtain ⟨⟨a0, a1, a2, a3, a4⟩, fz⟩ := H5.cells
  have x0 := fz 0
  have x1 := fz 1
  have x2 := fz 2
  have x3 := fz 3
  have x4 := fz 4
  rw [hb0] at a0 a1 a2 a3 a4 x0 x1 x2 x3 x4
  by_cases he : em = 0
  case neg =>
    rw [if_neg he, Prod.mk.injEq] at hG
    obtain ⟨rfl, rfl⟩ := hG
    obtain rfl := nm he
    have hd : (em != 0) = true := by rw [bne_iff_ne]; exact he
    go_wp2_with fail
    refine bodyPost_ret (v := .tuple #[.agg #[.slice none 0 0, .slice none 0 0, .int .u64 0, .int .u64 0, .bool false], .int .i64 em]) (by simp [results, Try.results33, go_sem, a0, a1, a2, a3, a4]) rfl ⟨.slice none 0 0, .slice none 0 0, rfl, by repeat (first | with_reducible exact b05 | with_reducible refine Below.setCell ?_ (by first | (simp; done) | (simp; omega) | omega) _), RowAt.nil _, RowAt.nil _⟩
  subst he
  rw [if_pos rfl] at hG
  obtain ⟨Am, rfl, hAm, drm, own⟩ := om rfl
  rw [HLN.out] at hAm
  obtain ⟨xam, cam, rfl, Sm5⟩ := SIn.ofOwn own
  obtain ⟨gm, _, lm, _, _⟩ := getRowF_ok 0 (bl.drop As) ms m (byte_drop HBY.out _) hRm
  have Gm := Lib.hid gm
  rw [← drm] at hG
  clear om nm own hRm gm drm
  go_wp2_with fail
  obtain ⟨w6, hw6⟩ : ∃ w6, w6 = w5.setCell ⟨D, 1, none⟩ (.slice xam m.length cam) := ⟨_, rfl⟩
  have B6 : BytesAt w6 g o bl := by rw [hw6]; exact BytesAt.set B5 _ (Ne.symm hgD) _
  have H6 : AckAt w6 b0 (.slice none 0 0) (.slice none 0 0) (.int .u64 0) (.int .u64 0) (.bool false) := by unfold AckAt; rw [hw6, kept_set _ _ _ _ hbD]; exact H5
  have D6 : AckAt w6 D (.slice xas s.length cas) (.slice xam m.length cam) (.int .u64 0) (.int .u64 0) (.bool false) := by rw [hw6]; exact heap_set_self _ _ _ _ _ _ _ D5
  have b06 : Below w.heap.size w w6 := by rw [hw6]; exact Below.setCell b05 (by simp; omega) _
  have Ss6 : SIn w6 Bs xas s := by rw [hw6]; exact Ss5.set hDs _ _
  have Sm6 : SIn w6 Bm xam m := by rw [hw6]; exact Sm5.set hDm _ _
  rw [← hw6]
  clear d0 d1 d2 d3 d4 dz a0 a1 a2 a3 a4 fz x0 x1 x2 x3 x4
  clear y1
  clear hw6 B5 H5 D5 b05 Ss5 Sm5
  obtain ⟨hT, hK⟩ := wordThere bl Am HBY.out hAm hlb
  have hZ := wordF_zero (bl.drop Am) (byte_drop HBY.out _)
  have HT := hT _ g o cap B6
  rw [← HLN.out] at HT
  refine HT.mono ?_; rintro e' w' ⟨rfl, rfl⟩
  clear hT HT
  rw [getA3] at hG
  obtain ⟨⟨d0, d1, d2, d3, d4⟩, dz⟩ := D6.cells
  have y2 := dz 2
  obtain ⟨⟨a0, a1, a2, a3, a4⟩, fz⟩ := H6.cells
  have x0 := fz 0
  have x1 := fz 1
  have x2 := fz 2
  have x3 := fz 3
  have x4 := fz 4
  rw [hb0] at a0 a1 a2 a3 a4 x0 x1 x2 x3 x4
  by_cases he : (wordF (bl.drop Am)).2.2 = 0
  case neg =>
    rw [if_neg he, Prod.mk.injEq] at hG
    obtain ⟨hE, rfl⟩ := hG
    have hd : ((wordF (bl.drop Am)).2.2 != 0) = true := by rw [bne_iff_ne]; exact he
    clear hZ
    generalize (wordF (bl.drop Am)).2.2 = er at *
    generalize (wordF (bl.drop Am)).1 = N at *
    generalize (wordF (bl.drop Am)).2.1 = KK at *
    subst hE
    go_wp2_with fail
    refine bodyPost_ret (v := .tuple #[.agg #[.slice none 0 0, .slice none 0 0, .int .u64 0, .int .u64 0, .bool false], .int .i64 er]) (by simp [results, Try.results33, go_sem, a0, a1, a2, a3, a4]) rfl ⟨.slice none 0 0, .slice none 0 0, rfl, by repeat (first | with_reducible exact b06 | with_reducible refine Below.setCell ?_ (by first | (simp; done) | (simp; omega) | omega) _), RowAt.nil _, RowAt.nil _⟩
  rw [if_pos he] at hG
  rw [he]
  obtain ⟨nt, hnt⟩ : ∃ n, n = (wordF (bl.drop Am)).1 := ⟨_, rfl⟩
  obtain ⟨At, hAAt⟩ : ∃ n, n = Am + (wordF (bl.drop Am)).2.1 := ⟨_, rfl⟩
  have et : (((Am : Nat) : Int) + (((wordF (bl.drop Am)).2.1 : Nat) : Int)) = (At : Int) := by rw [hAAt]; omega
  rw [et]
  rw [List.drop_drop, ← hAAt, ← hnt] at hG
  rw [← hAAt] at hK
  rw [← hnt]
  have hAt := hK
  clear hZ he hK hnt et hAAt
  go_wp2_with fail
  obtain ⟨w7, hw7⟩ : ∃ w7, w7 = w6.setCell ⟨D, 2, none⟩ (.int .u64 nt) := ⟨_, rfl⟩
  have B7 : BytesAt w7 g o bl := by rw [hw7]; exact BytesAt.set B6 _ (Ne.symm hgD) _
  have H7 : AckAt w7 b0 (.slice none 0 0) (.slice none 0 0) (.int .u64 0) (.int .u64 0) (.bool false) := by unfold AckAt; rw [hw7, kept_set _ _ _ _ hbD]; exact H6
  have D7 : AckAt w7 D (.slice xas s.length cas) (.slice xam m.length cam) (.int .u64 nt) (.int .u64 0) (.bool false) := by rw [hw7]; exact heap_set_self _ _ _ _ _ _ _ D6
  have b07 : Below w.heap.size w w7 := by rw [hw7]; exact Below.setCell b06 (by simp; omega) _
  have Ss7 : SIn w7 Bs xas s := by rw [hw7]; exact Ss6.set hDs _ _
  have Sm7 : SIn w7 Bm xam m := by rw [hw7]; exact Sm6.set hDm _ _
  rw [← hw7]
  clear d0 d1 d2 d3 d4 dz a0 a1 a2 a3 a4 fz x0 x1 x2 x3 x4
  clear y2
  clear hw7 B6 H6 D6 b06 Ss6 Sm6
  obtain ⟨hT, hK⟩ := wordThere bl At HBY.out hAt hlb
  have hZ := wordF_zero (bl.drop At) (byte_drop HBY.out _)
  have HT := hT _ g o cap B7
  rw [← HLN.out] at HT
  refine HT.mono ?_; rintro e' w' ⟨rfl, rfl⟩
  clear hT HT
  rw [getA4] at hG
  obtain ⟨⟨d0, d1, d2, d3, d4⟩, dz⟩ := D7.cells
  have y3 := dz 3
  obtain ⟨⟨a0, a1, a2, a3, a4⟩, fz⟩ := H7.cells
  have x0 := fz 0
  have x1 := fz 1
  have x2 := fz 2
  have x3 := fz 3
  have x4 := fz 4
  rw [hb0] at a0 a1 a2 a3 a4 x0 x1 x2 x3 x4
  by_cases he : (wordF (bl.drop At)).2.2 = 0
  case neg =>
    rw [if_neg he, Prod.mk.injEq] at hG
    obtain ⟨hE, rfl⟩ := hG
    have hd : ((wordF (bl.drop At)).2.2 != 0) = true := by rw [bne_iff_ne]; exact he
    clear hZ
    generalize (wordF (bl.drop At)).2.2 = er at *
    generalize (wordF (bl.drop At)).1 = N at *
    generalize (wordF (bl.drop At)).2.1 = KK at *
    subst hE
    go_wp2_with fail
    refine bodyPost_ret (v := .tuple #[.agg #[.slice none 0 0, .slice none 0 0, .int .u64 0, .int .u64 0, .bool false], .int .i64 er]) (by simp [results, Try.results33, go_sem, a0, a1, a2, a3, a4]) rfl ⟨.slice none 0 0, .slice none 0 0, rfl, by repeat (first | with_reducible exact b07 | with_reducible refine Below.setCell ?_ (by first | (simp; done) | (simp; omega) | omega) _), RowAt.nil _, RowAt.nil _⟩
  rw [if_pos he] at hG
  rw [he]
  obtain ⟨nx, hnx⟩ : ∃ n, n = (wordF (bl.drop At)).1 := ⟨_, rfl⟩
  obtain ⟨Ax, hAAx⟩ : ∃ n, n = At + (wordF (bl.drop At)).2.1 := ⟨_, rfl⟩
  have ex : (((At : Nat) : Int) + (((wordF (bl.drop At)).2.1 : Nat) : Int)) = (Ax : Int) := by rw [hAAx]; omega
  rw [ex]
  rw [List.drop_drop, ← hAAx, ← hnx] at hG
  rw [← hAAx] at hK
  rw [← hnx]
  have hAx := hK
  clear hZ he hK hnx ex hAAx
  rw [← HLN.out] at hAx
  have y4 := dz 4
  have hAx0 : (0 : Int) ≤ (Ax : Int) := by omega
  have hAx1 : (Ax : Int) ≤ (len : Int) := by omega
  have hlI : (len : Int) ≤ 140737488351232 := by omega
  by_cases hend : len ≤ Ax
  · have hnil : bl.drop Ax = [] := List.drop_eq_nil_of_le (by rw [← HLN.out]; exact hend)
    rw [hnil, getA5, Prod.mk.injEq] at hG
    obtain ⟨rfl, rfl⟩ := hG
    have he : (len : Int) ≤ (Ax : Int) := by omega
    go_wp2_with fail
    refine bodyPost_ret (v := .tuple #[.agg #[.slice none 0 0, .slice none 0 0, .int .u64 0, .int .u64 0, .bool false], .int .i64 2]) (by simp [results, Try.results33, go_sem, a0, a1, a2, a3, a4]) rfl ⟨.slice none 0 0, .slice none 0 0, rfl, by repeat (first | with_reducible exact b07 | with_reducible refine Below.setCell ?_ (by first | (simp; done) | (simp; omega) | omega) _), RowAt.nil _, RowAt.nil _⟩
  obtain ⟨pb, us, hd⟩ : ∃ n zs, bl.drop Ax = n :: zs := by
    rcases h : bl.drop Ax with _ | ⟨n, zs⟩
    · have := congrArg List.length h
      rw [List.length_drop, ← HLN.out] at this
      simp at this
      omega
    · exact ⟨n, zs, rfl⟩
  have hpb8 : 0 ≤ pb ∧ pb ≤ 255 := HBY.out pb (List.mem_of_mem_drop (by rw [hd]; simp))
  have hul : us.length = len - Ax - 1 := by
    have := congrArg List.length hd
    rw [List.length_drop, ← HLN.out, List.length_cons] at this
    omega
  have cn : w7.cell? ⟨g, o + Ax, none⟩ = some (.int .u8 pb) := by
    have h := (BytesAt.drop B7 Ax).2 0 (by rw [hd]; simp)
    rw [hd] at h
    simpa using h
  have hlt0 : (Ax : Int) < (len : Int) := by omega
  have hge : ¬ (len : Int) ≤ (Ax : Int) := by omega
  rw [hd, getA5] at hG
  clear hd
  by_cases hx : 1 < pb
  · rw [if_pos hx, Prod.mk.injEq] at hG
    obtain ⟨rfl, rfl⟩ := hG
    go_wp2_with fail
    refine bodyPost_ret (v := .tuple #[.agg #[.slice none 0 0, .slice none 0 0, .int .u64 0, .int .u64 0, .bool false], .int .i64 5]) (by simp [results, Try.results33, go_sem, a0, a1, a2, a3, a4]) rfl ⟨.slice none 0 0, .slice none 0 0, rfl, by repeat (first | with_reducible exact b07 | with_reducible refine Below.setCell ?_ (by first | (simp; done) | (simp; omega) | omega) _), RowAt.nil _, RowAt.nil _⟩
  rw [if_neg hx] at hG
  by_cases hlong : 0 < us.length
  · rw [if_pos hlong, Prod.mk.injEq] at hG
    obtain ⟨rfl, rfl⟩ := hG
    have hL3 : (1 : Int) < (len : Int) - (Ax : Int) := by omega
    go_wp2_with fail
    refine bodyPost_ret (v := .tuple #[.agg #[.slice none 0 0, .slice none 0 0, .int .u64 0, .int .u64 0, .bool false], .int .i64 3]) (by simp [results, Try.results33, go_sem, a0, a1, a2, a3, a4]) rfl ⟨.slice none 0 0, .slice none 0 0, rfl, by repeat (first | with_reducible exact b07 | with_reducible refine Below.setCell ?_ (by first | (simp; done) | (simp; omega) | omega) _), RowAt.nil _, RowAt.nil _⟩
  rw [if_neg hlong] at hG
  have hL3 : ¬ (1 : Int) < (len : Int) - (Ax : Int) := by omega
  clear hlong hul
  go_wp2_with fail
  clear d0 d1 d2 d3 d4 dz a0 a1 a2 a3 a4 fz x0 x1 x2 x3 x4
  clear y3 y4
  obtain ⟨w8, hw8⟩ : ∃ w8, w8 = w7.setCell ⟨D, 3, none⟩ (.int .u64 nx) := ⟨_, rfl⟩
  have B8 : BytesAt w8 g o bl := by rw [hw8]; exact BytesAt.set B7 _ (Ne.symm hgD) _
  have H8 : AckAt w8 b0 (.slice none 0 0) (.slice none 0 0) (.int .u64 0) (.int .u64 0) (.bool false) := by unfold AckAt; rw [hw8, kept_set _ _ _ _ hbD]; exact H7
  have D8 : AckAt w8 D (.slice xas s.length cas) (.slice xam m.length cam) (.int .u64 nt) (.int .u64 nx) (.bool false) := by rw [hw8]; exact heap_set_self _ _ _ _ _ _ _ D7
  have b08 : Below w.heap.size w w8 := by rw [hw8]; exact Below.setCell b07 (by simp; omega) _
  have Ss8 : SIn w8 Bs xas s := by rw [hw8]; exact Ss7.set hDs _ _
  have Sm8 : SIn w8 Bm xam m := by rw [hw8]; exact Sm7.set hDm _ _
  rw [← hw8]
  clear hw8 B7 H7 D7 b07 Ss7 Sm7
  obtain ⟨w9, hw9⟩ : ∃ w9, w9 = w8.setCell ⟨D, 4, none⟩ (.bool (pb == 1)) := ⟨_, rfl⟩
  have B9 : BytesAt w9 g o bl := by rw [hw9]; exact BytesAt.set B8 _ (Ne.symm hgD) _
  have H9 : AckAt w9 b0 (.slice none 0 0) (.slice none 0 0) (.int .u64 0) (.int .u64 0) (.bool false) := by unfold AckAt; rw [hw9, kept_set _ _ _ _ hbD]; exact H8
  have D9 : AckAt w9 D (.slice xas s.length cas) (.slice xam m.length cam) (.int .u64 nt) (.int .u64 nx) (.bool (pb == 1)) := by rw [hw9]; exact heap_set_self _ _ _ _ _ _ _ D8
  have b09 : Below w.heap.size w w9 := by rw [hw9]; exact Below.setCell b08 (by simp; omega) _
  have Ss9 : SIn w9 Bs xas s := by rw [hw9]; exact Ss8.set hDs _ _
  have Sm9 : SIn w9 Bm xam m := by rw [hw9]; exact Sm8.set hDm _ _
  rw [← hw9]
  clear hw9 B8 H8 D8 b08 Ss8 Sm8
  clear hL3 hx cn
  obtain ⟨gam, gwm, _⟩ := goodL_all m 0 (by omega) Gm.out
  obtain ⟨gas, gws, _⟩ := goodL_all s 0 (by omega) Gs.out
  refine (rInside xam xas cam cas m s (by omega) (by omega) (decide (insideAll m s)) decide_eq_true_iff _ Sm9.row Ss9.row).mono ?_; rintro e' w10 ⟨rfl, b10⟩
  have B10 := B9.below b10
  have H10 := H9.belowB H9.lt b10
  have D10 := D9.belowB D9.lt b10
  have b010 : Below w.heap.size w w10 := b09.trans (b10.mono b09.size)
  have Ss10 := Ss9.below b10
  have Sm10 := Sm9.below b10
  clear gam gwm gas gws b10 B9 H9 D9 b09 Ss9 Sm9
  obtain ⟨⟨d0, d1, d2, d3, d4⟩, dz⟩ := D10.cells
  obtain ⟨⟨a0, a1, a2, a3, a4⟩, fz⟩ := H10.cells
  have x0 := fz 0
  have x1 := fz 1
  have x2 := fz 2
  have x3 := fz 3
  have x4 := fz 4
  rw [hb0] at a0 a1 a2 a3 a4 x0 x1 x2 x3 x4
  by_cases hi : insideAll m s
  case neg =>
    rw [if_neg hi, Prod.mk.injEq] at hG
    obtain ⟨rfl, rfl⟩ := hG
    rw [decide_eq_false hi]
    go_wp2_with fail
    refine bodyPost_ret (v := .tuple #[.agg #[.slice none 0 0, .slice none 0 0, .int .u64 0, .int .u64 0, .bool false], .int .i64 5]) (by simp [results, Try.results33, go_sem, a0, a1, a2, a3, a4]) rfl ⟨.slice none 0 0, .slice none 0 0, rfl, by repeat (first | with_reducible exact b010 | with_reducible refine Below.setCell ?_ (by first | (simp; done) | (simp; omega) | omega) _), RowAt.nil _, RowAt.nil _⟩
  rw [if_pos hi, Prod.mk.injEq] at hG
  obtain ⟨rfl, rfl⟩ := hG
  rw [decide_eq_true hi]
  go_wp2_with fail
  rw [← hb0]
  refine bodyPost_ret (v := .tuple #[.agg #[.slice xas s.length cas, .slice xam m.length cam, .int .u64 nt, .int .u64 nx, .bool (pb == 1)], .int .i64 0]) (by rw [hb0]; simp [results, Try.results33, go_sem, a0, a1, a2, a3, a4]) rfl ⟨.slice xas s.length cas, .slice xam m.length cam, rfl, by rw [hb0]; repeat (first | with_reducible exact b010 | with_reducible refine Below.setCell ?_ (by first | (simp; done) | (simp; omega) | omega) _), ⟨xas, cas, rfl, SIn.row (B := Bs) (by repeat (first | with_reducible exact Ss10 | with_reducible refine SIn.set ?_ hbs _ _))⟩, ⟨xam, cam, rfl, SIn.row (B := Bm) (by repeat (first | with_reducible exact Sm10 | with_reducible refine SIn.set ?_ hbm _ _))⟩⟩

end Go.Proofs.Ytofggpmllfhgaaa
