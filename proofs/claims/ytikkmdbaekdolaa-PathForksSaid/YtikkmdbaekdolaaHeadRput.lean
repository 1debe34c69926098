/- the reference's PutData, of a packet that may be. -/
import Derived.Test.YtikkmdbaekdolaaHeadPut
namespace Go.Proofs.Ytikkmdbaekdolaa
open Go.RowKit Go.Lib
set_option linter.unusedVariables false
set_option maxRecDepth 100000

set_option maxHeartbeats 4000000 in
theorem rPutData (d : Dat) (hd : MayD d) (g0 o0 c : Nat) (hlc : d.body.length ≤ c ∧ c ≤ 9223372036854775807) (w : World) (hB : BytesAt w g0 o0 d.body) :
    Calls Try.prog 105 #[dataV d (.slice (some ⟨g0, o0, none⟩) d.body.length c)] w fun e w' => ∃ v, e = .returned v ∧ Below w.heap.size w w' ∧ w'.ownsRow w.heap.size 5 1 v (putD d).length ((putD d).map (.int .u8)) := by
  obtain ⟨i, hi, hz, hs, hbb⟩ := info_parts (P := Try.prog) (e := 5) (z := .int .u8 0) (size := 1) (bytes := 1) (by kernel_rfl)
  obtain ⟨pn, least, off, x, ecn, body⟩ := d
  obtain ⟨p1, p2, p3, p4, p5, p6⟩ := hd
  simp only at p1 p2 p3 p4 p5 p6 hlc hB
  unfold dataV
  simp only
  obtain ⟨L, hL⟩ : ∃ L, body.length = L := ⟨_, rfl⟩
  rw [hL] at p4 p5 hlc ⊢
  have hgl := hB.1
  have he : ecn % 256 = ecn := by omega
  have K1 := putA_len1 pn
  have K2 := putA_len1 least
  have K3 := putA_len1 off
  have K4 := putA_len1 (L : Int)
  go_enter Try.func105, Try.ntmps105
  go_wp2_with fail
  obtain ⟨w2, hw2⟩ : ∃ w2, w2 = (w.alloc (.cells #[.int .u64 pn, .int .u64 least, .int .u64 off, .int .u64 x, .int .i64 ecn, .slice (some ⟨g0, o0, none⟩) L c] 82 (0, 0))).alloc (.cells #[.int .u8 1, .int .u8 ecn] 5) := ⟨_, rfl⟩
  have D2 : DatAt w2 w.heap.size (.int .u64 pn) (.int .u64 least) (.int .u64 off) (.int .u64 x) (.int .i64 ecn) (.slice (some ⟨g0, o0, none⟩) L c) := by
    rw [hw2]
    exact DatAt.belowB (show DatAt (w.alloc _) _ _ _ _ _ _ _ from heap_alloc_new w _) (by simp) ((Below.refl (w.heap.size + 1) _).alloc (by simp) _)
  have own2 : w2.ownsRow (w.heap.size + 1) 5 1 (.slice (some ⟨w.heap.size + 1, 0, none⟩) 2 2) 2 ([1, ecn].map (.int .u8)) := by
    rw [hw2]
    have := World.ownsRow_lit (base := w.heap.size + 1) (e := 5) (size := 1) (w.alloc (.cells #[.int .u64 pn, .int .u64 least, .int .u64 off, .int .u64 x, .int .i64 ecn, .slice (some ⟨g0, o0, none⟩) L c] 82 (0, 0))) #[.int .u8 1, .int .u8 ecn] 2 (by simp) (by simp [maxLen]) rfl
    rwa [show (w.alloc (.cells #[.int .u64 pn, .int .u64 least, .int .u64 off, .int .u64 x, .int .i64 ecn, .slice (some ⟨g0, o0, none⟩) L c] 82 (0, 0))).heap.size = w.heap.size + 1 by simp] at this
  have b02 : Below w.heap.size w w2 := by rw [hw2]; exact ((Below.refl _ _).alloc (Nat.le_refl _) _).alloc (by simp) _
  have B2 := hB.below b02
  have t2 : w.heap.size + 1 ≤ w2.heap.size := D2.lt
  rw [← hw2]
  clear hw2 hB
  obtain ⟨v2, hv2⟩ : ∃ v, v = Value.slice (some ⟨w.heap.size + 1, 0, none⟩) 2 2 := ⟨_, rfl⟩
  rw [← hv2] at own2 ⊢
  clear hv2
  obtain ⟨d0, d1, d2, d3, d4, d5⟩ := D2.cellsV
  refine (rPutOn pn p1 (w.heap.size + 1) (2) v2 ([1, ecn]) _ t2 (by omega) own2).mono ?_; rintro e' w3 ⟨v3, rfl, b23, own3⟩
  have D3 := D2.belowB (Nat.lt_succ_self _) b23
  have B3 : BytesAt w3 g0 o0 body := BytesAt.belowA B2 b23 (by omega)
  have b03 : Below w.heap.size w w3 := b02.trans (b23.mono (by omega))
  have t3 : w.heap.size + 1 ≤ w3.heap.size := D3.lt
  clear D2 B2 b02 own2 d0 d1 d2 d3 d4 d5 b23
  obtain ⟨d0, d1, d2, d3, d4, d5⟩ := D3.cellsV
  go_wp2_with fail
  refine (rPutOn least ⟨p2.1, by omega⟩ (w.heap.size + 1) (2 + (putA pn).length) v3 ([1, ecn] ++ putA pn) _ t3 (by omega) own3).mono ?_; rintro e' w4 ⟨v4, rfl, b34, own4⟩
  have D4 := D3.belowB (Nat.lt_succ_self _) b34
  have B4 : BytesAt w4 g0 o0 body := BytesAt.belowA B3 b34 (by omega)
  have b04 : Below w.heap.size w w4 := b03.trans (b34.mono (by omega))
  have t4 : w.heap.size + 1 ≤ w4.heap.size := D4.lt
  clear D3 B3 b03 own3 d0 d1 d2 d3 d4 d5 b34
  obtain ⟨d0, d1, d2, d3, d4, d5⟩ := D4.cellsV
  go_wp2_with fail
  refine (rPutOn off ⟨p5.1, by omega⟩ (w.heap.size + 1) (2 + (putA pn).length + (putA least).length) v4 ([1, ecn] ++ putA pn ++ putA least) _ t4 (by omega) own4).mono ?_; rintro e' w5 ⟨v5, rfl, b45, own5⟩
  have D5 := D4.belowB (Nat.lt_succ_self _) b45
  have B5 : BytesAt w5 g0 o0 body := BytesAt.belowA B4 b45 (by omega)
  have b05 : Below w.heap.size w w5 := b04.trans (b45.mono (by omega))
  have t5 : w.heap.size + 1 ≤ w5.heap.size := D5.lt
  clear D4 B4 b04 own4 d0 d1 d2 d3 d4 d5 b45
  obtain ⟨d0, d1, d2, d3, d4, d5⟩ := D5.cellsV
  go_wp2_with fail
  refine (rEightOn x p6 (w.heap.size + 1) (2 + (putA pn).length + (putA least).length + (putA off).length) v5 ([1, ecn] ++ putA pn ++ putA least ++ putA off) _ t5 (by omega) own5).mono ?_; rintro e' w6 ⟨v6, rfl, b56, own6⟩
  have D6 := D5.belowB (Nat.lt_succ_self _) b56
  have B6 : BytesAt w6 g0 o0 body := BytesAt.belowA B5 b56 (by omega)
  have b06 : Below w.heap.size w w6 := b05.trans (b56.mono (by omega))
  have t6 : w.heap.size + 1 ≤ w6.heap.size := D6.lt
  clear D5 B5 b05 own5 d0 d1 d2 d3 d4 d5 b56
  obtain ⟨d0, d1, d2, d3, d4, d5⟩ := D6.cellsV
  go_wp2_with fail
  refine (rPutOn (L : Int) ⟨by omega, by omega⟩ (w.heap.size + 1) (2 + (putA pn).length + (putA least).length + (putA off).length + 8) v6 ([1, ecn] ++ putA pn ++ putA least ++ putA off ++ eightL x) _ t6 (by omega) own6).mono ?_; rintro e' w7 ⟨v7, rfl, b67, own7⟩
  have D7 := D6.belowB (Nat.lt_succ_self _) b67
  have B7 : BytesAt w7 g0 o0 body := BytesAt.belowA B6 b67 (by omega)
  have b07 : Below w.heap.size w w7 := b06.trans (b67.mono (by omega))
  have t7 : w.heap.size + 1 ≤ w7.heap.size := D7.lt
  clear D6 B6 b06 own6 d0 d1 d2 d3 d4 d5 b67
  obtain ⟨d0, d1, d2, d3, d4, d5⟩ := D7.cellsV
  go_wp2_with (at_builtin; refine wpList_append_own _ rfl (.tmp 30) (.tmp 32) 44 rfl (w.heap.size + 1) 5 i (.int .u8 0) 1 1 Try.underlying44 hi hz hs hbb rfl (by decide) _ (2 + (putA pn).length + (putA least).length + (putA off).length + 8 + (putA (L : Int)).length) _ rfl own7 ⟨g0, o0, none⟩ L c (body.map (.int .u8)) rfl (by simp [hL]) B7.news (oneCell_bytes _) (by simp [maxLen]; omega) (by omega) (by omega) ?_; intro vB wB ownB hgrowB hnilB; rw [← List.map_append] at ownB)
  have bB : Below (w.heap.size + 1) w7 wB := below_grownR (Below.refl _ _) hgrowB t7 (fun k hk => (own7.lt k hk).1)
  have b0B := b07.trans (bB.mono (Nat.le_succ _))
  have e1 : 2 + (putA pn).length + (putA least).length + (putA off).length + 8 + (putA (L : Int)).length + L = (putD ⟨pn, least, off, x, ecn, body⟩).length := by simp only [putD, List.length_cons, List.length_append, eightL_len, hL]; omega
  have e2 : [1, ecn] ++ putA pn ++ putA least ++ putA off ++ eightL x ++ putA (L : Int) ++ body = putD ⟨pn, least, off, x, ecn, body⟩ := by simp [putD, hL]
  rw [e1, e2] at ownB
  go_ret
  exact ⟨vB, rfl, b0B, own_base ownB (Nat.le_succ _)⟩

end Go.Proofs.Ytikkmdbaekdolaa
