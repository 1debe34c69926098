/- package head: Encode; the reference's PutData. -/
import Derived.Test.YtikkmdbaekdolaaHeadMay
import Derived.Test.YtikkmdbaekdolaaRefAdd
import Derived.Test.YtikkmdbaekdolaaHeld
import Derived.Laws.OwnMore
namespace Go.Proofs.Ytikkmdbaekdolaa
open Go.RowKit Go.Lib
set_option linter.unusedVariables false
set_option maxRecDepth 100000

theorem MayD.may {d : Dat} (h : MayD d) : MayP d.pn d.least d.off d.ecn d.body.length :=
  ⟨h.pn.2, h.least.2, h.ecn, by have := h.len; omega, by have := h.len; omega, h.off.2⟩
theorem MayD.size {d : Dat} (h : MayD d) : (putD d).length ≤ 1600 := by
  have h1 := putA_len1 d.pn
  have h2 := putA_len1 d.least
  have h3 := putA_len1 d.off
  have h4 := putA_len1 d.body.length
  have h5 := h.len
  simp only [putD, List.length_cons, List.length_append, eightL_len]
  omega
theorem own_below {w w' : World} {B n s : Nat} {e : TypeId} {v : Value} {xs : List Value} (h : w.ownsRow B e s v n xs) (hb : Below w.heap.size w w') : w'.ownsRow B e s v n xs := by
  obtain ⟨h1, h2 | ⟨g, c, cur, h3, h4, h5, h6⟩⟩ := h
  · exact ⟨h1, .inl h2⟩
  · exact ⟨h1, .inr ⟨g, c, cur, h3, h4, by rw [hb.block g (Array.getElem?_eq_some_iff.1 h5).1]; exact h5, h6⟩⟩
theorem own_base {w : World} {B B' n s : Nat} {e : TypeId} {v : Value} {xs : List Value} (h : w.ownsRow B e s v n xs) (hB : B' ≤ B) : w.ownsRow B' e s v n xs := by
  obtain ⟨h1, h2 | ⟨g, c, cur, h3, h4, h5⟩⟩ := h
  · exact ⟨h1, .inl h2⟩
  · exact ⟨h1, .inr ⟨g, c, cur, h3, Nat.le_trans hB h4, h5⟩⟩
theorem below_all {w w' : World} {k : Nat} (h : Below w.heap.size w w') (hk : k ≤ w.heap.size) : Below k w w' := h.mono hk

set_option maxHeartbeats 4000000 in
theorem hEncodeNo (pn least off x ecn : Int) (a : Option Addr) (L c : Nat) (h0 : 0 ≤ pn) (h1 : 0 ≤ least) (h2 : 0 ≤ off) (hL : L ≤ 9223372036854775807) (hno : ¬ MayP pn least off ecn L) (w : World) :
    Calls Try.prog 103 #[.agg #[.int .u64 pn, .int .u64 least, .int .u64 off, .int .u64 x, .int .i64 ecn, .slice a L c]] w fun e w' => e = .returned (.tuple #[.slice none 0 0, .int .i64 1]) ∧ Gr w w' := by
  go_enter Try.func103, Try.ntmps103
  go_wp2_with fail
  refine (hMay pn least off x ecn a L c h0 h1 h2 hL _).mono ?_; rintro e' w' ⟨rfl, n1, os1, rfl⟩
  rw [decide_eq_false hno]
  go_wp2_with fail
  exact bodyPost_ret (v := .tuple #[.slice none 0 0, .int .i64 1]) (by simp [results, Try.results103, go_sem]) rfl ⟨rfl, by repeat (first | exact Gr.refl _ | apply Gr.drewN | apply Gr.drew | apply Gr.gw | apply Gr.alloc)⟩

/-- the box of a packet's cells and the row that is being written -/
theorem own_alloc {w : World} {B n : Nat} {v : Value} {xs : List Int} (h : w.ownsRow B 5 1 v n (xs.map (.int .u8))) (o : Obj) : (w.alloc o).ownsRow B 5 1 v n (xs.map (.int .u8)) := h.alloc o

theorem BytesAt.belowA {w w' : World} {B b off : Nat} {xs : List Int} (h : BytesAt w b off xs) (hb : Below B w w') (hB : b < B) : BytesAt w' b off xs :=
  ⟨Nat.lt_of_lt_of_le h.1 hb.size, fun i hi => by rw [hb.cell hB]; exact h.2 i hi⟩

set_option maxHeartbeats 8000000 in
theorem hEncode (d : Dat) (hd : MayD d) (g0 o0 c : Nat) (hlc : d.body.length ≤ c ∧ c ≤ 9223372036854775807) (w : World) (hB : BytesAt w g0 o0 d.body) :
    Calls Try.prog 103 #[dataV d (.slice (some ⟨g0, o0, none⟩) d.body.length c)] w fun e w' => ∃ v, e = .returned (.tuple #[v, .int .i64 0]) ∧ Below w.heap.size w w' ∧ w'.ownsRow w.heap.size 5 1 v (putD d).length ((putD d).map (.int .u8)) := by
  obtain ⟨i, hi, hz, hs, hbb⟩ := info_parts (P := Try.prog) (e := 5) (z := .int .u8 0) (size := 1) (bytes := 1) (by kernel_rfl)
  obtain ⟨pn, least, off, x, ecn, body⟩ := d
  obtain ⟨p1, p2, p3, p4, p5, p6⟩ := hd
  simp only at p1 p2 p3 p4 p5 p6 hlc hB
  unfold dataV
  simp only
  obtain ⟨L, hL⟩ : ∃ L, body.length = L := ⟨_, rfl⟩
  rw [hL] at p4 p5 hlc ⊢
  have hgl := hB.1
  have i0 : ∀ w, (Instr.index 184 (.agg #[.int .u64 pn, .int .u64 least, .int .u64 off]) (.int .i64 0)).run Try.prog w = .ok (.int .u64 pn) w := fun _ => by kernel_rfl
  have i1 : ∀ w, (Instr.index 184 (.agg #[.int .u64 pn, .int .u64 least, .int .u64 off]) (.int .i64 1)).run Try.prog w = .ok (.int .u64 least) w := fun _ => by kernel_rfl
  have i2 : ∀ w, (Instr.index 184 (.agg #[.int .u64 pn, .int .u64 least, .int .u64 off]) (.int .i64 2)).run Try.prog w = .ok (.int .u64 off) w := fun _ => by kernel_rfl
  go_enter Try.func103, Try.ntmps103
  go_wp2_with fail
  refine (hMay pn least off x ecn _ L c p1.1 p2.1 p5.1 (by omega) _).mono ?_; rintro e' w1 ⟨rfl, hgr⟩
  rw [decide_eq_true (show MayP pn least off ecn L from ⟨p1.2, p2.2, p3, by omega, by omega, p5.2⟩)]
  have b01 : Below w.heap.size w w1 := ((Below.refl _ _).alloc (Nat.le_refl _) _).trans (hgr.below.mono (by simp))
  have D1 : DatAt w1 w.heap.size (.int .u64 pn) (.int .u64 least) (.int .u64 off) (.int .u64 x) (.int .i64 ecn) (.slice (some ⟨g0, o0, none⟩) L c) := DatAt.belowB (show DatAt (w.alloc _) _ _ _ _ _ _ _ from heap_alloc_new w _) (by simp) hgr.below
  have s1 := D1.lt
  obtain ⟨d0, d1, d2, d3, d4, d5⟩ := D1.cellsV
  have B1 := hB.below b01
  clear hgr hB
  have he : ecn % 256 = ecn := by omega
  have K1 := putA_len1 pn
  have K2 := putA_len1 least
  have K3 := putA_len1 off
  have K4 := putA_len1 (L : Int)
  go_wp2_with fail
  obtain ⟨w2, hw2⟩ : ∃ w2, w2 = w1.alloc (.cells #[.int .u8 1, .int .u8 ecn] 5) := ⟨_, rfl⟩
  have b12 : Below w1.heap.size w1 w2 := by rw [hw2]; exact (Below.refl _ _).alloc (Nat.le_refl _) _
  have own2 : w2.ownsRow (w.heap.size + 1) 5 1 (.slice (some ⟨w1.heap.size, 0, none⟩) 2 2) 2 ([1, ecn].map (.int .u8)) := by rw [hw2]; exact World.ownsRow_lit w1 #[.int .u8 1, .int .u8 ecn] 2 s1 (by simp [maxLen]) rfl
  have b02 : Below w.heap.size w w2 := b01.trans (b12.mono b01.size)
  have D2 := D1.belowB s1 b12
  have B2 := B1.below b12
  have s2 := b02.size
  have t2 : w.heap.size + 1 ≤ w2.heap.size := D2.lt
  have g2 : Value.slice (some ⟨w1.heap.size, 0, none⟩) 2 2 = .slice (some ⟨w1.heap.size, 0, none⟩) 2 2 := rfl
  rw [← hw2]
  clear hw2 b12 b01 D1 B1 d0 d1 d2 d3 d4 d5
  obtain ⟨d0, d1, d2, d3, d4, d5⟩ := D2.cellsV
  obtain ⟨v2, hv2⟩ : ∃ v, v = Value.slice (some ⟨w1.heap.size, 0, none⟩) 2 2 := ⟨_, rfl⟩
  rw [← hv2] at own2 ⊢
  clear hv2 s1 g2
  refine wp_loop_rounds 4 ?_
  rw [rounds_succ]
  go_wp2_with fail
  refine (oPut pn p1 _).mono ?_; rintro e' w3 ⟨rfl, ⟨cs, hcs⟩, BQ⟩
  have b23 : Below w2.heap.size w2 w3 := by rw [hcs]; exact (Below.refl _ _).alloc (Nat.le_refl _) _
  have own3 : w3.ownsRow (w.heap.size + 1) 5 1 v2 (2) (([1, ecn]).map (.int .u8)) := by rw [hcs]; exact own2.alloc _
  have sa : w3.heap.size = w2.heap.size + 1 := by rw [hcs]; simp
  have D3 := D2.belowB (by omega) b23
  have B3 := B2.below b23
  have b03 : Below w.heap.size w w3 := b02.trans (b23.mono s2)
  have s3 := b03.size
  clear D2 B2 b02 own2 d0 d1 d2 d3 d4 d5 hcs b23
  obtain ⟨d0, d1, d2, d3, d4, d5⟩ := D3.cellsV
  go_wp2_with (at_builtin; refine wpList_append_own _ rfl (.tmp 33) (.tmp 34) 44 rfl (w.heap.size + 1) 5 i (.int .u8 0) 1 1 Try.underlying44 hi hz hs hbb rfl (by decide) _ (2) _ rfl own3 ⟨w2.heap.size, 0, none⟩ ((putA pn).length) ((putA pn).length) ((putA pn).map (.int .u8)) rfl (by simp) BQ.news (oneCell_bytes _) (by simp [maxLen]; omega) (by omega) (by omega) ?_; intro v4 w4 own4 hgrow4 hnil4; rw [← List.map_append] at own4)
  have b34 : Below (w.heap.size + 1) w3 w4 := below_grownR (Below.refl _ _) hgrow4 (by omega) (fun k hk => (own3.lt k hk).1)
  have D4 := D3.belowB (Nat.lt_succ_self _) b34
  have B4 : BytesAt w4 g0 o0 body := BytesAt.belowA B3 b34 (by omega)
  have b04 : Below w.heap.size w w4 := b03.trans (b34.mono (by omega))
  have s4 := b04.size
  have t4 : w.heap.size + 1 ≤ w4.heap.size := D4.lt
  clear D3 B3 b03 own3 d0 d1 d2 d3 d4 d5 hgrow4 hnil4 b34 BQ
  obtain ⟨d0, d1, d2, d3, d4, d5⟩ := D4.cellsV
  rw [rounds_succ]
  go_wp2_with fail
  refine (oPut least ⟨p2.1, by omega⟩ _).mono ?_; rintro e' w5 ⟨rfl, ⟨cs, hcs⟩, BQ⟩
  have b45 : Below w4.heap.size w4 w5 := by rw [hcs]; exact (Below.refl _ _).alloc (Nat.le_refl _) _
  have own5 : w5.ownsRow (w.heap.size + 1) 5 1 v4 (2 + (putA pn).length) (([1, ecn] ++ putA pn).map (.int .u8)) := by rw [hcs]; exact own4.alloc _
  have sa : w5.heap.size = w4.heap.size + 1 := by rw [hcs]; simp
  have D5 := D4.belowB (by omega) b45
  have B5 := B4.below b45
  have b05 : Below w.heap.size w w5 := b04.trans (b45.mono s4)
  have s5 := b05.size
  clear D4 B4 b04 own4 d0 d1 d2 d3 d4 d5 hcs b45
  obtain ⟨d0, d1, d2, d3, d4, d5⟩ := D5.cellsV
  go_wp2_with (at_builtin; refine wpList_append_own _ rfl (.tmp 33) (.tmp 34) 44 rfl (w.heap.size + 1) 5 i (.int .u8 0) 1 1 Try.underlying44 hi hz hs hbb rfl (by decide) _ (2 + (putA pn).length) _ rfl own5 ⟨w4.heap.size, 0, none⟩ ((putA least).length) ((putA least).length) ((putA least).map (.int .u8)) rfl (by simp) BQ.news (oneCell_bytes _) (by simp [maxLen]; omega) (by omega) (by omega) ?_; intro v6 w6 own6 hgrow6 hnil6; rw [← List.map_append] at own6)
  have b56 : Below (w.heap.size + 1) w5 w6 := below_grownR (Below.refl _ _) hgrow6 (by omega) (fun k hk => (own5.lt k hk).1)
  have D6 := D5.belowB (Nat.lt_succ_self _) b56
  have B6 : BytesAt w6 g0 o0 body := BytesAt.belowA B5 b56 (by omega)
  have b06 : Below w.heap.size w w6 := b05.trans (b56.mono (by omega))
  have s6 := b06.size
  have t6 : w.heap.size + 1 ≤ w6.heap.size := D6.lt
  clear D5 B5 b05 own5 d0 d1 d2 d3 d4 d5 hgrow6 hnil6 b56 BQ
  obtain ⟨d0, d1, d2, d3, d4, d5⟩ := D6.cellsV
  rw [rounds_succ]
  go_wp2_with fail
  refine (oPut off ⟨p5.1, by omega⟩ _).mono ?_; rintro e' w7 ⟨rfl, ⟨cs, hcs⟩, BQ⟩
  have b67 : Below w6.heap.size w6 w7 := by rw [hcs]; exact (Below.refl _ _).alloc (Nat.le_refl _) _
  have own7 : w7.ownsRow (w.heap.size + 1) 5 1 v6 (2 + (putA pn).length + (putA least).length) (([1, ecn] ++ putA pn ++ putA least).map (.int .u8)) := by rw [hcs]; exact own6.alloc _
  have sa : w7.heap.size = w6.heap.size + 1 := by rw [hcs]; simp
  have D7 := D6.belowB (by omega) b67
  have B7 := B6.below b67
  have b07 : Below w.heap.size w w7 := b06.trans (b67.mono s6)
  have s7 := b07.size
  clear D6 B6 b06 own6 d0 d1 d2 d3 d4 d5 hcs b67
  obtain ⟨d0, d1, d2, d3, d4, d5⟩ := D7.cellsV
  go_wp2_with (at_builtin; refine wpList_append_own _ rfl (.tmp 33) (.tmp 34) 44 rfl (w.heap.size + 1) 5 i (.int .u8 0) 1 1 Try.underlying44 hi hz hs hbb rfl (by decide) _ (2 + (putA pn).length + (putA least).length) _ rfl own7 ⟨w6.heap.size, 0, none⟩ ((putA off).length) ((putA off).length) ((putA off).map (.int .u8)) rfl (by simp) BQ.news (oneCell_bytes _) (by simp [maxLen]; omega) (by omega) (by omega) ?_; intro v8 w8 own8 hgrow8 hnil8; rw [← List.map_append] at own8)
  have b78 : Below (w.heap.size + 1) w7 w8 := below_grownR (Below.refl _ _) hgrow8 (by omega) (fun k hk => (own7.lt k hk).1)
  have D8 := D7.belowB (Nat.lt_succ_self _) b78
  have B8 : BytesAt w8 g0 o0 body := BytesAt.belowA B7 b78 (by omega)
  have b08 : Below w.heap.size w w8 := b07.trans (b78.mono (by omega))
  have s8 := b08.size
  have t8 : w.heap.size + 1 ≤ w8.heap.size := D8.lt
  clear D7 B7 b07 own7 d0 d1 d2 d3 d4 d5 hgrow8 hnil8 b78 BQ
  obtain ⟨d0, d1, d2, d3, d4, d5⟩ := D8.cellsV
  rw [rounds_succ]
  go_wp2_with fail
  refine (oEightB x p6 _).mono ?_; rintro e' w9 ⟨rfl, b89, BQ⟩
  have own9 := own_below own8 b89
  have sa : w8.heap.size ≤ w9.heap.size := b89.size
  have D9 := D8.belowB (by omega) b89
  have B9 := B8.below b89
  have b09 : Below w.heap.size w w9 := b08.trans (b89.mono s8)
  have s9 := b09.size
  clear D8 B8 b08 own8 d0 d1 d2 d3 d4 d5 b89
  obtain ⟨d0, d1, d2, d3, d4, d5⟩ := D9.cellsV
  have el := eightL_len x
  go_wp2_with (at_builtin; refine wpList_append_own _ rfl (.tmp 37) (.tmp 40) 44 rfl (w.heap.size + 1) 5 i (.int .u8 0) 1 1 Try.underlying44 hi hz hs hbb rfl (by decide) _ (2 + (putA pn).length + (putA least).length + (putA off).length) _ rfl own9 ⟨w8.heap.size, 0, none⟩ (8) (8) ((eightL x).map (.int .u8)) rfl (by simp [el]) BQ.news (oneCell_bytes _) (by simp [maxLen]; omega) (by omega) (by omega) ?_; intro v10 w10 own10 hgrow10 hnil10; rw [← List.map_append] at own10; obtain ⟨e0, e1, e2, e3, e4, e5⟩ := (D9.belowB (Nat.lt_succ_self _) (below_grownR (Below.refl (w.heap.size + 1) _) hgrow10 (by omega) (fun k hk => (own9.lt k hk).1))).cellsV)
  have b910 : Below (w.heap.size + 1) w9 w10 := below_grownR (Below.refl _ _) hgrow10 (by omega) (fun k hk => (own9.lt k hk).1)
  have D10 := D9.belowB (Nat.lt_succ_self _) b910
  have B10 : BytesAt w10 g0 o0 body := BytesAt.belowA B9 b910 (by omega)
  have b010 : Below w.heap.size w w10 := b09.trans (b910.mono (by omega))
  have s10 := b010.size
  have t10 : w.heap.size + 1 ≤ w10.heap.size := D10.lt
  clear D9 B9 b09 own9 d0 d1 d2 d3 d4 d5 hgrow10 hnil10 b910 BQ
  refine (oPut (L : Int) ⟨by omega, by omega⟩ _).mono ?_; rintro e' w11 ⟨rfl, ⟨cs, hcs⟩, BQ⟩
  have b1011 : Below w10.heap.size w10 w11 := by rw [hcs]; exact (Below.refl _ _).alloc (Nat.le_refl _) _
  have own11 := own_below own10 b1011
  have sa : w10.heap.size ≤ w11.heap.size := b1011.size
  have D11 := D10.belowB (by omega) b1011
  have B11 := B10.below b1011
  have b011 : Below w.heap.size w w11 := b010.trans (b1011.mono s10)
  have s11 := b011.size
  clear D10 B10 b010 own10 hcs b1011
  go_wp2_with fail
  have DD : DatAt w11.drew w.heap.size (.int .u64 pn) (.int .u64 least) (.int .u64 off) (.int .u64 x) (.int .i64 ecn) (.slice (some ⟨g0, o0, none⟩) L c) := D11
  have bd : Below w11.heap.size w11 w11.drew := ⟨rfl, rfl, rfl, Nat.le_refl _, fun _ _ => rfl⟩
  have BD := B11.below bd
  have BQD := BytesAt.below BQ bd
  have ownD := own_below own11 bd
  have b0D := b011.trans (bd.mono s11)
  have tD : w.heap.size + 1 ≤ w11.drew.heap.size := DD.lt
  have hq : w.heap.size + 1 ≤ w10.heap.size := t10
  clear bd B11 BQ own11 b011 D11
  refine wp_region_held_drew (S := fun W => DatAt W w.heap.size (.int .u64 pn) (.int .u64 least) (.int .u64 off) (.int .u64 x) (.int .i64 ecn) (.slice (some ⟨g0, o0, none⟩) L c)) (by kernel_rfl) DD (fun hHeld => ?_)
  generalize w11.drew = X at *
  refine wpAnyH_take (i := 0) (oi := _) (v := v10) rfl (by kernel_rfl) (by kernel_rfl) (by kernel_rfl) (fun _ _ _ h => h) (Or.inl ⟨by rfl, fun w hS => by go_simp⟩) (by assumption) ?_
  simp [Act.put]
  refine wpAnyH_take (i := 1) (oi := _) (v := (.slice (some ⟨w10.heap.size, 0, none⟩) (putA (L : Int)).length (putA (L : Int)).length)) rfl (by kernel_rfl) (by kernel_rfl) (by kernel_rfl) (fun _ _ _ h => h) (Or.inl ⟨by rfl, fun w hS => by go_simp⟩) (by assumption) ?_
  simp [Act.put]
  refine wpAnyH_take (i := 3) (oi := _) (v := (.pointer (some ⟨w.heap.size, 5, none⟩))) rfl (by kernel_rfl) (by kernel_rfl) (by kernel_rfl) (fun _ _ _ h => h) (Or.inl ⟨by rfl, fun w hS => by go_simp⟩) (by assumption) ?_
  simp [Act.put]
  refine wpAnyH_take (i := 4) (oi := _) (v := (.slice (some ⟨g0, o0, none⟩) L c)) rfl (by kernel_rfl) (by kernel_rfl) (by kernel_rfl) (fun _ _ _ h => h) (Or.inl ⟨by rfl, fun w hS => by obtain ⟨d0, d1, d2, d3, d4, d5⟩ := DatAt.cellsV hS; go_simp⟩) (by assumption) ?_
  simp [Act.put]
  refine wpAnyH_ready (rs := [2]) (by kernel_rfl) (by simp) ?_
  refine AllReadyH.cons (o := _) rfl (fun K hK => ?_) AllReadyH.nil
  rw [if_pos (by rfl)]
  refine wp_append_own _ (.tmp 50) (.tmp 51) 44 rfl (w.heap.size + 1) 5 i (.int .u8 0) 1 1 Try.underlying44 hi hz hs hbb rfl (by decide) v10 (2 + (putA pn).length + (putA least).length + (putA off).length + 8) _ rfl ownD ⟨w10.heap.size, 0, none⟩ ((putA (L : Int)).length) ((putA (L : Int)).length) ((putA (L : Int)).map (.int .u8)) rfl (by simp) BQD.news (oneCell_bytes _) (by simp [maxLen]; omega) (by omega) (by omega) ?_
  intro vA wA ownA hgrowA hnilA
  rw [← List.map_append] at ownA
  have bA : Below (w.heap.size + 1) X wA := below_grownR (Below.refl _ _) hgrowA tD (fun k hk => (ownD.lt k hk).1)
  have DA := DD.belowB (Nat.lt_succ_self _) bA
  have BA := BytesAt.belowA BD bA (by omega)
  have b0A := b0D.trans (bA.mono (Nat.le_succ _))
  have tA : w.heap.size + 1 ≤ wA.heap.size := DA.lt
  simp [Act.put]
  refine hK.out _ _ DA (fun hHeld2 => ?_)
  clear hK K
  refine wpAnyH_ready (rs := [5]) (by kernel_rfl) (by simp) ?_
  refine AllReadyH.cons (o := _) rfl (fun K hK => ?_) AllReadyH.nil
  rw [if_pos (by rfl)]
  refine wp_append_own _ (.tmp 52) (.tmp 54) 44 rfl (w.heap.size + 1) 5 i (.int .u8 0) 1 1 Try.underlying44 hi hz hs hbb rfl (by decide) vA (2 + (putA pn).length + (putA least).length + (putA off).length + 8 + (putA (L : Int)).length) _ rfl ownA ⟨g0, o0, none⟩ (L) (c) ((body).map (.int .u8)) rfl (by simp [hL]) BA.news (oneCell_bytes _) (by simp [maxLen]; omega) (by omega) (by omega) ?_
  intro vB wB ownB hgrowB hnilB
  rw [← List.map_append] at ownB
  have bB : Below (w.heap.size + 1) wA wB := below_grownR (Below.refl _ _) hgrowB tA (fun k hk => (ownA.lt k hk).1)
  have DB := DA.belowB (Nat.lt_succ_self _) bB
  have b0B := b0A.trans (bB.mono (Nat.le_succ _))
  simp [Act.put]
  refine hK.out _ _ DB (fun hHeld3 => ?_)
  clear hK K
  refine wpAnyH_take (i := 6) (oi := _) (v := vB) rfl (by kernel_rfl) (by kernel_rfl) (by kernel_rfl) (fun _ _ _ h => h) (Or.inl ⟨by rfl, fun w hS => by go_simp⟩) (by assumption) ?_
  simp [Act.put]
  refine wpAnyH_take (i := 7) (oi := _) (v := (.int .i64 0)) rfl (by kernel_rfl) (by kernel_rfl) (by kernel_rfl) (fun _ _ _ h => h) (Or.inl ⟨by rfl, fun w hS => by go_simp⟩) (by assumption) ?_
  simp [Act.put]
  refine wpAnyH_done (by kernel_rfl) ?_ _
  go_wp2_with fail
  refine bodyPost_ret (v := .tuple #[vB, .int .i64 0]) (by simp [results, Try.results103, go_sem]) rfl ⟨vB, rfl, b0B, ?_⟩
  have e1 : 2 + (putA pn).length + (putA least).length + (putA off).length + 8 + (putA (L : Int)).length + L = (putD ⟨pn, least, off, x, ecn, body⟩).length := by simp only [putD, List.length_cons, List.length_append, eightL_len, hL]; omega
  have e2 : [1, ecn] ++ putA pn ++ putA least ++ putA off ++ eightL x ++ putA (L : Int) ++ body = putD ⟨pn, least, off, x, ecn, body⟩ := by simp [putD, hL]
  rw [e1, e2] at ownB
  exact own_base ownB (Nat.le_succ _)


end Go.Proofs.Ytikkmdbaekdolaa
