/- package ack: May and Encode of one span; Decode of one byte. -/
import Derived.Test.YtofggpmllfhgaaaSpanOne
import Derived.Test.YtofggpmllfhgaaaHeadPut
namespace Go.Proofs.Ytofggpmllfhgaaa
open Go.RowKit Go.Lib
set_option linter.unusedVariables false
set_option maxRecDepth 100000

/-- an acknowledgment's five cells -/
def AckAt (w : World) (D : Nat) (c0 c1 c2 c3 c4 : Value) : Prop := w.heap[D]? = some (.cells #[c0, c1, c2, c3, c4] 52 (0, 0))
theorem AckAt.lt {w : World} {D : Nat} {c0 c1 c2 c3 c4 : Value} (h : AckAt w D c0 c1 c2 c3 c4) : D < w.heap.size := (Array.getElem?_eq_some_iff.1 h).1
theorem AckAt.cells {w : World} {D : Nat} {c0 c1 c2 c3 c4 : Value} (h : AckAt w D c0 c1 c2 c3 c4) :
    (w.cell? ⟨D, 0, none⟩ = some c0 ∧ w.cell? ⟨D, 1, none⟩ = some c1 ∧ w.cell? ⟨D, 2, none⟩ = some c2 ∧ w.cell? ⟨D, 3, none⟩ = some c3 ∧ w.cell? ⟨D, 4, none⟩ = some c4) ∧ ∀ j, w.frozen? ⟨D, j, none⟩ = false := by
  refine ⟨?_, fun j => ?_⟩
  · unfold World.cell?
    rw [show w.heap[D]? = _ from h]
    exact ⟨rfl, rfl, rfl, rfl, rfl⟩
  · unfold World.frozen?
    rw [show w.heap[D]? = _ from h]
    simp
theorem AckAt.belowB {w w' : World} {D B : Nat} {c0 c1 c2 c3 c4 : Value} (h : AckAt w D c0 c1 c2 c3 c4) (hD : D < B) (k : Below B w w') : AckAt w' D c0 c1 c2 c3 c4 := by
  unfold AckAt
  rw [k.block D hD]
  exact h

set_option maxHeartbeats 2000000 in
theorem aMay1 (g o c : Nat) (lo hi t x : Int) (h1 : lo ≤ hi) (h2 : hi ≤ 4611686018427387903) (w : World) (hS : SpanAt w g o lo hi) :
    Calls Try.prog 30 #[.agg #[.slice (some ⟨g, o, none⟩) 1 c, .slice none 0 0, .int .u64 t, .int .u64 x, .bool true]] w fun e w' => e = .returned (.bool true) ∧ Gr w w' := by
  have HS := Lib.hid hS
  clear hS
  go_enter Try.func30, Try.ntmps30
  go_wp2_with fail
  refine (sWithin1 g o c lo hi h1 h2 _ (HS.out.below (Gr.below (by repeat (first | exact Gr.refl _ | apply Gr.drewN | apply Gr.drew | apply Gr.gw | apply Gr.alloc))))).mono ?_; rintro e' w1 ⟨rfl, n1, os1, rfl⟩
  go_wp2_with fail
  refine (sWithin0 g o c lo hi h1 h2 _ (HS.out.below (Gr.below (by repeat (first | exact Gr.refl _ | apply Gr.drewN | apply Gr.drew | apply Gr.gw | apply Gr.alloc))))).mono ?_; rintro e' w2 ⟨rfl, n2, os2, rfl⟩
  go_wp2_with fail
  go_ret
  exact ⟨rfl, by repeat (first | exact Gr.refl _ | apply Gr.drewN | apply Gr.drew | apply Gr.gw | apply Gr.alloc)⟩

set_option maxHeartbeats 8000000 in
theorem aEncode1 (g o c : Nat) (lo hi t x : Int) (h0 : 0 ≤ lo) (h1 : lo ≤ hi) (h2 : hi ≤ 4611686018427387903) (ht : W64 t) (hx : W64 x) (w : World) (hS : SpanAt w g o lo hi) :
    Calls Try.prog 28 #[.agg #[.slice (some ⟨g, o, none⟩) 1 c, .slice none 0 0, .int .u64 t, .int .u64 x, .bool true]] w fun e w' => ∃ v, e = .returned (.tuple #[v, .int .i64 0]) ∧ Below w.heap.size w w' ∧ w'.ownsRow w.heap.size 5 1 v (1 + (1 + (putA lo).length + (putA (hi - lo)).length) + 1 + 8 + 8 + 1) (([2] ++ ([1] ++ putA lo ++ putA (hi - lo)) ++ [0] ++ eightL t ++ eightL x ++ [1]).map (.int .u8)) := by
  obtain ⟨i, hi', hz, hs, hbb⟩ := info_parts (P := Try.prog) (e := 5) (z := .int .u8 0) (size := 1) (bytes := 1) (by kernel_rfl)
  have K1 := putA_len1 lo
  have K2 := putA_len1 (hi - lo)
  have HT := Lib.hid ht
  have HX := Lib.hid hx
  have H0 := Lib.hid h0
  have el := eightL_len t
  have el2 := eightL_len x
  clear ht hx
  go_enter Try.func28, Try.ntmps28
  go_wp2_with fail
  obtain ⟨w0, hw0⟩ : ∃ w0, w0 = w.alloc (.cells #[.slice (some ⟨g, o, none⟩) 1 c, .slice none 0 0, .int .u64 t, .int .u64 x, .bool true] 52 (0, 0)) := ⟨_, rfl⟩
  have b00 : Below w.heap.size w w0 := by rw [hw0]; exact (Below.refl _ _).alloc (Nat.le_refl _) _
  have A0 : AckAt w0 w.heap.size (.slice (some ⟨g, o, none⟩) 1 c) (.slice none 0 0) (.int .u64 t) (.int .u64 x) (.bool true) := by rw [hw0]; exact heap_alloc_new w _
  rw [← hw0]
  clear hw0
  refine (aMay1 g o c lo hi t x h1 h2 _ (hS.below b00)).mono ?_; rintro e' w1 ⟨rfl, hgr⟩
  have A1 := A0.belowB A0.lt hgr.below
  have S1 := (hS.below b00).below hgr.below
  have b01 := b00.trans (hgr.below.mono b00.size)
  have t1 : w.heap.size + 1 ≤ w1.heap.size := A1.lt
  have l1 := A1.lt
  clear A0 hgr b00 hS
  obtain ⟨d0, d1, d2, d3, d4⟩ := A1.cells.1
  go_wp2_with fail
  obtain ⟨w2, hw2⟩ : ∃ w2, w2 = w1.alloc (.cells #[.int .u8 2] 5 (0, 0)) := ⟨_, rfl⟩
  have b12 : Below w1.heap.size w1 w2 := by rw [hw2]; exact (Below.refl _ _).alloc (Nat.le_refl _) _
  have own2 : w2.ownsRow (w.heap.size + 1) 5 1 (.slice (some ⟨w1.heap.size, 0, none⟩) 1 1) 1 ([2].map (.int .u8)) := by rw [hw2]; exact World.ownsRow_lit w1 #[.int .u8 2] 1 t1 (by simp [maxLen]) rfl
  have A2 := A1.belowB A1.lt b12
  have S2 := S1.below b12
  have b02 := b01.trans (b12.mono b01.size)
  have s2 := b12.size
  rw [← hw2]
  clear hw2 A1 S1 b01 b12 d0 d1 d2 d3 d4
  obtain ⟨v2, hv2⟩ : ∃ v, v = Value.slice (some ⟨w1.heap.size, 0, none⟩) 1 1 := ⟨_, rfl⟩
  rw [← hv2] at own2 ⊢
  clear hv2
  refine (aRow1 g o c lo hi H0.out h1 h2 _ S2).mono ?_; rintro e' w3 ⟨v3, rfl, b23, own3⟩
  obtain ⟨g3, c3, rfl, hg3, hc3, hm3, B3⟩ := ownBytes own3 (by omega)
  have own2' := own_below own2 b23
  have A3 := A2.belowB A2.lt b23
  have b03 := b02.trans (b23.mono b02.size)
  have t3 : w.heap.size + 1 ≤ w3.heap.size := A3.lt
  clear own3 own2 A2 b02 b23 S2
  obtain ⟨d0, d1, d2, d3, d4⟩ := A3.cells.1
  have l3 : (([1] ++ putA lo ++ putA (hi - lo)).map (Value.int .u8)).length = (1 + (putA lo).length + (putA (hi - lo)).length) * 1 := by simp; omega
  go_wp2_with (at_builtin; refine wpList_append_own _ rfl (.tmp 8) (.tmp 11) 23 rfl (w.heap.size + 1) 5 i (.int .u8 0) 1 1 Try.underlying23 hi' hz hs hbb rfl (by decide) _ 1 _ rfl own2' ⟨g3, 0, none⟩ (1 + (putA lo).length + (putA (hi - lo)).length) c3 (([1] ++ putA lo ++ putA (hi - lo)).map (.int .u8)) rfl l3 B3.news (oneCell_bytes _) (by simp [maxLen]; omega) (by omega) (by omega) ?_; intro v4 w4 own4 hgrow4 hnil4; rw [← List.map_append] at own4)
  have b34 : Below (w.heap.size + 1) w3 w4 := below_grownR (Below.refl _ _) hgrow4 t3 (fun k hk => (own2'.lt k hk).1)
  have A4 := A3.belowB (Nat.lt_succ_self _) b34
  have b04 := b03.trans (b34.mono (Nat.le_succ _))
  clear A3 b03 own2' hgrow4 hnil4 B3 b34 d0 d1 d2 d3 d4 l3
  have AD : AckAt w4.drew w.heap.size (.slice (some ⟨g, o, none⟩) 1 c) (.slice none 0 0) (.int .u64 t) (.int .u64 x) (.bool true) := A4
  have bd : Below w4.heap.size w4 w4.drew := ⟨rfl, rfl, rfl, Nat.le_refl _, fun _ _ => rfl⟩
  have ownD := own_below own4 bd
  have b0D := b04.trans (bd.mono b04.size)
  have tD : w.heap.size + 1 ≤ w4.drew.heap.size := AD.lt
  clear own4 bd b04 A4
  refine wp_region_held_drew (S := fun W => AckAt W w.heap.size (.slice (some ⟨g, o, none⟩) 1 c) (.slice none 0 0) (.int .u64 t) (.int .u64 x) (.bool true)) (by kernel_rfl) AD (fun hHeld => ?_)
  generalize w4.drew = X at *
  refine wpAnyH_take (i := 0) (oi := _) (v := v4) rfl (by kernel_rfl) (by kernel_rfl) (by kernel_rfl) (fun _ _ _ h => h) (Or.inl ⟨by rfl, fun w hS => by go_simp⟩) (by assumption) ?_
  simp [Act.put]
  refine wpAnyH_take (i := 1) (oi := _) (v := (.pointer (some ⟨w.heap.size, 1, none⟩))) rfl (by kernel_rfl) (by kernel_rfl) (by kernel_rfl) (fun _ _ _ h => h) (Or.inl ⟨by rfl, fun w hS => by go_simp⟩) (by assumption) ?_
  simp [Act.put]
  refine wpAnyH_take (i := 2) (oi := _) (v := (.slice none 0 0)) rfl (by kernel_rfl) (by kernel_rfl) (by kernel_rfl) (fun _ _ _ h => h) (Or.inl ⟨by rfl, fun w hS => by obtain ⟨d0, d1, d2, d3, d4⟩ := (AckAt.cells hS).1; go_simp⟩) (by assumption) ?_
  simp [Act.put]
  refine wpAnyH_take (i := 5) (oi := _) (v := (.pointer (some ⟨w.heap.size, 2, none⟩))) rfl (by kernel_rfl) (by kernel_rfl) (by kernel_rfl) (fun _ _ _ h => h) (Or.inl ⟨by rfl, fun w hS => by go_simp⟩) (by assumption) ?_
  simp [Act.put]
  refine wpAnyH_take (i := 6) (oi := _) (v := (.int .u64 t)) rfl (by kernel_rfl) (by kernel_rfl) (by kernel_rfl) (fun _ _ _ h => h) (Or.inl ⟨by rfl, fun w hS => by obtain ⟨d0, d1, d2, d3, d4⟩ := (AckAt.cells hS).1; go_simp⟩) (by assumption) ?_
  simp [Act.put]
  refine wpAnyH_take (i := 9) (oi := _) (v := (.pointer (some ⟨w.heap.size, 3, none⟩))) rfl (by kernel_rfl) (by kernel_rfl) (by kernel_rfl) (fun _ _ _ h => h) (Or.inl ⟨by rfl, fun w hS => by go_simp⟩) (by assumption) ?_
  simp [Act.put]
  refine wpAnyH_take (i := 10) (oi := _) (v := (.int .u64 x)) rfl (by kernel_rfl) (by kernel_rfl) (by kernel_rfl) (fun _ _ _ h => h) (Or.inl ⟨by rfl, fun w hS => by obtain ⟨d0, d1, d2, d3, d4⟩ := (AckAt.cells hS).1; go_simp⟩) (by assumption) ?_
  simp [Act.put]
  refine wpAnyH_ready (rs := [3]) (by kernel_rfl) (by simp) ?_
  refine AllReadyH.cons (o := _) rfl (fun K hK => ?_) AllReadyH.nil
  go_simp
  refine (aRow0 _).mono ?_; rintro e' p0 ⟨vr0, rfl, bx0, or0⟩
  obtain ⟨gr0, cr0, rfl, _, _, _, BR0⟩ := ownBytes or0 (by omega)
  have p0own := own_below ownD bx0
  have p0A := AD.belowB AD.lt bx0
  have p0b := b0D.trans (bx0.mono b0D.size)
  have p0t : w.heap.size + 1 ≤ p0.heap.size := p0A.lt
  go_simp
  refine hK.out _ _ p0A (fun hH => ?_)
  clear hK K hH
  refine wpAnyH_ready (rs := [4]) (by kernel_rfl) (by simp) ?_
  refine AllReadyH.cons (o := _) rfl (fun K hK => ?_) AllReadyH.nil
  rw [if_pos (by rfl)]
  refine wp_append_own _ (.tmp 13) (.tmp 16) 23 rfl (w.heap.size + 1) 5 i (.int .u8 0) 1 1 Try.underlying23 hi' hz hs hbb rfl (by decide) v4 (1 + (1 + (putA lo).length + (putA (hi - lo)).length)) _ rfl p0own ⟨gr0, 0, none⟩ 1 cr0 (([0]).map (.int .u8)) rfl (by simp) BR0.news (oneCell_bytes _) (by simp [maxLen]; omega) (by omega) p0t ?_
  intro vq0 q0 q0own hg0 hn0
  rw [← List.map_append] at q0own
  have by0 : Below (w.heap.size + 1) p0 q0 := below_grownR (Below.refl _ _) hg0 p0t (fun k hk => (p0own.lt k hk).1)
  have q0A := p0A.belowB (Nat.lt_succ_self _) by0
  have q0b := p0b.trans (by0.mono (Nat.le_succ _))
  have q0t : w.heap.size + 1 ≤ q0.heap.size := q0A.lt
  simp [Act.put]
  refine hK.out _ _ q0A (fun hH => ?_)
  clear hK K hH
  refine wpAnyH_ready (rs := [7]) (by kernel_rfl) (by simp) ?_
  refine AllReadyH.cons (o := _) rfl (fun K hK => ?_) AllReadyH.nil
  go_simp
  refine (oEightB t HT.out _).mono ?_; rintro e' p1 ⟨rfl, bx1, BR1⟩
  have p1own := own_below q0own bx1
  have p1A := q0A.belowB q0A.lt bx1
  have p1b := q0b.trans (bx1.mono q0b.size)
  have p1t : w.heap.size + 1 ≤ p1.heap.size := p1A.lt
  go_simp
  refine hK.out _ _ p1A (fun hH => ?_)
  clear hK K hH
  refine wpAnyH_ready (rs := [8]) (by kernel_rfl) (by simp) ?_
  refine AllReadyH.cons (o := _) rfl (fun K hK => ?_) AllReadyH.nil
  rw [if_pos (by rfl)]
  refine wp_append_own _ (.tmp 17) (.tmp 20) 23 rfl (w.heap.size + 1) 5 i (.int .u8 0) 1 1 Try.underlying23 hi' hz hs hbb rfl (by decide) vq0 (1 + (1 + (putA lo).length + (putA (hi - lo)).length) + 1) _ rfl p1own ⟨q0.heap.size, 0, none⟩ 8 8 ((eightL t).map (.int .u8)) rfl (by simp [el]) BR1.news (oneCell_bytes _) (by simp [maxLen]; omega) (by omega) p1t ?_
  intro vq1 q1 q1own hg1 hn1
  rw [← List.map_append] at q1own
  have by1 : Below (w.heap.size + 1) p1 q1 := below_grownR (Below.refl _ _) hg1 p1t (fun k hk => (p1own.lt k hk).1)
  have q1A := p1A.belowB (Nat.lt_succ_self _) by1
  have q1b := p1b.trans (by1.mono (Nat.le_succ _))
  have q1t : w.heap.size + 1 ≤ q1.heap.size := q1A.lt
  simp [Act.put]
  refine hK.out _ _ q1A (fun hH => ?_)
  clear hK K hH
  refine wpAnyH_ready (rs := [11]) (by kernel_rfl) (by simp) ?_
  refine AllReadyH.cons (o := _) rfl (fun K hK => ?_) AllReadyH.nil
  go_simp
  refine (oEightB x HX.out _).mono ?_; rintro e' p2 ⟨rfl, bx2, BR2⟩
  have p2own := own_below q1own bx2
  have p2A := q1A.belowB q1A.lt bx2
  have p2b := q1b.trans (bx2.mono q1b.size)
  have p2t : w.heap.size + 1 ≤ p2.heap.size := p2A.lt
  go_simp
  refine hK.out _ _ p2A (fun hH => ?_)
  clear hK K hH
  refine wpAnyH_ready (rs := [12]) (by kernel_rfl) (by simp) ?_
  refine AllReadyH.cons (o := _) rfl (fun K hK => ?_) AllReadyH.nil
  rw [if_pos (by rfl)]
  refine wp_append_own _ (.tmp 21) (.tmp 24) 23 rfl (w.heap.size + 1) 5 i (.int .u8 0) 1 1 Try.underlying23 hi' hz hs hbb rfl (by decide) vq1 (1 + (1 + (putA lo).length + (putA (hi - lo)).length) + 1 + 8) _ rfl p2own ⟨q1.heap.size, 0, none⟩ 8 8 ((eightL x).map (.int .u8)) rfl (by simp [el2]) BR2.news (oneCell_bytes _) (by simp [maxLen]; omega) (by omega) p2t ?_
  intro vq2 q2 q2own hg2 hn2
  rw [← List.map_append] at q2own
  have by2 : Below (w.heap.size + 1) p2 q2 := below_grownR (Below.refl _ _) hg2 p2t (fun k hk => (p2own.lt k hk).1)
  have q2A := p2A.belowB (Nat.lt_succ_self _) by2
  have q2b := p2b.trans (by2.mono (Nat.le_succ _))
  have q2t : w.heap.size + 1 ≤ q2.heap.size := q2A.lt
  simp [Act.put]
  refine hK.out _ _ q2A (fun hH => ?_)
  clear hK K hH
  refine wpAnyH_take (i := 13) (oi := _) (v := vq2) rfl (by kernel_rfl) (by kernel_rfl) (by kernel_rfl) (fun _ _ _ h => h) (Or.inl ⟨by rfl, fun w hS => by go_simp⟩) (by assumption) ?_
  simp [Act.put]
  refine wpAnyH_done (by kernel_rfl) ?_ _
  obtain ⟨d0, d1, d2, d3, d4⟩ := q2A.cells.1
  go_wp2_with (at_builtin; refine wpList_append_own _ rfl (.tmp 28) (.tmp 29) 23 rfl (w.heap.size + 1) 5 i (.int .u8 0) 1 1 Try.underlying23 hi' hz hs hbb rfl (by decide) _ (1 + (1 + (putA lo).length + (putA (hi - lo)).length) + 1 + 8 + 8) _ rfl (q2own.alloc _) ⟨q2.heap.size, 0, none⟩ 1 1 [.int .u8 1] rfl rfl (news1 _ _ _) (one1 _) (by simp [maxLen]; omega) (by omega) (by simp; omega) ?_; intro vZ wZ ownZ hgrowZ hnilZ)
  have bZ : Below (w.heap.size + 1) q2 wZ := below_grownR ((Below.refl _ _).alloc q2t _) hgrowZ (by simp; omega) (fun k hk => (q2own.lt k hk).1)
  rw [show [Value.int .u8 1] = [1].map (Value.int .u8) from rfl, ← List.map_append] at ownZ
  refine bodyPost_ret (v := .tuple #[vZ, .int .i64 0]) (by simp [results, Try.results28, go_sem]) rfl ⟨vZ, rfl, q2b.trans (bZ.mono (Nat.le_succ _)), own_base ownZ (Nat.le_succ _)⟩

set_option maxHeartbeats 1000000 in
theorem aSpansShort (p : Nat) (n : Int) (w : World) (hr : RdAt w p []) :
    Calls Try.prog 56 #[.pointer (some ⟨p, 0, none⟩), .int .i64 n] w fun e w' => e = .returned (.tuple #[.slice none 0 0, .int .i64 2]) ∧ w = w' := by
  go_enter Try.func56, Try.ntmps56
  go_wp2_with fail
  refine (takeShort [] 1 (by simp) _ p hr).mono ?_; rintro e' w' ⟨rfl, rfl⟩
  go_wp2_with fail
  exact bodyPost_ret (v := .tuple #[.slice none 0 0, .int .i64 2]) (by simp [results, Try.results56, go_sem]) rfl ⟨rfl, rfl⟩

set_option maxHeartbeats 2000000 in
theorem aDecodeOne (bv : Value) (k : Int) (hk : 0 ≤ k ∧ k ≤ 255) (w : World) (hB : BodyAt w bv [k]) :
    Calls Try.prog 32 #[bv] w fun e w' => e = .returned (.tuple #[.agg #[.slice none 0 0, .slice none 0 0, .int .u64 0, .int .u64 0, .bool false], .int .i64 (if k = 2 then 2 else 4)]) ∧ Below w.heap.size w w' := by
  go_enter Try.func32, Try.ntmps32
  go_wp2_with fail
  refine (oNewAny bv [k] (by simp) _ (hB.below ((Below.refl _ _).alloc (Nat.le_refl _) _))).mono ?_; rintro e' w1 ⟨p, rfl, hp, hp1, b1, R1⟩
  have A1 : AckAt w1 w.heap.size (.slice none 0 0) (.slice none 0 0) (.int .u64 0) (.int .u64 0) (.bool false) := AckAt.belowB (show AckAt (w.alloc _) _ _ _ _ _ _ from heap_alloc_new w _) (by simp) b1
  have b01 : Below w.heap.size w w1 := ((Below.refl _ _).alloc (Nat.le_refl _) _).trans (b1.mono (by simp))
  rw [show (w.alloc (.cells #[.slice none 0 0, .slice none 0 0, .int .u64 0, .int .u64 0, .bool false] 52 (0, 0))).heap.size = w.heap.size + 1 by simp] at hp
  clear b1 hB
  go_wp2_with fail
  refine (takeHere [k] 1 (by omega) (by simp) (by simp) _ p R1).mono ?_; rintro e' w2 ⟨q, c, rfl, BQ, b12, R2, _⟩
  have R2 : RdAt w2 p [] := R2
  have A2 := A1.belowB (by omega) b12
  have b02 := b01.trans (b12.mono (by omega))
  have ck : w2.cell? ⟨q, 0, none⟩ = some (.int .u8 k) := by simpa using BQ.at 0 k rfl
  have l2 := A2.lt
  clear BQ b12 R1 A1 b01
  obtain ⟨⟨a0, a1, a2, a3, a4⟩, fz⟩ := A2.cells
  have z0 := fz 0
  have z1 := fz 1
  have z2 := fz 2
  have z3 := fz 3
  have z4 := fz 4
  by_cases hk2 : k = 2
  · subst hk2
    go_wp2_with fail
    refine (aSpansShort p 1 _ (R2.below ((Below.refl _ _).alloc (Nat.le_refl _) _))).mono ?_; rintro e' w' ⟨rfl, rfl⟩
    go_wp2_with fail
    refine bodyPost_ret (v := .tuple #[.agg #[.slice none 0 0, .slice none 0 0, .int .u64 0, .int .u64 0, .bool false], .int .i64 2]) (by simp [results, Try.results32, go_sem, a0, a1, a2, a3, a4, l2]) rfl ⟨rfl, ?_⟩
    repeat (first | with_reducible exact b02 | with_reducible refine Below.setCell ?_ (by simp) _ | with_reducible refine Below.alloc ?_ (by have := b02.size; simp; omega) _)
  · have hd : (k != 2) = true := by rw [bne_iff_ne]; exact hk2
    go_wp2_with fail
    refine bodyPost_ret (v := .tuple #[.agg #[.slice none 0 0, .slice none 0 0, .int .u64 0, .int .u64 0, .bool false], .int .i64 4]) (by simp [results, Try.results32, go_sem, a0, a1, a2, a3, a4]) rfl ⟨by first | rfl | rw [if_neg hk2], ?_⟩
    repeat (first | with_reducible exact b02 | with_reducible refine Below.setCell ?_ (by simp) _)

end Go.Proofs.Ytofggpmllfhgaaa
