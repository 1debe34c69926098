/- package span: Good and Within; package ack: row; of a row of one span, and of none. -/
import Derived.Test.YtikkmdbaekdolaaChal
namespace Go.Proofs.Ytikkmdbaekdolaa
open Go.RowKit Go.Lib
set_option linter.unusedVariables false
set_option maxRecDepth 100000

theorem sRight (lo hi : Int) (h1 : lo ≤ hi) (h2 : hi ≤ 4611686018427387903) (w : World) :
    Calls Try.prog 116 #[.agg #[.int .u64 lo, .int .u64 hi]] w fun e w' => e = .returned (.bool true) ∧ Gr w w' := by
  have d1 : decide (lo ≤ hi) = true := decide_eq_true h1
  have d2 : decide (hi ≤ 4611686018427387903) = true := decide_eq_true h2
  go_enter Try.func116, Try.ntmps116
  go_wp2_with fail
  go_ret
  exact ⟨rfl, by repeat (first | exact Gr.refl _ | apply Gr.drewN | apply Gr.drew | apply Gr.gw | apply Gr.alloc)⟩

theorem sGood0 (w : World) :
    Calls Try.prog 115 #[.slice none 0 0] w fun e w' => e = .returned (.bool true) ∧ Gr w w' := by
  go_enter Try.func115, Try.ntmps115
  go_wp2_with fail
  refine wp_loop_rounds 1 ?_
  rw [rounds_succ]
  go_wp2_with fail
  go_ret
  exact ⟨rfl, Gr.refl _⟩

/-- a row of one span -/
def SpanAt (w : World) (g o : Nat) (lo hi : Int) : Prop := g < w.heap.size ∧ w.cell? ⟨g, o, none⟩ = some (.int .u64 lo) ∧ w.cell? ⟨g, o + 1, none⟩ = some (.int .u64 hi)
theorem SpanAt.below {w w' : World} {g o : Nat} {lo hi : Int} (h : SpanAt w g o lo hi) (hb : Below w.heap.size w w') : SpanAt w' g o lo hi :=
  ⟨Nat.lt_of_lt_of_le h.1 hb.size, by rw [hb.cell h.1]; exact h.2.1, by rw [hb.cell h.1]; exact h.2.2⟩

set_option maxHeartbeats 2000000 in
theorem sGood1 (g o c : Nat) (lo hi : Int) (h1 : lo ≤ hi) (h2 : hi ≤ 4611686018427387903) (w : World) (hS : SpanAt w g o lo hi) :
    Calls Try.prog 115 #[.slice (some ⟨g, o, none⟩) 1 c] w fun e w' => e = .returned (.bool true) ∧ Gr w w' := by
  obtain ⟨hg, c0, c1⟩ := hS
  go_enter Try.func115, Try.ntmps115
  go_wp2_with fail
  refine wp_loop_rounds 2 ?_
  rw [rounds_succ]
  go_wp2_with fail
  have HX : ((w.alloc (.cells #[.int .u64 lo, .int .u64 hi] 80 (0, 0))).drew).cell? ⟨w.heap.size, 0, none⟩ = some (.int .u64 lo) ∧ ((w.alloc (.cells #[.int .u64 lo, .int .u64 hi] 80 (0, 0))).drew).cell? ⟨w.heap.size, 1, none⟩ = some (.int .u64 hi) ∧ w.heap.size < ((w.alloc (.cells #[.int .u64 lo, .int .u64 hi] 80 (0, 0))).drew).heap.size := ⟨by go_simp, by go_simp, by simp⟩
  have g0 : Gr w ((w.alloc (.cells #[.int .u64 lo, .int .u64 hi] 80 (0, 0))).drew) := by repeat (first | exact Gr.refl _ | apply Gr.drewN | apply Gr.drew | apply Gr.gw | apply Gr.alloc)
  refine wp_region_held_drew (S := fun W => W.cell? ⟨w.heap.size, 0, none⟩ = some (.int .u64 lo) ∧ W.cell? ⟨w.heap.size, 1, none⟩ = some (.int .u64 hi) ∧ w.heap.size < W.heap.size) (by kernel_rfl) HX (fun hHeld => ?_)
  generalize (w.alloc (.cells #[.int .u64 lo, .int .u64 hi] 80 (0, 0))).drew = X at *
  refine wpAnyH_take (i := 0) (oi := _) (v := (.agg #[.int .u64 lo, .int .u64 hi])) rfl (by kernel_rfl) (by kernel_rfl) (by kernel_rfl) (fun _ _ _ h => h) (Or.inl ⟨by rfl, fun w hS => by obtain ⟨q0, q1, _⟩ := hS; go_simp⟩) (by assumption) ?_
  simp [Act.put]
  refine wpAnyH_ready (rs := [1]) (by kernel_rfl) (by simp) ?_
  refine AllReadyH.cons (o := _) rfl (fun K hK => ?_) AllReadyH.nil
  go_simp
  refine (sRight lo hi h1 h2 _).mono ?_; rintro e' W1 ⟨rfl, hgr⟩
  have S1 : W1.cell? ⟨w.heap.size, 0, none⟩ = some (.int .u64 lo) ∧ W1.cell? ⟨w.heap.size, 1, none⟩ = some (.int .u64 hi) ∧ w.heap.size < W1.heap.size := ⟨by rw [hgr.below.cell HX.2.2]; exact HX.1, by rw [hgr.below.cell HX.2.2]; exact HX.2.1, Nat.lt_of_lt_of_le HX.2.2 hgr.size⟩
  go_simp
  refine hK.out _ _ S1 (fun hHeld1 => ?_)
  clear hK K
  refine wpAnyH_take (i := 2) (oi := _) (v := (.bool false)) rfl (by kernel_rfl) (by kernel_rfl) (by kernel_rfl) (fun _ _ _ h => h) (Or.inl ⟨by rfl, fun w hS => by go_simp⟩) (by assumption) ?_
  simp [Act.put]
  refine wpAnyH_take (i := 3) (oi := _) (v := (.bool false)) rfl (by kernel_rfl) (by kernel_rfl) (by kernel_rfl) (fun _ _ _ h => h) (Or.inl ⟨by rfl, fun w hS => by go_simp⟩) (by assumption) ?_
  simp [Act.put]
  refine wpAnyH_take (i := 4) (oi := _) (v := (.int .i64 0)) rfl (by kernel_rfl) (by kernel_rfl) (by kernel_rfl) (fun _ _ _ h => h) (Or.inl ⟨by rfl, fun w hS => by go_simp⟩) (by assumption) ?_
  simp [Act.put]
  refine wpAnyH_take (i := 5) (oi := _) (v := (.bool false)) rfl (by kernel_rfl) (by kernel_rfl) (by kernel_rfl) (fun _ _ _ h => h) (Or.inl ⟨by rfl, fun w hS => by go_simp⟩) (by assumption) ?_
  simp [Act.put]
  refine wpAnyH_take (i := 6) (oi := _) (v := (.bool false)) rfl (by kernel_rfl) (by kernel_rfl) (by kernel_rfl) (fun _ _ _ h => h) (Or.inl ⟨by rfl, fun w hS => by go_simp⟩) (by assumption) ?_
  simp [Act.put]
  refine wpAnyH_take (i := 7) (oi := _) (v := undef) rfl (by kernel_rfl) (by kernel_rfl) (by kernel_rfl) (fun _ _ _ h => h) (Or.inr ⟨by rfl, rfl⟩) (by assumption) ?_
  simp [Act.put]
  refine wpAnyH_take (i := 8) (oi := _) (v := undef) rfl (by kernel_rfl) (by kernel_rfl) (by kernel_rfl) (fun _ _ _ h => h) (Or.inr ⟨by rfl, rfl⟩) (by assumption) ?_
  simp [Act.put]
  refine wpAnyH_take (i := 9) (oi := _) (v := undef) rfl (by kernel_rfl) (by kernel_rfl) (by kernel_rfl) (fun _ _ _ h => h) (Or.inr ⟨by rfl, rfl⟩) (by assumption) ?_
  simp [Act.put]
  refine wpAnyH_take (i := 10) (oi := _) (v := undef) rfl (by kernel_rfl) (by kernel_rfl) (by kernel_rfl) (fun _ _ _ h => h) (Or.inr ⟨by rfl, rfl⟩) (by assumption) ?_
  simp [Act.put]
  refine wpAnyH_take (i := 11) (oi := _) (v := undef) rfl (by kernel_rfl) (by kernel_rfl) (by kernel_rfl) (fun _ _ _ h => h) (Or.inr ⟨by rfl, rfl⟩) (by assumption) ?_
  simp [Act.put]
  refine wpAnyH_take (i := 12) (oi := _) (v := undef) rfl (by kernel_rfl) (by kernel_rfl) (by kernel_rfl) (fun _ _ _ h => h) (Or.inr ⟨by rfl, rfl⟩) (by assumption) ?_
  simp [Act.put]
  refine wpAnyH_take (i := 13) (oi := _) (v := undef) rfl (by kernel_rfl) (by kernel_rfl) (by kernel_rfl) (fun _ _ _ h => h) (Or.inr ⟨by rfl, rfl⟩) (by assumption) ?_
  simp [Act.put]
  refine wpAnyH_take (i := 14) (oi := _) (v := undef) rfl (by kernel_rfl) (by kernel_rfl) (by kernel_rfl) (fun _ _ _ h => h) (Or.inr ⟨by rfl, rfl⟩) (by assumption) ?_
  simp [Act.put]
  refine wpAnyH_take (i := 15) (oi := _) (v := undef) rfl (by kernel_rfl) (by kernel_rfl) (by kernel_rfl) (fun _ _ _ h => h) (Or.inr ⟨by rfl, rfl⟩) (by assumption) ?_
  simp [Act.put]
  refine wpAnyH_take (i := 16) (oi := _) (v := undef) rfl (by kernel_rfl) (by kernel_rfl) (by kernel_rfl) (fun _ _ _ h => h) (Or.inr ⟨by rfl, rfl⟩) (by assumption) ?_
  simp [Act.put]
  refine wpAnyH_take (i := 17) (oi := _) (v := (.bool false)) rfl (by kernel_rfl) (by kernel_rfl) (by kernel_rfl) (fun _ _ _ h => h) (Or.inl ⟨by rfl, fun w hS => by go_simp⟩) (by assumption) ?_
  simp [Act.put]
  refine wpAnyH_take (i := 18) (oi := _) (v := (.bool false)) rfl (by kernel_rfl) (by kernel_rfl) (by kernel_rfl) (fun _ _ _ h => h) (Or.inl ⟨by rfl, fun w hS => by go_simp⟩) (by assumption) ?_
  simp [Act.put]
  refine wpAnyH_done (by kernel_rfl) ?_ _
  go_wp2_with fail
  rw [rounds_succ]
  go_wp2_with fail
  go_ret
  exact ⟨rfl, g0.trans hgr⟩

theorem sWithin0 (g o c : Nat) (lo hi : Int) (h1 : lo ≤ hi) (h2 : hi ≤ 4611686018427387903) (w : World) (hS : SpanAt w g o lo hi) :
    Calls Try.prog 79 #[.slice none 0 0, .slice (some ⟨g, o, none⟩) 1 c] w fun e w' => e = .returned (.bool true) ∧ Gr w w' := by
  go_enter Try.func79, Try.ntmps79
  go_wp2_with fail
  refine (sGood0 _).mono ?_; rintro e' w1 ⟨rfl, hgr1⟩
  go_wp2_with fail
  refine (sGood1 g o c lo hi h1 h2 _ (hS.below hgr1.below)).mono ?_; rintro e' w2 ⟨rfl, hgr2⟩
  go_wp2_with fail
  refine wp_loop_rounds 1 ?_
  rw [rounds_succ]
  go_wp2_with fail
  go_ret
  exact ⟨rfl, hgr1.trans hgr2⟩

set_option maxHeartbeats 2000000 in
theorem sWithin1 (g o c : Nat) (lo hi : Int) (h1 : lo ≤ hi) (h2 : hi ≤ 4611686018427387903) (w : World) (hS : SpanAt w g o lo hi) :
    Calls Try.prog 79 #[.slice (some ⟨g, o, none⟩) 1 c, .slice (some ⟨g, o, none⟩) 1 c] w fun e w' => e = .returned (.bool true) ∧ Gr w w' := by
  go_enter Try.func79, Try.ntmps79
  go_wp2_with fail
  refine (sGood1 g o c lo hi h1 h2 _ hS).mono ?_; rintro e' w1 ⟨rfl, hgr1⟩
  go_wp2_with fail
  refine (sGood1 g o c lo hi h1 h2 _ (hS.below hgr1.below)).mono ?_; rintro e' w2 ⟨rfl, hgr2⟩
  obtain ⟨hg, c0, c1⟩ := (hS.below hgr1.below).below hgr2.below
  have hgr := hgr1.trans hgr2
  clear hgr1 hgr2 hS
  have n1 : ¬ hi < lo := by omega
  have n2 : decide (hi < lo) = false := decide_eq_false n1
  have n3 : decide (lo < lo) = false := decide_eq_false (by omega)
  have n4 : decide (hi < hi) = false := decide_eq_false (by omega)
  go_wp2_with fail
  refine wp_loop_rounds 2 ?_
  rw [rounds_succ]
  go_wp2_with fail
  obtain ⟨w3, hw3⟩ : ∃ w3, w3 = w2.alloc (.cells #[.int .u64 lo, .int .u64 hi] 80 (0, 0)) := ⟨_, rfl⟩
  have e0 : w3.cell? ⟨g, o, none⟩ = some (.int .u64 lo) := by rw [hw3]; go_simp
  have e1 : w3.cell? ⟨g, o + 1, none⟩ = some (.int .u64 hi) := by rw [hw3]; go_simp
  have e2 : w3.cell? ⟨w2.heap.size, 0, none⟩ = some (.int .u64 lo) := by rw [hw3]; go_simp
  have e3 : w3.cell? ⟨w2.heap.size, 1, none⟩ = some (.int .u64 hi) := by rw [hw3]; go_simp
  have g3 : Gr w w3 := by rw [hw3]; exact hgr.alloc _
  rw [← hw3]
  clear hw3 c0 c1
  refine wp_loop_rounds 1 ?_
  rw [rounds_succ]
  go_wp2_with fail
  refine wp_region_still_lit (by kernel_rfl) (by kernel_rfl) ?_
  repeat still_step
  refine wpStill_nil ?_
  go_wp2_with fail
  obtain ⟨w4, hw4⟩ : ∃ w4, w4 = w3.drew := ⟨_, rfl⟩
  have f0 : w4.cell? ⟨g, o, none⟩ = some (.int .u64 lo) := by rw [hw4]; exact e0
  have f1 : w4.cell? ⟨g, o + 1, none⟩ = some (.int .u64 hi) := by rw [hw4]; exact e1
  have f2 : w4.cell? ⟨w2.heap.size, 0, none⟩ = some (.int .u64 lo) := by rw [hw4]; exact e2
  have f3 : w4.cell? ⟨w2.heap.size, 1, none⟩ = some (.int .u64 hi) := by rw [hw4]; exact e3
  have g4 : Gr w w4 := by rw [hw4]; exact g3.drew
  change Code.wp _ _ _ _ (World.drew w3)
  rw [← hw4]
  clear hw4 e0 e1 e2 e3 g3
  refine wp_region_still_lit (by kernel_rfl) (by kernel_rfl) ?_
  repeat still_step
  refine wpStill_nil ?_
  go_wp2_with fail
  rw [rounds_succ]
  go_wp2_with fail
  go_ret
  exact ⟨rfl, g4.drew⟩


theorem grow_span {w4 w5 : World} {B P q0 n : Nat} {v5 : Value} {xs ys : List Int} {lo hi : Int} (hgrow : w4.grownBy w5 (some B)) (hown : w5.ownsRow B 5 1 v5 n (xs.map (.int .u8))) (hn : 0 < n) (hx : 0 < xs.length) (k0 : w4.cell? ⟨P, 0, none⟩ = some (.int .u64 lo)) (k1 : w4.cell? ⟨P, 1, none⟩ = some (.int .u64 hi)) (hP : P ≠ B) (B4 : BytesAt w4 q0 0 ys) (hq : q0 ≠ B) (hs : w4.heap.size ≤ w5.heap.size) :
    ∃ g5 c5, v5 = .slice (some ⟨g5, 0, none⟩) n c5 ∧ w5.cell? ⟨P, 1, none⟩ = some (.int .u64 hi) ∧ g5 ≠ P ∧ BytesAt w5 q0 0 ys := by
  obtain ⟨g5, c5, rfl, hg5, hc5, hm5, B5⟩ := ownBytes hown hn
  have x0 := hgrow.cell k0 (by simpa using hP)
  have x1 := hgrow.cell k1 (by simpa using hP)
  have h5 : w5.cell? ⟨g5, 0, none⟩ = some (.int .u8 (xs.getD 0 0)) := B5.2 0 hx
  refine ⟨g5, c5, rfl, x1, fun e => ?_, Nat.lt_of_lt_of_le B4.1 hs, fun j hj => hgrow.cell (B4.2 j hj) (by simpa using hq)⟩
  rw [e, x0] at h5
  simp at h5


end Go.Proofs.Ytikkmdbaekdolaa
