/- package span: Good of any row. -/
import Derived.Test.YtofggpmllfhgaaaSpanOne
import Derived.Test.YtofggpmllfhgaaaAckIs
namespace Go.Proofs.Ytofggpmllfhgaaa
open Go.RowKit Go.Lib
set_option linter.unusedVariables false
set_option maxRecDepth 100000

def rightS (s : Int × Int) : Prop := s.1 ≤ s.2 ∧ s.2 ≤ 4611686018427387903
instance (s : Int × Int) : Decidable (rightS s) := by unfold rightS; infer_instance

theorem sRightAny (lo hi : Int) (w : World) :
    Calls Try.prog 66 #[.agg #[.int .u64 lo, .int .u64 hi]] w fun e w' => e = .returned (.bool (decide (rightS (lo, hi)))) ∧ Gr w w' := by
  by_cases h1 : lo ≤ hi
  · have d1 : decide (lo ≤ hi) = true := decide_eq_true h1
    by_cases h2 : hi ≤ 4611686018427387903
    · rw [decide_eq_true (show rightS (lo, hi) from ⟨h1, h2⟩)]
      have d2 : decide (hi ≤ 4611686018427387903) = true := decide_eq_true h2
      go_enter Try.func66, Try.ntmps66
      go_wp2_with fail
      go_ret
      exact ⟨rfl, by repeat (first | exact Gr.refl _ | apply Gr.drewN | apply Gr.drew | apply Gr.gw | apply Gr.alloc)⟩
    · rw [decide_eq_false (show ¬ rightS (lo, hi) from fun h => h2 h.2)]
      have d2 : decide (hi ≤ 4611686018427387903) = false := decide_eq_false h2
      go_enter Try.func66, Try.ntmps66
      go_wp2_with fail
      go_ret
      exact ⟨rfl, by repeat (first | exact Gr.refl _ | apply Gr.drewN | apply Gr.drew | apply Gr.gw | apply Gr.alloc)⟩
  · rw [decide_eq_false (show ¬ rightS (lo, hi) from fun h => h1 h.1)]
    have d1 : decide (lo ≤ hi) = false := decide_eq_false h1
    go_enter Try.func66, Try.ntmps66
    go_wp2_with fail
    go_ret
    exact ⟨rfl, by repeat (first | exact Gr.refl _ | apply Gr.drewN | apply Gr.drew | apply Gr.gw | apply Gr.alloc)⟩

/-- a row's cells -/
def SpansAt (w : World) (g o : Nat) (l : List (Int × Int)) : Prop := g < w.heap.size ∧ ∀ i, i < l.length → w.cell? ⟨g, o + i * 2, none⟩ = some (.int .u64 (l.getD i (0, 0)).1) ∧ w.cell? ⟨g, o + i * 2 + 1, none⟩ = some (.int .u64 (l.getD i (0, 0)).2)
theorem SpansAt.below {w w' : World} {g o : Nat} {l : List (Int × Int)} (h : SpansAt w g o l) (hb : Below w.heap.size w w') : SpansAt w' g o l :=
  ⟨Nat.lt_of_lt_of_le h.1 hb.size, fun i hi => by rw [hb.cell h.1, hb.cell h.1]; exact h.2 i hi⟩

/-- each one right, and beyond the one ahead of it -/
def goodAt (l : List (Int × Int)) (i : Nat) : Prop := rightS (l.getD i (0, 0)) ∧ (0 < i → (l.getD (i - 1) (0, 0)).2 + 1 < (l.getD i (0, 0)).1)
instance (l : List (Int × Int)) (i : Nat) : Decidable (goodAt l i) := by unfold goodAt; infer_instance
def goodAll (l : List (Int × Int)) : Prop := ∀ i, i < l.length → goodAt l i

set_option maxHeartbeats 8000000 in
theorem sGoodAny (g o c : Nat) (l : List (Int × Int)) (hw : ∀ s ∈ l, W64 s.1 ∧ W64 s.2) (hl : l.length ≤ 9223372036854775807) (B : Bool) (hB : B = true ↔ goodAll l) (w : World) (hS : SpansAt w g o l) :
    Calls Try.prog 63 #[.slice (some ⟨g, o, none⟩) l.length c] w fun e w' => e = .returned (.bool B) ∧ Below w.heap.size w w' := by
  have HW := Lib.hid hw
  have HS := Lib.hid hS
  have HB := Lib.hid hB
  obtain ⟨n, hn⟩ : ∃ n, l.length = n := ⟨_, rfl⟩
  have HN := Lib.hid hn
  rw [hn] at hl ⊢
  clear hw hS hB hn
  have hnI : (n : Int) ≤ 9223372036854775807 := by omega
  go_enter Try.func63, Try.ntmps63
  go_wp2_with fail
  go_loopw [7] (fun i wr => ∃ k : Nat, i = .int .i64 (k : Int) ∧ k ≤ n ∧ (∀ j, j < k → goodAt l j) ∧ Below w.heap.size w wr) (fun i _ => (n - intOf i).toNat)
  case atStart => exact ⟨0, rfl, by omega, fun j hj => absurd hj (by omega), Below.refl _ _⟩
  case round =>
    obtain ⟨k, rfl, hk, hgood, bel⟩ := hrel
    have HG := Lib.hid hgood
    clear hgood
    have hk0 : (0 : Int) ≤ (k : Int) := by omega
    by_cases hlt : k < n
    · have hlt' : (k : Int) < (n : Int) := by omega
      have S1 := HS.out.below bel
      obtain ⟨c0, c1⟩ := S1.2 k (by rw [HN.out]; exact hlt)
      have gl := S1.1
      obtain ⟨lo, hi, hs⟩ : ∃ lo hi, l.getD k (0, 0) = (lo, hi) := ⟨_, _, rfl⟩
      rw [hs] at c0 c1
      have HSK := Lib.hid hs
      have HS1 := Lib.hid S1
      clear S1 hs
      go_wp2_with fail
      obtain ⟨w3, hw3⟩ : ∃ w3, w3 = wr.alloc (.cells #[.int .u64 lo, .int .u64 hi] 84 (0, 0)) := ⟨_, rfl⟩
      have b3 : Below wr.heap.size wr w3 := by rw [hw3]; exact (Below.refl _ _).alloc (Nat.le_refl _) _
      have e2 : w3.cell? ⟨wr.heap.size, 0, none⟩ = some (.int .u64 lo) := by rw [hw3]; go_simp
      have e3 : w3.cell? ⟨wr.heap.size, 1, none⟩ = some (.int .u64 hi) := by rw [hw3]; go_simp
      have z3 : wr.heap.size < w3.heap.size := by rw [hw3]; simp
      have S3 := HS1.out.below b3
      have b03 := bel.trans (b3.mono bel.size)
      rw [← hw3]
      clear hw3 b3 c0 c1
      have HBEL : Hid (∀ W W', (W.cell? ⟨wr.heap.size, 0, none⟩ = some (.int .u64 lo) ∧ W.cell? ⟨wr.heap.size, 1, none⟩ = some (.int .u64 hi) ∧ SpansAt W g o l ∧ wr.heap.size < W.heap.size) → Below W.heap.size W W' → (W'.cell? ⟨wr.heap.size, 0, none⟩ = some (.int .u64 lo) ∧ W'.cell? ⟨wr.heap.size, 1, none⟩ = some (.int .u64 hi) ∧ SpansAt W' g o l ∧ wr.heap.size < W'.heap.size)) :=
        Lib.hid fun W W' h hb => ⟨by rw [hb.cell h.2.2.2]; exact h.1, by rw [hb.cell h.2.2.2]; exact h.2.1, h.2.2.1.below hb, Nat.lt_of_lt_of_le h.2.2.2 hb.size⟩
      have bd : Below w3.heap.size w3 w3.drew := ⟨rfl, rfl, rfl, Nat.le_refl _, fun _ _ => rfl⟩
      have SX := HBEL.out _ _ ⟨e2, e3, S3, z3⟩ bd
      have b0X := b03.trans (bd.mono b03.size)
      clear bd e2 e3 S3 z3 b03
      refine wp_region_held_drew (S := fun W => W.cell? ⟨wr.heap.size, 0, none⟩ = some (.int .u64 lo) ∧ W.cell? ⟨wr.heap.size, 1, none⟩ = some (.int .u64 hi) ∧ SpansAt W g o l ∧ wr.heap.size < W.heap.size) (by kernel_rfl) SX (fun hHeld => ?_)
      generalize w3.drew = X at *
      by_cases hr : rightS (lo, hi)
      case neg =>
        have hBf : B = false := by
          cases B
          · rfl
          · exact absurd (by have h := (HB.out.1 rfl k (by rw [HN.out]; exact hlt)).1; rw [HSK.out] at h; exact h) hr
        subst hBf
        refine wpAnyH_take (i := 0) (oi := _) (v := (.agg #[.int .u64 lo, .int .u64 hi])) rfl (by kernel_rfl) (by kernel_rfl) (by kernel_rfl) (fun _ _ _ h => h) (Or.inl ⟨by rfl, fun w hS => by obtain ⟨q0, q1, q2, q3⟩ := hS; go_simp⟩) (by assumption) ?_
        simp [Act.put]
        refine wpAnyH_ready (rs := [1]) (by kernel_rfl) (by simp) ?_
        refine AllReadyH.cons (o := _) rfl (fun K hK => ?_) AllReadyH.nil
        go_simp
        refine (sRightAny lo hi _).mono ?_; rintro e' W1 ⟨rfl, hgr⟩
        rw [decide_eq_false hr]
        have S1 := HBEL.out _ _ SX hgr.below
        have b1 := b0X.trans (hgr.below.mono b0X.size)
        go_simp
        refine hK.out _ _ S1 (fun hHeld1 => ?_)
        clear hK K hgr
        refine wpAnyH_take (i := 2) (oi := _) (v := (.bool true)) rfl (by kernel_rfl) (by kernel_rfl) (by kernel_rfl) (fun _ _ _ h => h) (Or.inl ⟨by rfl, fun w hS => by go_simp⟩) (by assumption) ?_
        simp [Act.put]
        refine wpAnyH_take (i := 3) (oi := _) (v := (.bool true)) rfl (by kernel_rfl) (by kernel_rfl) (by kernel_rfl) (fun _ _ _ h => h) (Or.inl ⟨by rfl, fun w hS => by go_simp⟩) (by assumption) ?_
        simp [Act.put]
        refine wpAnyH_take (i := 4) (oi := _) (v := undef) rfl (by kernel_rfl) (by kernel_rfl) (by kernel_rfl) (fun _ _ _ h => h) (Or.inr ⟨by rfl, rfl⟩) (by assumption) ?_
        simp [Act.put]
        refine wpAnyH_take (i := 5) (oi := _) (v := undef) rfl (by kernel_rfl) (by kernel_rfl) (by kernel_rfl) (fun _ _ _ h => h) (Or.inr ⟨by rfl, rfl⟩) (by assumption) ?_
        simp [Act.put]
        refine wpAnyH_take (i := 6) (oi := _) (v := undef) rfl (by kernel_rfl) (by kernel_rfl) (by kernel_rfl) (fun _ _ _ h => h) (Or.inr ⟨by rfl, rfl⟩) (by assumption) ?_
        simp [Act.put]
        refine wpAnyH_take (i := 7) (oi := _) (v := undef) rfl (by kernel_rfl) (by kernel_rfl) (by kernel_rfl) (fun _ _ _ h => h) (Or.inr ⟨by rfl, rfl⟩) (by assumption) ?_
        simp [Act.put]
        refine wpAnyH_take (i := 8) (oi := _) (v := undef) rfl (by kernel_rfl) (by kernel_rfl) (by kernel_rfl) (fun _ _ _ h => h) (Or.inr ⟨by rfl, rfl⟩) (by assumption) ?_
        simp [Act.put]
        refine wpAnyH_take (i := 9) (oi := _) (v := undef) rfl (by kernel_rfl) (by kernel_rfl) (by kernel_rfl) (fun _ _ _ h => h) (Or.inr ⟨by rfl, rfl⟩) (by assumption) ?_
        simp [Act.put]
        refine wpAnyH_take (i := 10) (oi := _) (v := undef) rfl (by kernel_rfl) (by kernel_rfl) (by kernel_rfl) (fun _ _ _ h => h) (Or.inr ⟨by rfl, rfl⟩) (by assumption) ?_
        simp [Act.put]
        refine wpAnyH_take (i := 11) (oi := _) (v := undef) rfl (by kernel_rfl) (by kernel_rfl) (by kernel_rfl) (fun _ _ _ h => h) (Or.inr ⟨by rfl, rfl⟩) (by assumption) ?_
        simp [Act.put]
        refine wpAnyH_take (i := 12) (oi := _) (v := undef) rfl (by kernel_rfl) (by kernel_rfl) (by kernel_rfl) (fun _ _ _ h => h) (Or.inr ⟨by rfl, rfl⟩) (by assumption) ?_
        simp [Act.put]
        refine wpAnyH_take (i := 13) (oi := _) (v := undef) rfl (by kernel_rfl) (by kernel_rfl) (by kernel_rfl) (fun _ _ _ h => h) (Or.inr ⟨by rfl, rfl⟩) (by assumption) ?_
        simp [Act.put]
        refine wpAnyH_take (i := 14) (oi := _) (v := undef) rfl (by kernel_rfl) (by kernel_rfl) (by kernel_rfl) (fun _ _ _ h => h) (Or.inr ⟨by rfl, rfl⟩) (by assumption) ?_
        simp [Act.put]
        refine wpAnyH_take (i := 15) (oi := _) (v := undef) rfl (by kernel_rfl) (by kernel_rfl) (by kernel_rfl) (fun _ _ _ h => h) (Or.inr ⟨by rfl, rfl⟩) (by assumption) ?_
        simp [Act.put]
        refine wpAnyH_take (i := 16) (oi := _) (v := undef) rfl (by kernel_rfl) (by kernel_rfl) (by kernel_rfl) (fun _ _ _ h => h) (Or.inr ⟨by rfl, rfl⟩) (by assumption) ?_
        simp [Act.put]
        refine wpAnyH_take (i := 17) (oi := _) (v := undef) rfl (by kernel_rfl) (by kernel_rfl) (by kernel_rfl) (fun _ _ _ h => h) (Or.inr ⟨by rfl, rfl⟩) (by assumption) ?_
        simp [Act.put]
        refine wpAnyH_take (i := 18) (oi := _) (v := (.bool true)) rfl (by kernel_rfl) (by kernel_rfl) (by kernel_rfl) (fun _ _ _ h => h) (Or.inl ⟨by rfl, fun w hS => by go_simp⟩) (by assumption) ?_
        simp [Act.put]
        refine wpAnyH_done (by kernel_rfl) ?_ _
        go_wp2_with fail
        go_ret
        exact ⟨rfl, b1⟩
      rcases k with _ | j
      · have hk00 : True := trivial
        refine wpAnyH_take (i := 0) (oi := _) (v := (.agg #[.int .u64 lo, .int .u64 hi])) rfl (by kernel_rfl) (by kernel_rfl) (by kernel_rfl) (fun _ _ _ h => h) (Or.inl ⟨by rfl, fun w hS => by obtain ⟨q0, q1, q2, q3⟩ := hS; go_simp⟩) (by assumption) ?_
        simp [Act.put]
        refine wpAnyH_ready (rs := [1]) (by kernel_rfl) (by simp) ?_
        refine AllReadyH.cons (o := _) rfl (fun K hK => ?_) AllReadyH.nil
        go_simp
        refine (sRightAny lo hi _).mono ?_; rintro e' W1 ⟨rfl, hgr⟩
        rw [decide_eq_true hr]
        have S1 := HBEL.out _ _ SX hgr.below
        have b1 := b0X.trans (hgr.below.mono b0X.size)
        go_simp
        refine hK.out _ _ S1 (fun hHeld1 => ?_)
        clear hK K hgr
        refine wpAnyH_take (i := 2) (oi := _) (v := (.bool false)) rfl (by kernel_rfl) (by kernel_rfl) (by kernel_rfl) (fun _ _ _ h => h) (Or.inl ⟨by rfl, fun w hS => by go_simp⟩) (by assumption) ?_
        simp [Act.put]
        refine wpAnyH_take (i := 3) (oi := _) (v := (.bool false)) rfl (by kernel_rfl) (by kernel_rfl) (by kernel_rfl) (fun _ _ _ h => h) (Or.inl ⟨by rfl, fun w hS => by go_simp⟩) (by assumption) ?_
        simp [Act.put]
        refine wpAnyH_take (i := 4) (oi := _) (v := (.int .i64 0)) rfl (by kernel_rfl) (by kernel_rfl) (by kernel_rfl) (fun _ _ _ h => h) (Or.inl ⟨by rfl, fun w hS => by go_simp⟩) (by assumption) ?_
        simp [Act.put]
        refine wpAnyH_take (i := 5) (oi := _) (v := (.bool false)) rfl (by kernel_rfl) (by kernel_rfl) (by kernel_rfl) (fun _ _ _ h => h) (Or.inl ⟨by rfl, fun w hS => by go_simp⟩) (by assumption) ?_
        simp [Act.put]
        refine wpAnyH_take (i := 6) (oi := _) (v := (.bool false)) rfl (by kernel_rfl) (by kernel_rfl) (by kernel_rfl) (fun _ _ _ h => h) (Or.inl ⟨by rfl, fun w hS => by go_simp⟩) (by assumption) ?_
        simp [Act.put]
        refine wpAnyH_take (i := 7) (oi := _) (v := undef) rfl (by kernel_rfl) (by kernel_rfl) (by kernel_rfl) (fun _ _ _ h => h) (Or.inr ⟨by rfl, rfl⟩) (by assumption) ?_
        simp [Act.put]
        refine wpAnyH_take (i := 8) (oi := _) (v := undef) rfl (by kernel_rfl) (by kernel_rfl) (by kernel_rfl) (fun _ _ _ h => h) (Or.inr ⟨by rfl, rfl⟩) (by assumption) ?_
        simp [Act.put]
        refine wpAnyH_take (i := 9) (oi := _) (v := undef) rfl (by kernel_rfl) (by kernel_rfl) (by kernel_rfl) (fun _ _ _ h => h) (Or.inr ⟨by rfl, rfl⟩) (by assumption) ?_
        simp [Act.put]
        refine wpAnyH_take (i := 10) (oi := _) (v := undef) rfl (by kernel_rfl) (by kernel_rfl) (by kernel_rfl) (fun _ _ _ h => h) (Or.inr ⟨by rfl, rfl⟩) (by assumption) ?_
        simp [Act.put]
        refine wpAnyH_take (i := 11) (oi := _) (v := undef) rfl (by kernel_rfl) (by kernel_rfl) (by kernel_rfl) (fun _ _ _ h => h) (Or.inr ⟨by rfl, rfl⟩) (by assumption) ?_
        simp [Act.put]
        refine wpAnyH_take (i := 12) (oi := _) (v := undef) rfl (by kernel_rfl) (by kernel_rfl) (by kernel_rfl) (fun _ _ _ h => h) (Or.inr ⟨by rfl, rfl⟩) (by assumption) ?_
        simp [Act.put]
        refine wpAnyH_take (i := 13) (oi := _) (v := undef) rfl (by kernel_rfl) (by kernel_rfl) (by kernel_rfl) (fun _ _ _ h => h) (Or.inr ⟨by rfl, rfl⟩) (by assumption) ?_
        simp [Act.put]
        refine wpAnyH_take (i := 14) (oi := _) (v := undef) rfl (by kernel_rfl) (by kernel_rfl) (by kernel_rfl) (fun _ _ _ h => h) (Or.inr ⟨by rfl, rfl⟩) (by assumption) ?_
        simp [Act.put]
        refine wpAnyH_take (i := 15) (oi := _) (v := undef) rfl (by kernel_rfl) (by kernel_rfl) (by kernel_rfl) (fun _ _ _ h => h) (Or.inr ⟨by rfl, rfl⟩) (by assumption) ?_
        simp [Act.put]
        refine wpAnyH_take (i := 16) (oi := _) (v := undef) rfl (by kernel_rfl) (by kernel_rfl) (by kernel_rfl) (fun _ _ _ h => h) (Or.inr ⟨by rfl, rfl⟩) (by assumption) ?_
        simp [Act.put]
        refine wpAnyH_take (i := 17) (oi := _) (v := (.bool false)) rfl (by kernel_rfl) (by kernel_rfl) (by kernel_rfl) (fun _ _ _ h => h) (Or.inl ⟨by rfl, fun w hS => by go_simp⟩) (by assumption) ?_
        simp [Act.put]
        refine wpAnyH_take (i := 18) (oi := _) (v := (.bool false)) rfl (by kernel_rfl) (by kernel_rfl) (by kernel_rfl) (fun _ _ _ h => h) (Or.inl ⟨by rfl, fun w hS => by go_simp⟩) (by assumption) ?_
        simp [Act.put]
        refine wpAnyH_done (by kernel_rfl) ?_ _
        go_wp2_with fail
        go_roundw
        case rel => exact ⟨1, rfl, by omega, fun j hj => by
          obtain rfl : j = 0 := by omega
          exact ⟨by rw [HSK.out]; exact hr, fun h => absurd h (by omega)⟩, b1⟩
        case measure => simp only [intOf]; omega
      obtain ⟨pl, ph, hpj⟩ : ∃ a b, l.getD j (0, 0) = (a, b) := ⟨_, _, rfl⟩
      have hjr := (HG.out j (by omega)).1
      rw [hpj] at hjr
      have hjm : (pl, ph) ∈ l := by
        rw [← hpj, List.getD_eq_getElem?_getD, List.getElem?_eq_getElem (by rw [HN.out]; omega)]
        exact List.getElem_mem _
      have hpw := (HW.out _ hjm).2
      have hph : 0 ≤ ph ∧ ph ≤ 4611686018427387903 := ⟨hpw.1, hjr.2⟩
      have HPJ := Lib.hid hpj
      have hjI : (0 : Int) ≤ (j : Int) := by omega
      clear hpj hjr hjm hpw
      by_cases hc : lo ≤ ph + 1
      · have hBf : B = false := by
          cases B
          · rfl
          · exact absurd (by have h := (HB.out.1 rfl (j + 1) (by rw [HN.out]; exact hlt)).2 (by omega); rw [HSK.out, Nat.add_sub_cancel, HPJ.out] at h; exact h) (by simp only; omega)
        subst hBf
        refine wpAnyH_take (i := 0) (oi := _) (v := (.agg #[.int .u64 lo, .int .u64 hi])) rfl (by kernel_rfl) (by kernel_rfl) (by kernel_rfl) (fun _ _ _ h => h) (Or.inl ⟨by rfl, fun w hS => by obtain ⟨q0, q1, q2, q3⟩ := hS; go_simp⟩) (by assumption) ?_
        simp [Act.put]
        refine wpAnyH_ready (rs := [1]) (by kernel_rfl) (by simp) ?_
        refine AllReadyH.cons (o := _) rfl (fun K hK => ?_) AllReadyH.nil
        go_simp
        refine (sRightAny lo hi _).mono ?_; rintro e' W1 ⟨rfl, hgr⟩
        rw [decide_eq_true hr]
        have S1 := HBEL.out _ _ SX hgr.below
        have b1 := b0X.trans (hgr.below.mono b0X.size)
        go_simp
        refine hK.out _ _ S1 (fun hHeld1 => ?_)
        clear hK K hgr
        refine wpAnyH_take (i := 2) (oi := _) (v := (.bool false)) rfl (by kernel_rfl) (by kernel_rfl) (by kernel_rfl) (fun _ _ _ h => h) (Or.inl ⟨by rfl, fun w hS => by go_simp⟩) (by assumption) ?_
        simp [Act.put]
        refine wpAnyH_take (i := 3) (oi := _) (v := (.bool false)) rfl (by kernel_rfl) (by kernel_rfl) (by kernel_rfl) (fun _ _ _ h => h) (Or.inl ⟨by rfl, fun w hS => by go_simp⟩) (by assumption) ?_
        simp [Act.put]
        refine wpAnyH_take (i := 4) (oi := _) (v := (.int .i64 ((j : Int) + 1))) rfl (by kernel_rfl) (by kernel_rfl) (by kernel_rfl) (fun _ _ _ h => h) (Or.inl ⟨by rfl, fun w hS => by go_simp⟩) (by assumption) ?_
        simp [Act.put]
        refine wpAnyH_take (i := 5) (oi := _) (v := (.bool true)) rfl (by kernel_rfl) (by kernel_rfl) (by kernel_rfl) (fun _ _ _ h => h) (Or.inl ⟨by rfl, fun w hS => by go_simp⟩) (by assumption) ?_
        simp [Act.put]
        refine wpAnyH_take (i := 6) (oi := _) (v := (.bool true)) rfl (by kernel_rfl) (by kernel_rfl) (by kernel_rfl) (fun _ _ _ h => h) (Or.inl ⟨by rfl, fun w hS => by go_simp⟩) (by assumption) ?_
        simp [Act.put]
        refine wpAnyH_take (i := 7) (oi := _) (v := (.pointer (some ⟨wr.heap.size, 0, none⟩))) rfl (by kernel_rfl) (by kernel_rfl) (by kernel_rfl) (fun _ _ _ h => h) (Or.inl ⟨by rfl, fun w hS => by go_simp⟩) (by assumption) ?_
        simp [Act.put]
        refine wpAnyH_take (i := 8) (oi := _) (v := (.int .u64 lo)) rfl (by kernel_rfl) (by kernel_rfl) (by kernel_rfl) (fun _ _ _ h => h) (Or.inl ⟨by rfl, fun w hS => by obtain ⟨q0, q1, q2, q3⟩ := hS; go_simp⟩) (by assumption) ?_
        simp [Act.put]
        refine wpAnyH_take (i := 9) (oi := _) (v := (.slice (some ⟨g, o, none⟩) n c)) rfl (by kernel_rfl) (by kernel_rfl) (by kernel_rfl) (fun _ _ _ h => h) (Or.inl ⟨by rfl, fun w hS => by go_simp⟩) (by assumption) ?_
        simp [Act.put]
        refine wpAnyH_take (i := 10) (oi := _) (v := (.int .i64 ((j : Int) + 1))) rfl (by kernel_rfl) (by kernel_rfl) (by kernel_rfl) (fun _ _ _ h => h) (Or.inl ⟨by rfl, fun w hS => by go_simp⟩) (by assumption) ?_
        simp [Act.put]
        refine wpAnyH_take (i := 11) (oi := _) (v := (.int .i64 (j : Int))) rfl (by kernel_rfl) (by kernel_rfl) (by kernel_rfl) (fun _ _ _ h => h) (Or.inl ⟨by rfl, fun w hS => by go_simp; rw [IntKind.wrap_i64]; omega⟩) (by assumption) ?_
        simp [Act.put]
        refine wpAnyH_take (i := 12) (oi := _) (v := (.pointer (some ⟨g, o + j * 2, none⟩))) rfl (by kernel_rfl) (by kernel_rfl) (by kernel_rfl) (fun _ _ _ h => h) (Or.inl ⟨by rfl, fun w hS => by go_simp; intro hnj; omega⟩) (by assumption) ?_
        simp [Act.put]
        refine wpAnyH_take (i := 13) (oi := _) (v := (.pointer (some ⟨g, o + j * 2 + 1, none⟩))) rfl (by kernel_rfl) (by kernel_rfl) (by kernel_rfl) (fun _ _ _ h => h) (Or.inl ⟨by rfl, fun w hS => by go_simp⟩) (by assumption) ?_
        simp [Act.put]
        refine wpAnyH_take (i := 14) (oi := _) (v := (.int .u64 ph)) rfl (by kernel_rfl) (by kernel_rfl) (by kernel_rfl) (fun _ _ _ h => h) (Or.inl ⟨by rfl, fun w hS => by obtain ⟨q0, q1, q2, q3⟩ := hS; have q4 := (q2.2 j (by rw [HN.out]; omega)).2; rw [HPJ.out] at q4; go_simp⟩) (by assumption) ?_
        simp [Act.put]
        refine wpAnyH_take (i := 15) (oi := _) (v := (.int .u64 (ph + 1))) rfl (by kernel_rfl) (by kernel_rfl) (by kernel_rfl) (fun _ _ _ h => h) (Or.inl ⟨by rfl, fun w hS => by go_simp; rw [IntKind.wrap_u64]; omega⟩) (by assumption) ?_
        simp [Act.put]
        refine wpAnyH_take (i := 16) (oi := _) (v := (.bool true)) rfl (by kernel_rfl) (by kernel_rfl) (by kernel_rfl) (fun _ _ _ h => h) (Or.inl ⟨by rfl, fun w hS => by go_simp⟩) (by assumption) ?_
        simp [Act.put]
        refine wpAnyH_take (i := 17) (oi := _) (v := (.bool true)) rfl (by kernel_rfl) (by kernel_rfl) (by kernel_rfl) (fun _ _ _ h => h) (Or.inl ⟨by rfl, fun w hS => by go_simp⟩) (by assumption) ?_
        simp [Act.put]
        refine wpAnyH_take (i := 18) (oi := _) (v := (.bool true)) rfl (by kernel_rfl) (by kernel_rfl) (by kernel_rfl) (fun _ _ _ h => h) (Or.inl ⟨by rfl, fun w hS => by go_simp⟩) (by assumption) ?_
        simp [Act.put]
        refine wpAnyH_done (by kernel_rfl) ?_ _
        go_wp2_with fail
        go_ret
        exact ⟨rfl, b1⟩
      · have hc2 : ¬ lo ≤ ph + 1 := hc
        refine wpAnyH_take (i := 0) (oi := _) (v := (.agg #[.int .u64 lo, .int .u64 hi])) rfl (by kernel_rfl) (by kernel_rfl) (by kernel_rfl) (fun _ _ _ h => h) (Or.inl ⟨by rfl, fun w hS => by obtain ⟨q0, q1, q2, q3⟩ := hS; go_simp⟩) (by assumption) ?_
        simp [Act.put]
        refine wpAnyH_ready (rs := [1]) (by kernel_rfl) (by simp) ?_
        refine AllReadyH.cons (o := _) rfl (fun K hK => ?_) AllReadyH.nil
        go_simp
        refine (sRightAny lo hi _).mono ?_; rintro e' W1 ⟨rfl, hgr⟩
        rw [decide_eq_true hr]
        have S1 := HBEL.out _ _ SX hgr.below
        have b1 := b0X.trans (hgr.below.mono b0X.size)
        go_simp
        refine hK.out _ _ S1 (fun hHeld1 => ?_)
        clear hK K hgr
        refine wpAnyH_take (i := 2) (oi := _) (v := (.bool false)) rfl (by kernel_rfl) (by kernel_rfl) (by kernel_rfl) (fun _ _ _ h => h) (Or.inl ⟨by rfl, fun w hS => by go_simp⟩) (by assumption) ?_
        simp [Act.put]
        refine wpAnyH_take (i := 3) (oi := _) (v := (.bool false)) rfl (by kernel_rfl) (by kernel_rfl) (by kernel_rfl) (fun _ _ _ h => h) (Or.inl ⟨by rfl, fun w hS => by go_simp⟩) (by assumption) ?_
        simp [Act.put]
        refine wpAnyH_take (i := 4) (oi := _) (v := (.int .i64 ((j : Int) + 1))) rfl (by kernel_rfl) (by kernel_rfl) (by kernel_rfl) (fun _ _ _ h => h) (Or.inl ⟨by rfl, fun w hS => by go_simp⟩) (by assumption) ?_
        simp [Act.put]
        refine wpAnyH_take (i := 5) (oi := _) (v := (.bool true)) rfl (by kernel_rfl) (by kernel_rfl) (by kernel_rfl) (fun _ _ _ h => h) (Or.inl ⟨by rfl, fun w hS => by go_simp⟩) (by assumption) ?_
        simp [Act.put]
        refine wpAnyH_take (i := 6) (oi := _) (v := (.bool true)) rfl (by kernel_rfl) (by kernel_rfl) (by kernel_rfl) (fun _ _ _ h => h) (Or.inl ⟨by rfl, fun w hS => by go_simp⟩) (by assumption) ?_
        simp [Act.put]
        refine wpAnyH_take (i := 7) (oi := _) (v := (.pointer (some ⟨wr.heap.size, 0, none⟩))) rfl (by kernel_rfl) (by kernel_rfl) (by kernel_rfl) (fun _ _ _ h => h) (Or.inl ⟨by rfl, fun w hS => by go_simp⟩) (by assumption) ?_
        simp [Act.put]
        refine wpAnyH_take (i := 8) (oi := _) (v := (.int .u64 lo)) rfl (by kernel_rfl) (by kernel_rfl) (by kernel_rfl) (fun _ _ _ h => h) (Or.inl ⟨by rfl, fun w hS => by obtain ⟨q0, q1, q2, q3⟩ := hS; go_simp⟩) (by assumption) ?_
        simp [Act.put]
        refine wpAnyH_take (i := 9) (oi := _) (v := (.slice (some ⟨g, o, none⟩) n c)) rfl (by kernel_rfl) (by kernel_rfl) (by kernel_rfl) (fun _ _ _ h => h) (Or.inl ⟨by rfl, fun w hS => by go_simp⟩) (by assumption) ?_
        simp [Act.put]
        refine wpAnyH_take (i := 10) (oi := _) (v := (.int .i64 ((j : Int) + 1))) rfl (by kernel_rfl) (by kernel_rfl) (by kernel_rfl) (fun _ _ _ h => h) (Or.inl ⟨by rfl, fun w hS => by go_simp⟩) (by assumption) ?_
        simp [Act.put]
        refine wpAnyH_take (i := 11) (oi := _) (v := (.int .i64 (j : Int))) rfl (by kernel_rfl) (by kernel_rfl) (by kernel_rfl) (fun _ _ _ h => h) (Or.inl ⟨by rfl, fun w hS => by go_simp; rw [IntKind.wrap_i64]; omega⟩) (by assumption) ?_
        simp [Act.put]
        refine wpAnyH_take (i := 12) (oi := _) (v := (.pointer (some ⟨g, o + j * 2, none⟩))) rfl (by kernel_rfl) (by kernel_rfl) (by kernel_rfl) (fun _ _ _ h => h) (Or.inl ⟨by rfl, fun w hS => by go_simp; intro hnj; omega⟩) (by assumption) ?_
        simp [Act.put]
        refine wpAnyH_take (i := 13) (oi := _) (v := (.pointer (some ⟨g, o + j * 2 + 1, none⟩))) rfl (by kernel_rfl) (by kernel_rfl) (by kernel_rfl) (fun _ _ _ h => h) (Or.inl ⟨by rfl, fun w hS => by go_simp⟩) (by assumption) ?_
        simp [Act.put]
        refine wpAnyH_take (i := 14) (oi := _) (v := (.int .u64 ph)) rfl (by kernel_rfl) (by kernel_rfl) (by kernel_rfl) (fun _ _ _ h => h) (Or.inl ⟨by rfl, fun w hS => by obtain ⟨q0, q1, q2, q3⟩ := hS; have q4 := (q2.2 j (by rw [HN.out]; omega)).2; rw [HPJ.out] at q4; go_simp⟩) (by assumption) ?_
        simp [Act.put]
        refine wpAnyH_take (i := 15) (oi := _) (v := (.int .u64 (ph + 1))) rfl (by kernel_rfl) (by kernel_rfl) (by kernel_rfl) (fun _ _ _ h => h) (Or.inl ⟨by rfl, fun w hS => by go_simp; rw [IntKind.wrap_u64]; omega⟩) (by assumption) ?_
        simp [Act.put]
        refine wpAnyH_take (i := 16) (oi := _) (v := (.bool false)) rfl (by kernel_rfl) (by kernel_rfl) (by kernel_rfl) (fun _ _ _ h => h) (Or.inl ⟨by rfl, fun w hS => by go_simp⟩) (by assumption) ?_
        simp [Act.put]
        refine wpAnyH_take (i := 17) (oi := _) (v := (.bool false)) rfl (by kernel_rfl) (by kernel_rfl) (by kernel_rfl) (fun _ _ _ h => h) (Or.inl ⟨by rfl, fun w hS => by go_simp⟩) (by assumption) ?_
        simp [Act.put]
        refine wpAnyH_take (i := 18) (oi := _) (v := (.bool false)) rfl (by kernel_rfl) (by kernel_rfl) (by kernel_rfl) (fun _ _ _ h => h) (Or.inl ⟨by rfl, fun w hS => by go_simp⟩) (by assumption) ?_
        simp [Act.put]
        refine wpAnyH_done (by kernel_rfl) ?_ _
        go_wp2_with fail
        go_roundw
        case rel => exact ⟨j + 1 + 1, by congr 1, by omega, fun i hi' => by
          by_cases hij : i = j + 1
          · subst hij
            exact ⟨by rw [HSK.out]; exact hr, fun _ => by rw [HSK.out, Nat.add_sub_cancel, HPJ.out]; simp only; omega⟩
          · exact HG.out i (by omega), b1⟩
        case measure => simp only [intOf]; omega
    · have hkn : k = n := by omega
      subst hkn
      have hd : decide ((k : Int) < (k : Int)) = false := by simp
      have hBt : B = true := HB.out.2 (fun i hi => HG.out i (by rw [← HN.out]; exact hi))
      subst hBt
      go_wp2_with fail
      go_ret
      exact ⟨rfl, bel⟩

end Go.Proofs.Ytofggpmllfhgaaa
