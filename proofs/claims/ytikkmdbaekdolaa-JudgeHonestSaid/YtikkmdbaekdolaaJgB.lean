/- Several texts one behind the other: Good, Within, AckOne, Spans, AckPlain, SpanAdd, Inside. -/
import Derived.Test.YtikkmdbaekdolaaSpanOne
import Derived.Test.YtikkmdbaekdolaaAckIs
import Derived.BigQuiet
import Derived.Test.YtikkmdbaekdolaaHeadPut
/- package span: Good of any row. -/
namespace Go.Proofs.Ytikkmdbaekdolaa
open Go.RowKit Go.Lib
set_option linter.unusedVariables false
set_option maxRecDepth 100000

def rightS (s : Int × Int) : Prop := s.1 ≤ s.2 ∧ s.2 ≤ 4611686018427387903
instance (s : Int × Int) : Decidable (rightS s) := by unfold rightS; infer_instance

theorem sRightAny (lo hi : Int) (w : World) :
    Calls Try.prog 116 #[.agg #[.int .u64 lo, .int .u64 hi]] w fun e w' => e = .returned (.bool (decide (rightS (lo, hi)))) ∧ Gr w w' := by
  by_cases h1 : lo ≤ hi
  · have d1 : decide (lo ≤ hi) = true := decide_eq_true h1
    by_cases h2 : hi ≤ 4611686018427387903
    · rw [decide_eq_true (show rightS (lo, hi) from ⟨h1, h2⟩)]
      have d2 : decide (hi ≤ 4611686018427387903) = true := decide_eq_true h2
      go_enter Try.func116, Try.ntmps116
      go_wp2_with fail
      go_ret
      exact ⟨rfl, by repeat (first | exact Gr.refl _ | apply Gr.drewN | apply Gr.drew | apply Gr.gw | apply Gr.alloc)⟩
    · rw [decide_eq_false (show ¬ rightS (lo, hi) from fun h => h2 h.2)]
      have d2 : decide (hi ≤ 4611686018427387903) = false := decide_eq_false h2
      go_enter Try.func116, Try.ntmps116
      go_wp2_with fail
      go_ret
      exact ⟨rfl, by repeat (first | exact Gr.refl _ | apply Gr.drewN | apply Gr.drew | apply Gr.gw | apply Gr.alloc)⟩
  · rw [decide_eq_false (show ¬ rightS (lo, hi) from fun h => h1 h.1)]
    have d1 : decide (lo ≤ hi) = false := decide_eq_false h1
    go_enter Try.func116, Try.ntmps116
    go_wp2_with fail
    go_ret
    exact ⟨rfl, by repeat (first | exact Gr.refl _ | apply Gr.drewN | apply Gr.drew | apply Gr.gw | apply Gr.alloc)⟩

/-- a row's cells -/
def SpansAt (w : World) (g o : Nat) (l : List (Int × Int)) : Prop := g < w.heap.size ∧ ∀ i, i < l.length → w.cell? ⟨g, o + i * 2, none⟩ = some (.int .u64 (l.getD i (0, 0)).1) ∧ w.cell? ⟨g, o + i * 2 + 1, none⟩ = some (.int .u64 (l.getD i (0, 0)).2)
theorem SpansAt.below {w w' : World} {g o : Nat} {l : List (Int × Int)} (h : SpansAt w g o l) (hb : Below w.heap.size w w') : SpansAt w' g o l :=
  ⟨Nat.lt_of_lt_of_le h.1 hb.size, fun i hi => by rw [hb.cell h.1, hb.cell h.1]; exact h.2 i hi⟩

/-- each one right, and beyond the one ahead of it -/
def goodAt (l : List (Int × Int)) (i : Nat) : Prop := rightS (l.getD i (0, 0)) ∧ (0 < i → (l.getD (i - 1) (0, 0)).2 + 1 < (l.getD i (0, 0)).1)
instance (l : List (Int × Int)) (i : Nat) : Decidable (goodAt l i) := by unfold goodAt; infer_instance
def goodAll (l : List (Int × Int)) : Prop := ∀ i, i < l.length → goodAt l i

set_option maxHeartbeats 8000000 in
theorem sGoodAny (g o c : Nat) (l : List (Int × Int)) (hw : ∀ s ∈ l, W64 s.1 ∧ W64 s.2) (hl : l.length ≤ 9223372036854775807) (B : Bool) (hB : B = true ↔ goodAll l) (w : World) (hS : SpansAt w g o l) :
    Calls Try.prog 115 #[.slice (some ⟨g, o, none⟩) l.length c] w fun e w' => e = .returned (.bool B) ∧ Below w.heap.size w w' := by
  have HW := Lib.hid hw
  have HS := Lib.hid hS
  have HB := Lib.hid hB
  obtain ⟨n, hn⟩ : ∃ n, l.length = n := ⟨_, rfl⟩
  have HN := Lib.hid hn
  rw [hn] at hl ⊢
  clear hw hS hB hn
  have hnI : (n : Int) ≤ 9223372036854775807 := by omega
  go_enter Try.func115, Try.ntmps115
  go_wp2_with fail
  go_loopw [7] (fun i wr => ∃ k : Nat, i = .int .i64 (k : Int) ∧ k ≤ n ∧ (∀ j, j < k → goodAt l j) ∧ Below w.heap.size w wr) (fun i _ => (n - intOf i).toNat)
  case atStart => exact ⟨0, rfl, by omega, fun j hj => absurd hj (by omega), Below.refl _ _⟩
  case round =>
    obtain ⟨k, rfl, hk, hgood, bel⟩ := hrel
    have HG := Lib.hid hgood
    clear hgood
    have hk0 : (0 : Int) ≤ (k : Int) := by omega
    by_cases hlt : k < n
    · have hlt' : (k : Int) < (n : Int) := by omega
      have S1 := HS.out.below bel
      obtain ⟨c0, c1⟩ := S1.2 k (by rw [HN.out]; exact hlt)
      have gl := S1.1
      obtain ⟨lo, hi, hs⟩ : ∃ lo hi, l.getD k (0, 0) = (lo, hi) := ⟨_, _, rfl⟩
      rw [hs] at c0 c1
      have HSK := Lib.hid hs
      have HS1 := Lib.hid S1
      clear S1 hs
      go_wp2_with fail
      obtain ⟨w3, hw3⟩ : ∃ w3, w3 = wr.alloc (.cells #[.int .u64 lo, .int .u64 hi] 80 (0, 0)) := ⟨_, rfl⟩
      have b3 : Below wr.heap.size wr w3 := by rw [hw3]; exact (Below.refl _ _).alloc (Nat.le_refl _) _
      have e2 : w3.cell? ⟨wr.heap.size, 0, none⟩ = some (.int .u64 lo) := by rw [hw3]; go_simp
      have e3 : w3.cell? ⟨wr.heap.size, 1, none⟩ = some (.int .u64 hi) := by rw [hw3]; go_simp
      have z3 : wr.heap.size < w3.heap.size := by rw [hw3]; simp
      have S3 := HS1.out.below b3
      have b03 := bel.trans (b3.mono bel.size)
      rw [← hw3]
      clear hw3 b3 c0 c1
      have HBEL : Hid (∀ W W', (W.cell? ⟨wr.heap.size, 0, none⟩ = some (.int .u64 lo) ∧ W.cell? ⟨wr.heap.size, 1, none⟩ = some (.int .u64 hi) ∧ SpansAt W g o l ∧ wr.heap.size < W.heap.size) → Below W.heap.size W W' → (W'.cell? ⟨wr.heap.size, 0, none⟩ = some (.int .u64 lo) ∧ W'.cell? ⟨wr.heap.size, 1, none⟩ = some (.int .u64 hi) ∧ SpansAt W' g o l ∧ wr.heap.size < W'.heap.size)) :=
        Lib.hid fun W W' h hb => ⟨by rw [hb.cell h.2.2.2]; exact h.1, by rw [hb.cell h.2.2.2]; exact h.2.1, h.2.2.1.below hb, Nat.lt_of_lt_of_le h.2.2.2 hb.size⟩
      have bd : Below w3.heap.size w3 w3.drew := ⟨rfl, rfl, rfl, Nat.le_refl _, fun _ _ => rfl⟩
      have SX := HBEL.out _ _ ⟨e2, e3, S3, z3⟩ bd
      have b0X := b03.trans (bd.mono b03.size)
      clear bd e2 e3 S3 z3 b03
      refine wp_region_held_drew (S := fun W => W.cell? ⟨wr.heap.size, 0, none⟩ = some (.int .u64 lo) ∧ W.cell? ⟨wr.heap.size, 1, none⟩ = some (.int .u64 hi) ∧ SpansAt W g o l ∧ wr.heap.size < W.heap.size) (by kernel_rfl) SX (fun hHeld => ?_)
      generalize w3.drew = X at *
      by_cases hr : rightS (lo, hi)
      case neg =>
        have hBf : B = false := by
          cases B
          · rfl
          · exact absurd (by have h := (HB.out.1 rfl k (by rw [HN.out]; exact hlt)).1; rw [HSK.out] at h; exact h) hr
        subst hBf
        refine wpAnyH_take (i := 0) (oi := _) (v := (.agg #[.int .u64 lo, .int .u64 hi])) rfl (by kernel_rfl) (by kernel_rfl) (by kernel_rfl) (fun _ _ _ h => h) (Or.inl ⟨by rfl, fun w hS => by obtain ⟨q0, q1, q2, q3⟩ := hS; go_simp⟩) (by assumption) ?_
        simp [Act.put]
        refine wpAnyH_ready (rs := [1]) (by kernel_rfl) (by simp) ?_
        refine AllReadyH.cons (o := _) rfl (fun K hK => ?_) AllReadyH.nil
        go_simp
        refine (sRightAny lo hi _).mono ?_; rintro e' W1 ⟨rfl, hgr⟩
        rw [decide_eq_false hr]
        have S1 := HBEL.out _ _ SX hgr.below
        have b1 := b0X.trans (hgr.below.mono b0X.size)
        go_simp
        refine hK.out _ _ S1 (fun hHeld1 => ?_)
        clear hK K hgr
        refine wpAnyH_take (i := 2) (oi := _) (v := (.bool true)) rfl (by kernel_rfl) (by kernel_rfl) (by kernel_rfl) (fun _ _ _ h => h) (Or.inl ⟨by rfl, fun w hS => by go_simp⟩) (by assumption) ?_
        simp [Act.put]
        refine wpAnyH_take (i := 3) (oi := _) (v := (.bool true)) rfl (by kernel_rfl) (by kernel_rfl) (by kernel_rfl) (fun _ _ _ h => h) (Or.inl ⟨by rfl, fun w hS => by go_simp⟩) (by assumption) ?_
        simp [Act.put]
        refine wpAnyH_take (i := 4) (oi := _) (v := undef) rfl (by kernel_rfl) (by kernel_rfl) (by kernel_rfl) (fun _ _ _ h => h) (Or.inr ⟨by rfl, rfl⟩) (by assumption) ?_
        simp [Act.put]
        refine wpAnyH_take (i := 5) (oi := _) (v := undef) rfl (by kernel_rfl) (by kernel_rfl) (by kernel_rfl) (fun _ _ _ h => h) (Or.inr ⟨by rfl, rfl⟩) (by assumption) ?_
        simp [Act.put]
        refine wpAnyH_take (i := 6) (oi := _) (v := undef) rfl (by kernel_rfl) (by kernel_rfl) (by kernel_rfl) (fun _ _ _ h => h) (Or.inr ⟨by rfl, rfl⟩) (by assumption) ?_
        simp [Act.put]
        refine wpAnyH_take (i := 7) (oi := _) (v := undef) rfl (by kernel_rfl) (by kernel_rfl) (by kernel_rfl) (fun _ _ _ h => h) (Or.inr ⟨by rfl, rfl⟩) (by assumption) ?_
        simp [Act.put]
        refine wpAnyH_take (i := 8) (oi := _) (v := undef) rfl (by kernel_rfl) (by kernel_rfl) (by kernel_rfl) (fun _ _ _ h => h) (Or.inr ⟨by rfl, rfl⟩) (by assumption) ?_
        simp [Act.put]
        refine wpAnyH_take (i := 9) (oi := _) (v := undef) rfl (by kernel_rfl) (by kernel_rfl) (by kernel_rfl) (fun _ _ _ h => h) (Or.inr ⟨by rfl, rfl⟩) (by assumption) ?_
        simp [Act.put]
        refine wpAnyH_take (i := 10) (oi := _) (v := undef) rfl (by kernel_rfl) (by kernel_rfl) (by kernel_rfl) (fun _ _ _ h => h) (Or.inr ⟨by rfl, rfl⟩) (by assumption) ?_
        simp [Act.put]
        refine wpAnyH_take (i := 11) (oi := _) (v := undef) rfl (by kernel_rfl) (by kernel_rfl) (by kernel_rfl) (fun _ _ _ h => h) (Or.inr ⟨by rfl, rfl⟩) (by assumption) ?_
        simp [Act.put]
        refine wpAnyH_take (i := 12) (oi := _) (v := undef) rfl (by kernel_rfl) (by kernel_rfl) (by kernel_rfl) (fun _ _ _ h => h) (Or.inr ⟨by rfl, rfl⟩) (by assumption) ?_
        simp [Act.put]
        refine wpAnyH_take (i := 13) (oi := _) (v := undef) rfl (by kernel_rfl) (by kernel_rfl) (by kernel_rfl) (fun _ _ _ h => h) (Or.inr ⟨by rfl, rfl⟩) (by assumption) ?_
        simp [Act.put]
        refine wpAnyH_take (i := 14) (oi := _) (v := undef) rfl (by kernel_rfl) (by kernel_rfl) (by kernel_rfl) (fun _ _ _ h => h) (Or.inr ⟨by rfl, rfl⟩) (by assumption) ?_
        simp [Act.put]
        refine wpAnyH_take (i := 15) (oi := _) (v := undef) rfl (by kernel_rfl) (by kernel_rfl) (by kernel_rfl) (fun _ _ _ h => h) (Or.inr ⟨by rfl, rfl⟩) (by assumption) ?_
        simp [Act.put]
        refine wpAnyH_take (i := 16) (oi := _) (v := undef) rfl (by kernel_rfl) (by kernel_rfl) (by kernel_rfl) (fun _ _ _ h => h) (Or.inr ⟨by rfl, rfl⟩) (by assumption) ?_
        simp [Act.put]
        refine wpAnyH_take (i := 17) (oi := _) (v := undef) rfl (by kernel_rfl) (by kernel_rfl) (by kernel_rfl) (fun _ _ _ h => h) (Or.inr ⟨by rfl, rfl⟩) (by assumption) ?_
        simp [Act.put]
        refine wpAnyH_take (i := 18) (oi := _) (v := (.bool true)) rfl (by kernel_rfl) (by kernel_rfl) (by kernel_rfl) (fun _ _ _ h => h) (Or.inl ⟨by rfl, fun w hS => by go_simp⟩) (by assumption) ?_
        simp [Act.put]
        refine wpAnyH_done (by kernel_rfl) ?_ _
        go_wp2_with fail
        go_ret
        exact ⟨rfl, b1⟩
      rcases k with _ | j
      · have hk00 : True := trivial
        refine wpAnyH_take (i := 0) (oi := _) (v := (.agg #[.int .u64 lo, .int .u64 hi])) rfl (by kernel_rfl) (by kernel_rfl) (by kernel_rfl) (fun _ _ _ h => h) (Or.inl ⟨by rfl, fun w hS => by obtain ⟨q0, q1, q2, q3⟩ := hS; go_simp⟩) (by assumption) ?_
        simp [Act.put]
        refine wpAnyH_ready (rs := [1]) (by kernel_rfl) (by simp) ?_
        refine AllReadyH.cons (o := _) rfl (fun K hK => ?_) AllReadyH.nil
        go_simp
        refine (sRightAny lo hi _).mono ?_; rintro e' W1 ⟨rfl, hgr⟩
        rw [decide_eq_true hr]
        have S1 := HBEL.out _ _ SX hgr.below
        have b1 := b0X.trans (hgr.below.mono b0X.size)
        go_simp
        refine hK.out _ _ S1 (fun hHeld1 => ?_)
        clear hK K hgr
        refine wpAnyH_take (i := 2) (oi := _) (v := (.bool false)) rfl (by kernel_rfl) (by kernel_rfl) (by kernel_rfl) (fun _ _ _ h => h) (Or.inl ⟨by rfl, fun w hS => by go_simp⟩) (by assumption) ?_
        simp [Act.put]
        refine wpAnyH_take (i := 3) (oi := _) (v := (.bool false)) rfl (by kernel_rfl) (by kernel_rfl) (by kernel_rfl) (fun _ _ _ h => h) (Or.inl ⟨by rfl, fun w hS => by go_simp⟩) (by assumption) ?_
        simp [Act.put]
        refine wpAnyH_take (i := 4) (oi := _) (v := (.int .i64 0)) rfl (by kernel_rfl) (by kernel_rfl) (by kernel_rfl) (fun _ _ _ h => h) (Or.inl ⟨by rfl, fun w hS => by go_simp⟩) (by assumption) ?_
        simp [Act.put]
        refine wpAnyH_take (i := 5) (oi := _) (v := (.bool false)) rfl (by kernel_rfl) (by kernel_rfl) (by kernel_rfl) (fun _ _ _ h => h) (Or.inl ⟨by rfl, fun w hS => by go_simp⟩) (by assumption) ?_
        simp [Act.put]
        refine wpAnyH_take (i := 6) (oi := _) (v := (.bool false)) rfl (by kernel_rfl) (by kernel_rfl) (by kernel_rfl) (fun _ _ _ h => h) (Or.inl ⟨by rfl, fun w hS => by go_simp⟩) (by assumption) ?_
        simp [Act.put]
        refine wpAnyH_take (i := 7) (oi := _) (v := undef) rfl (by kernel_rfl) (by kernel_rfl) (by kernel_rfl) (fun _ _ _ h => h) (Or.inr ⟨by rfl, rfl⟩) (by assumption) ?_
        simp [Act.put]
        refine wpAnyH_take (i := 8) (oi := _) (v := undef) rfl (by kernel_rfl) (by kernel_rfl) (by kernel_rfl) (fun _ _ _ h => h) (Or.inr ⟨by rfl, rfl⟩) (by assumption) ?_
        simp [Act.put]
        refine wpAnyH_take (i := 9) (oi := _) (v := undef) rfl (by kernel_rfl) (by kernel_rfl) (by kernel_rfl) (fun _ _ _ h => h) (Or.inr ⟨by rfl, rfl⟩) (by assumption) ?_
        simp [Act.put]
        refine wpAnyH_take (i := 10) (oi := _) (v := undef) rfl (by kernel_rfl) (by kernel_rfl) (by kernel_rfl) (fun _ _ _ h => h) (Or.inr ⟨by rfl, rfl⟩) (by assumption) ?_
        simp [Act.put]
        refine wpAnyH_take (i := 11) (oi := _) (v := undef) rfl (by kernel_rfl) (by kernel_rfl) (by kernel_rfl) (fun _ _ _ h => h) (Or.inr ⟨by rfl, rfl⟩) (by assumption) ?_
        simp [Act.put]
        refine wpAnyH_take (i := 12) (oi := _) (v := undef) rfl (by kernel_rfl) (by kernel_rfl) (by kernel_rfl) (fun _ _ _ h => h) (Or.inr ⟨by rfl, rfl⟩) (by assumption) ?_
        simp [Act.put]
        refine wpAnyH_take (i := 13) (oi := _) (v := undef) rfl (by kernel_rfl) (by kernel_rfl) (by kernel_rfl) (fun _ _ _ h => h) (Or.inr ⟨by rfl, rfl⟩) (by assumption) ?_
        simp [Act.put]
        refine wpAnyH_take (i := 14) (oi := _) (v := undef) rfl (by kernel_rfl) (by kernel_rfl) (by kernel_rfl) (fun _ _ _ h => h) (Or.inr ⟨by rfl, rfl⟩) (by assumption) ?_
        simp [Act.put]
        refine wpAnyH_take (i := 15) (oi := _) (v := undef) rfl (by kernel_rfl) (by kernel_rfl) (by kernel_rfl) (fun _ _ _ h => h) (Or.inr ⟨by rfl, rfl⟩) (by assumption) ?_
        simp [Act.put]
        refine wpAnyH_take (i := 16) (oi := _) (v := undef) rfl (by kernel_rfl) (by kernel_rfl) (by kernel_rfl) (fun _ _ _ h => h) (Or.inr ⟨by rfl, rfl⟩) (by assumption) ?_
        simp [Act.put]
        refine wpAnyH_take (i := 17) (oi := _) (v := (.bool false)) rfl (by kernel_rfl) (by kernel_rfl) (by kernel_rfl) (fun _ _ _ h => h) (Or.inl ⟨by rfl, fun w hS => by go_simp⟩) (by assumption) ?_
        simp [Act.put]
        refine wpAnyH_take (i := 18) (oi := _) (v := (.bool false)) rfl (by kernel_rfl) (by kernel_rfl) (by kernel_rfl) (fun _ _ _ h => h) (Or.inl ⟨by rfl, fun w hS => by go_simp⟩) (by assumption) ?_
        simp [Act.put]
        refine wpAnyH_done (by kernel_rfl) ?_ _
        go_wp2_with fail
        go_roundw
        case rel => exact ⟨1, rfl, by omega, fun j hj => by
          obtain rfl : j = 0 := by omega
          exact ⟨by rw [HSK.out]; exact hr, fun h => absurd h (by omega)⟩, b1⟩
        case measure => simp only [intOf]; omega
      obtain ⟨pl, ph, hpj⟩ : ∃ a b, l.getD j (0, 0) = (a, b) := ⟨_, _, rfl⟩
      have hjr := (HG.out j (by omega)).1
      rw [hpj] at hjr
      have hjm : (pl, ph) ∈ l := by
        rw [← hpj, List.getD_eq_getElem?_getD, List.getElem?_eq_getElem (by rw [HN.out]; omega)]
        exact List.getElem_mem _
      have hpw := (HW.out _ hjm).2
      have hph : 0 ≤ ph ∧ ph ≤ 4611686018427387903 := ⟨hpw.1, hjr.2⟩
      have HPJ := Lib.hid hpj
      have hjI : (0 : Int) ≤ (j : Int) := by omega
      clear hpj hjr hjm hpw
      by_cases hc : lo ≤ ph + 1
      · have hBf : B = false := by
          cases B
          · rfl
          · exact absurd (by have h := (HB.out.1 rfl (j + 1) (by rw [HN.out]; exact hlt)).2 (by omega); rw [HSK.out, Nat.add_sub_cancel, HPJ.out] at h; exact h) (by simp only; omega)
        subst hBf
        refine wpAnyH_take (i := 0) (oi := _) (v := (.agg #[.int .u64 lo, .int .u64 hi])) rfl (by kernel_rfl) (by kernel_rfl) (by kernel_rfl) (fun _ _ _ h => h) (Or.inl ⟨by rfl, fun w hS => by obtain ⟨q0, q1, q2, q3⟩ := hS; go_simp⟩) (by assumption) ?_
        simp [Act.put]
        refine wpAnyH_ready (rs := [1]) (by kernel_rfl) (by simp) ?_
        refine AllReadyH.cons (o := _) rfl (fun K hK => ?_) AllReadyH.nil
        go_simp
        refine (sRightAny lo hi _).mono ?_; rintro e' W1 ⟨rfl, hgr⟩
        rw [decide_eq_true hr]
        have S1 := HBEL.out _ _ SX hgr.below
        have b1 := b0X.trans (hgr.below.mono b0X.size)
        go_simp
        refine hK.out _ _ S1 (fun hHeld1 => ?_)
        clear hK K hgr
        refine wpAnyH_take (i := 2) (oi := _) (v := (.bool false)) rfl (by kernel_rfl) (by kernel_rfl) (by kernel_rfl) (fun _ _ _ h => h) (Or.inl ⟨by rfl, fun w hS => by go_simp⟩) (by assumption) ?_
        simp [Act.put]
        refine wpAnyH_take (i := 3) (oi := _) (v := (.bool false)) rfl (by kernel_rfl) (by kernel_rfl) (by kernel_rfl) (fun _ _ _ h => h) (Or.inl ⟨by rfl, fun w hS => by go_simp⟩) (by assumption) ?_
        simp [Act.put]
        refine wpAnyH_take (i := 4) (oi := _) (v := (.int .i64 ((j : Int) + 1))) rfl (by kernel_rfl) (by kernel_rfl) (by kernel_rfl) (fun _ _ _ h => h) (Or.inl ⟨by rfl, fun w hS => by go_simp⟩) (by assumption) ?_
        simp [Act.put]
        refine wpAnyH_take (i := 5) (oi := _) (v := (.bool true)) rfl (by kernel_rfl) (by kernel_rfl) (by kernel_rfl) (fun _ _ _ h => h) (Or.inl ⟨by rfl, fun w hS => by go_simp⟩) (by assumption) ?_
        simp [Act.put]
        refine wpAnyH_take (i := 6) (oi := _) (v := (.bool true)) rfl (by kernel_rfl) (by kernel_rfl) (by kernel_rfl) (fun _ _ _ h => h) (Or.inl ⟨by rfl, fun w hS => by go_simp⟩) (by assumption) ?_
        simp [Act.put]
        refine wpAnyH_take (i := 7) (oi := _) (v := (.pointer (some ⟨wr.heap.size, 0, none⟩))) rfl (by kernel_rfl) (by kernel_rfl) (by kernel_rfl) (fun _ _ _ h => h) (Or.inl ⟨by rfl, fun w hS => by go_simp⟩) (by assumption) ?_
        simp [Act.put]
        refine wpAnyH_take (i := 8) (oi := _) (v := (.int .u64 lo)) rfl (by kernel_rfl) (by kernel_rfl) (by kernel_rfl) (fun _ _ _ h => h) (Or.inl ⟨by rfl, fun w hS => by obtain ⟨q0, q1, q2, q3⟩ := hS; go_simp⟩) (by assumption) ?_
        simp [Act.put]
        refine wpAnyH_take (i := 9) (oi := _) (v := (.slice (some ⟨g, o, none⟩) n c)) rfl (by kernel_rfl) (by kernel_rfl) (by kernel_rfl) (fun _ _ _ h => h) (Or.inl ⟨by rfl, fun w hS => by go_simp⟩) (by assumption) ?_
        simp [Act.put]
        refine wpAnyH_take (i := 10) (oi := _) (v := (.int .i64 ((j : Int) + 1))) rfl (by kernel_rfl) (by kernel_rfl) (by kernel_rfl) (fun _ _ _ h => h) (Or.inl ⟨by rfl, fun w hS => by go_simp⟩) (by assumption) ?_
        simp [Act.put]
        refine wpAnyH_take (i := 11) (oi := _) (v := (.int .i64 (j : Int))) rfl (by kernel_rfl) (by kernel_rfl) (by kernel_rfl) (fun _ _ _ h => h) (Or.inl ⟨by rfl, fun w hS => by go_simp; rw [IntKind.wrap_i64]; omega⟩) (by assumption) ?_
        simp [Act.put]
        refine wpAnyH_take (i := 12) (oi := _) (v := (.pointer (some ⟨g, o + j * 2, none⟩))) rfl (by kernel_rfl) (by kernel_rfl) (by kernel_rfl) (fun _ _ _ h => h) (Or.inl ⟨by rfl, fun w hS => by go_simp; intro hnj; omega⟩) (by assumption) ?_
        simp [Act.put]
        refine wpAnyH_take (i := 13) (oi := _) (v := (.pointer (some ⟨g, o + j * 2 + 1, none⟩))) rfl (by kernel_rfl) (by kernel_rfl) (by kernel_rfl) (fun _ _ _ h => h) (Or.inl ⟨by rfl, fun w hS => by go_simp⟩) (by assumption) ?_
        simp [Act.put]
        refine wpAnyH_take (i := 14) (oi := _) (v := (.int .u64 ph)) rfl (by kernel_rfl) (by kernel_rfl) (by kernel_rfl) (fun _ _ _ h => h) (Or.inl ⟨by rfl, fun w hS => by obtain ⟨q0, q1, q2, q3⟩ := hS; have q4 := (q2.2 j (by rw [HN.out]; omega)).2; rw [HPJ.out] at q4; go_simp⟩) (by assumption) ?_
        simp [Act.put]
        refine wpAnyH_take (i := 15) (oi := _) (v := (.int .u64 (ph + 1))) rfl (by kernel_rfl) (by kernel_rfl) (by kernel_rfl) (fun _ _ _ h => h) (Or.inl ⟨by rfl, fun w hS => by go_simp; rw [IntKind.wrap_u64]; omega⟩) (by assumption) ?_
        simp [Act.put]
        refine wpAnyH_take (i := 16) (oi := _) (v := (.bool true)) rfl (by kernel_rfl) (by kernel_rfl) (by kernel_rfl) (fun _ _ _ h => h) (Or.inl ⟨by rfl, fun w hS => by go_simp⟩) (by assumption) ?_
        simp [Act.put]
        refine wpAnyH_take (i := 17) (oi := _) (v := (.bool true)) rfl (by kernel_rfl) (by kernel_rfl) (by kernel_rfl) (fun _ _ _ h => h) (Or.inl ⟨by rfl, fun w hS => by go_simp⟩) (by assumption) ?_
        simp [Act.put]
        refine wpAnyH_take (i := 18) (oi := _) (v := (.bool true)) rfl (by kernel_rfl) (by kernel_rfl) (by kernel_rfl) (fun _ _ _ h => h) (Or.inl ⟨by rfl, fun w hS => by go_simp⟩) (by assumption) ?_
        simp [Act.put]
        refine wpAnyH_done (by kernel_rfl) ?_ _
        go_wp2_with fail
        go_ret
        exact ⟨rfl, b1⟩
      · have hc2 : ¬ lo ≤ ph + 1 := hc
        refine wpAnyH_take (i := 0) (oi := _) (v := (.agg #[.int .u64 lo, .int .u64 hi])) rfl (by kernel_rfl) (by kernel_rfl) (by kernel_rfl) (fun _ _ _ h => h) (Or.inl ⟨by rfl, fun w hS => by obtain ⟨q0, q1, q2, q3⟩ := hS; go_simp⟩) (by assumption) ?_
        simp [Act.put]
        refine wpAnyH_ready (rs := [1]) (by kernel_rfl) (by simp) ?_
        refine AllReadyH.cons (o := _) rfl (fun K hK => ?_) AllReadyH.nil
        go_simp
        refine (sRightAny lo hi _).mono ?_; rintro e' W1 ⟨rfl, hgr⟩
        rw [decide_eq_true hr]
        have S1 := HBEL.out _ _ SX hgr.below
        have b1 := b0X.trans (hgr.below.mono b0X.size)
        go_simp
        refine hK.out _ _ S1 (fun hHeld1 => ?_)
        clear hK K hgr
        refine wpAnyH_take (i := 2) (oi := _) (v := (.bool false)) rfl (by kernel_rfl) (by kernel_rfl) (by kernel_rfl) (fun _ _ _ h => h) (Or.inl ⟨by rfl, fun w hS => by go_simp⟩) (by assumption) ?_
        simp [Act.put]
        refine wpAnyH_take (i := 3) (oi := _) (v := (.bool false)) rfl (by kernel_rfl) (by kernel_rfl) (by kernel_rfl) (fun _ _ _ h => h) (Or.inl ⟨by rfl, fun w hS => by go_simp⟩) (by assumption) ?_
        simp [Act.put]
        refine wpAnyH_take (i := 4) (oi := _) (v := (.int .i64 ((j : Int) + 1))) rfl (by kernel_rfl) (by kernel_rfl) (by kernel_rfl) (fun _ _ _ h => h) (Or.inl ⟨by rfl, fun w hS => by go_simp⟩) (by assumption) ?_
        simp [Act.put]
        refine wpAnyH_take (i := 5) (oi := _) (v := (.bool true)) rfl (by kernel_rfl) (by kernel_rfl) (by kernel_rfl) (fun _ _ _ h => h) (Or.inl ⟨by rfl, fun w hS => by go_simp⟩) (by assumption) ?_
        simp [Act.put]
        refine wpAnyH_take (i := 6) (oi := _) (v := (.bool true)) rfl (by kernel_rfl) (by kernel_rfl) (by kernel_rfl) (fun _ _ _ h => h) (Or.inl ⟨by rfl, fun w hS => by go_simp⟩) (by assumption) ?_
        simp [Act.put]
        refine wpAnyH_take (i := 7) (oi := _) (v := (.pointer (some ⟨wr.heap.size, 0, none⟩))) rfl (by kernel_rfl) (by kernel_rfl) (by kernel_rfl) (fun _ _ _ h => h) (Or.inl ⟨by rfl, fun w hS => by go_simp⟩) (by assumption) ?_
        simp [Act.put]
        refine wpAnyH_take (i := 8) (oi := _) (v := (.int .u64 lo)) rfl (by kernel_rfl) (by kernel_rfl) (by kernel_rfl) (fun _ _ _ h => h) (Or.inl ⟨by rfl, fun w hS => by obtain ⟨q0, q1, q2, q3⟩ := hS; go_simp⟩) (by assumption) ?_
        simp [Act.put]
        refine wpAnyH_take (i := 9) (oi := _) (v := (.slice (some ⟨g, o, none⟩) n c)) rfl (by kernel_rfl) (by kernel_rfl) (by kernel_rfl) (fun _ _ _ h => h) (Or.inl ⟨by rfl, fun w hS => by go_simp⟩) (by assumption) ?_
        simp [Act.put]
        refine wpAnyH_take (i := 10) (oi := _) (v := (.int .i64 ((j : Int) + 1))) rfl (by kernel_rfl) (by kernel_rfl) (by kernel_rfl) (fun _ _ _ h => h) (Or.inl ⟨by rfl, fun w hS => by go_simp⟩) (by assumption) ?_
        simp [Act.put]
        refine wpAnyH_take (i := 11) (oi := _) (v := (.int .i64 (j : Int))) rfl (by kernel_rfl) (by kernel_rfl) (by kernel_rfl) (fun _ _ _ h => h) (Or.inl ⟨by rfl, fun w hS => by go_simp; rw [IntKind.wrap_i64]; omega⟩) (by assumption) ?_
        simp [Act.put]
        refine wpAnyH_take (i := 12) (oi := _) (v := (.pointer (some ⟨g, o + j * 2, none⟩))) rfl (by kernel_rfl) (by kernel_rfl) (by kernel_rfl) (fun _ _ _ h => h) (Or.inl ⟨by rfl, fun w hS => by go_simp; intro hnj; omega⟩) (by assumption) ?_
        simp [Act.put]
        refine wpAnyH_take (i := 13) (oi := _) (v := (.pointer (some ⟨g, o + j * 2 + 1, none⟩))) rfl (by kernel_rfl) (by kernel_rfl) (by kernel_rfl) (fun _ _ _ h => h) (Or.inl ⟨by rfl, fun w hS => by go_simp⟩) (by assumption) ?_
        simp [Act.put]
        refine wpAnyH_take (i := 14) (oi := _) (v := (.int .u64 ph)) rfl (by kernel_rfl) (by kernel_rfl) (by kernel_rfl) (fun _ _ _ h => h) (Or.inl ⟨by rfl, fun w hS => by obtain ⟨q0, q1, q2, q3⟩ := hS; have q4 := (q2.2 j (by rw [HN.out]; omega)).2; rw [HPJ.out] at q4; go_simp⟩) (by assumption) ?_
        simp [Act.put]
        refine wpAnyH_take (i := 15) (oi := _) (v := (.int .u64 (ph + 1))) rfl (by kernel_rfl) (by kernel_rfl) (by kernel_rfl) (fun _ _ _ h => h) (Or.inl ⟨by rfl, fun w hS => by go_simp; rw [IntKind.wrap_u64]; omega⟩) (by assumption) ?_
        simp [Act.put]
        refine wpAnyH_take (i := 16) (oi := _) (v := (.bool false)) rfl (by kernel_rfl) (by kernel_rfl) (by kernel_rfl) (fun _ _ _ h => h) (Or.inl ⟨by rfl, fun w hS => by go_simp⟩) (by assumption) ?_
        simp [Act.put]
        refine wpAnyH_take (i := 17) (oi := _) (v := (.bool false)) rfl (by kernel_rfl) (by kernel_rfl) (by kernel_rfl) (fun _ _ _ h => h) (Or.inl ⟨by rfl, fun w hS => by go_simp⟩) (by assumption) ?_
        simp [Act.put]
        refine wpAnyH_take (i := 18) (oi := _) (v := (.bool false)) rfl (by kernel_rfl) (by kernel_rfl) (by kernel_rfl) (fun _ _ _ h => h) (Or.inl ⟨by rfl, fun w hS => by go_simp⟩) (by assumption) ?_
        simp [Act.put]
        refine wpAnyH_done (by kernel_rfl) ?_ _
        go_wp2_with fail
        go_roundw
        case rel => exact ⟨j + 1 + 1, by congr 1, by omega, fun i hi' => by
          by_cases hij : i = j + 1
          · subst hij
            exact ⟨by rw [HSK.out]; exact hr, fun _ => by rw [HSK.out, Nat.add_sub_cancel, HPJ.out]; simp only; omega⟩
          · exact HG.out i (by omega), b1⟩
        case measure => simp only [intOf]; omega
    · have hkn : k = n := by omega
      subst hkn
      have hd : decide ((k : Int) < (k : Int)) = false := by simp
      have hBt : B = true := HB.out.2 (fun i hi => HG.out i (by rw [← HN.out]; exact hi))
      subst hBt
      go_wp2_with fail
      go_ret
      exact ⟨rfl, bel⟩

end Go.Proofs.Ytikkmdbaekdolaa

/- package span: Within of any two rows. -/
namespace Go.Proofs.Ytikkmdbaekdolaa
open Go.RowKit Go.Lib
set_option linter.unusedVariables false
set_option maxRecDepth 100000

theorem belDrew (w : World) : Below w.heap.size w w.drew := ⟨rfl, rfl, rfl, Nat.le_refl _, fun _ _ => rfl⟩
theorem belDrewN (w : World) (n : Nat) : Below w.heap.size w (w.drewN n) := Gr.below (Gr.drewN (Gr.refl w) n)

/-- a row, or none -/
def SRow (w : World) (x : Option Addr) (l : List (Int × Int)) : Prop := l = [] ∨ ∃ g o, x = some ⟨g, o, none⟩ ∧ SpansAt w g o l
theorem SRow.below {w w' : World} {x : Option Addr} {l : List (Int × Int)} (h : SRow w x l) (hb : Below w.heap.size w w') : SRow w' x l := by
  rcases h with h | ⟨g, o, h1, h2⟩
  · exact .inl h
  · exact .inr ⟨g, o, h1, h2.below hb⟩
theorem SRow.at {w : World} {x : Option Addr} {l : List (Int × Int)} (h : SRow w x l) (k : Nat) (hk : k < l.length) : ∃ g o, x = some ⟨g, o, none⟩ ∧ g < w.heap.size ∧ w.cell? ⟨g, o + k * 2, none⟩ = some (.int .u64 (l.getD k (0, 0)).1) ∧ w.cell? ⟨g, o + k * 2 + 1, none⟩ = some (.int .u64 (l.getD k (0, 0)).2) := by
  rcases h with rfl | ⟨g, o, h1, h2⟩
  · simp at hk
  · exact ⟨g, o, h1, h2.1, h2.2 k hk⟩

def insideAt (l : List (Int × Int)) (s : Int × Int) : Prop := ∃ m, m < l.length ∧ (l.getD m (0, 0)).1 ≤ s.1 ∧ s.2 ≤ (l.getD m (0, 0)).2
def insideAll (a l : List (Int × Int)) : Prop := ∀ i, i < a.length → insideAt l (a.getD i (0, 0))
def withinAll (a l : List (Int × Int)) : Prop := goodAll a ∧ goodAll l ∧ insideAll a l

theorem goodAll_lt {l : List (Int × Int)} (h : goodAll l) (m : Nat) : ∀ j, m < j → j < l.length → (l.getD m (0, 0)).2 + 1 < (l.getD j (0, 0)).1
  | 0, h1, _ => absurd h1 (by omega)
  | j + 1, h1, h2 => by
    have a := (h (j + 1) h2).2 (by omega)
    rw [Nat.add_sub_cancel] at a
    by_cases e : m = j
    · rw [e]; exact a
    · have b := goodAll_lt h m j (by omega) (by omega)
      have c := (h j (by omega)).1.1
      omega

theorem not_inside {l : List (Int × Int)} (h : goodAll l) (m : Nat) {lo hi : Int} (hs : lo ≤ hi) (hm : ∀ j, j < m → (l.getD j (0, 0)).2 < lo) (h2 : m < l.length → lo < (l.getD m (0, 0)).1 ∨ lo ≤ (l.getD m (0, 0)).2 ∧ (l.getD m (0, 0)).2 < hi) : ¬ insideAt l (lo, hi) := by
  rintro ⟨j, hj, h3, h4⟩
  simp only at h3 h4
  rcases Nat.lt_trichotomy j m with e | e | e
  · have := hm j e
    omega
  · subst e
    have := h2 hj
    omega
  · have a := h2 (by omega)
    have b := goodAll_lt h m j e hj
    have c := (h m (by omega)).1.1
    omega

theorem sGoodRow (x : Option Addr) (c : Nat) (l : List (Int × Int)) (hw : ∀ s ∈ l, W64 s.1 ∧ W64 s.2) (hl : l.length ≤ 9223372036854775807) (B : Bool) (hB : B = true ↔ goodAll l) (w : World) (hS : SRow w x l) :
    Calls Try.prog 115 #[.slice x l.length c] w fun e w' => e = .returned (.bool B) ∧ Below w.heap.size w w' := by
  rcases hS with rfl | ⟨g, o, rfl, hS⟩
  · have hBt : B = true := hB.2 (fun i hi => absurd hi (by simp))
    subst hBt
    clear hB hw hl
    go_enter Try.func115, Try.ntmps115
    go_wp2_with fail
    refine wp_loop_rounds 1 ?_
    rw [rounds_succ]
    go_wp2_with fail
    go_ret
    exact ⟨rfl, Below.refl _ _⟩
  · exact sGoodAny g o c l hw hl B hB w hS

set_option maxHeartbeats 8000000 in
theorem sWithin (xa xb : Option Addr) (ca cb : Nat) (la lb : List (Int × Int)) (hwa : ∀ s ∈ la, W64 s.1 ∧ W64 s.2) (hwb : ∀ s ∈ lb, W64 s.1 ∧ W64 s.2) (hla : la.length ≤ 9223372036854775807) (hlb : lb.length ≤ 9223372036854775807) (B : Bool) (hB : B = true ↔ withinAll la lb) (w : World) (hSa : SRow w xa la) (hSb : SRow w xb lb) :
    Calls Try.prog 79 #[.slice xa la.length ca, .slice xb lb.length cb] w fun e w' => e = .returned (.bool B) ∧ Below w.heap.size w w' := by
  have HWA := Lib.hid hwa
  have HWB := Lib.hid hwb
  have HB := Lib.hid hB
  clear hwa hwb hB
  go_enter Try.func79, Try.ntmps79
  go_wp2_with fail
  by_cases ga : goodAll la
  case neg =>
    have hBf : B = false := by
      cases B
      · rfl
      · exact absurd (HB.out.1 rfl).1 ga
    subst hBf
    refine (sGoodRow xa ca la HWA.out hla false ⟨fun h => by simp at h, fun h => absurd h ga⟩ _ hSa).mono ?_; rintro e' w1 ⟨rfl, b1⟩
    go_wp2_with fail
    go_ret
    exact ⟨rfl, b1⟩
  refine (sGoodRow xa ca la HWA.out hla true ⟨fun _ => ga, fun _ => rfl⟩ _ hSa).mono ?_; rintro e' w1 ⟨rfl, b1⟩
  go_wp2_with fail
  by_cases gb : goodAll lb
  case neg =>
    have hBf : B = false := by
      cases B
      · rfl
      · exact absurd (HB.out.1 rfl).2.1 gb
    subst hBf
    refine (sGoodRow xb cb lb HWB.out hlb false ⟨fun h => by simp at h, fun h => absurd h gb⟩ _ (hSb.below b1)).mono ?_; rintro e' w2 ⟨rfl, b2⟩
    go_wp2_with fail
    go_ret
    exact ⟨rfl, b1.trans (b2.mono b1.size)⟩
  refine (sGoodRow xb cb lb HWB.out hlb true ⟨fun _ => gb, fun _ => rfl⟩ _ (hSb.below b1)).mono ?_; rintro e' w2 ⟨rfl, b2⟩
  have b02 := b1.trans (b2.mono b1.size)
  have HSA0 := Lib.hid (hSa.below b02)
  have HSB0 := Lib.hid (hSb.below b02)
  have GA := Lib.hid ga
  have GB := Lib.hid gb
  obtain ⟨na, hna⟩ : ∃ n, la.length = n := ⟨_, rfl⟩
  obtain ⟨nb, hnb⟩ : ∃ n, lb.length = n := ⟨_, rfl⟩
  have HNA := Lib.hid hna
  have HNB := Lib.hid hnb
  rw [hna] at hla ⊢
  rw [hnb] at hlb ⊢
  clear hSa hSb ga gb b1 b2 hna hnb
  have hnaI : (na : Int) ≤ 9223372036854775807 := by omega
  have hnbI : (nb : Int) ≤ 9223372036854775807 := by omega
  go_wp2_with fail
  go_loopw [5, 18] (fun kv iv wr => ∃ (k m : Nat), iv = .int .i64 (k : Int) ∧ kv = .int .i64 (m : Int) ∧ k ≤ na ∧ m ≤ nb ∧ (∀ j, j < k → insideAt lb (la.getD j (0, 0))) ∧ (∀ j, j < m → k < na → (lb.getD j (0, 0)).2 < (la.getD k (0, 0)).1) ∧ Below w2.heap.size w2 wr) (fun _ iv _ => (na - intOf iv).toNat)
  case atStart => exact ⟨0, 0, rfl, rfl, by omega, by omega, fun j hj => absurd hj (by omega), fun j hj => absurd hj (by omega), Below.refl _ _⟩
  case round =>
    obtain ⟨k, m0, rfl, rfl, hk, hm0, hin, hbeh, bel⟩ := hrel
    have HIN := Lib.hid hin
    have HBEH := Lib.hid hbeh
    have hk0 : (0 : Int) ≤ (k : Int) := by omega
    clear hin hbeh
    by_cases hlt : k < na
    · have hlt' : (k : Int) < (na : Int) := by omega
      obtain ⟨ga, oa, rfl, hga, c0, c1⟩ := (HSA0.out.below bel).at k (by rw [HNA.out]; exact hlt)
      have HSB1 := Lib.hid (HSB0.out.below bel)
      have hgk := GA.out k (by rw [HNA.out]; exact hlt)
      obtain ⟨lo, hi, hs⟩ : ∃ lo hi, la.getD k (0, 0) = (lo, hi) := ⟨_, _, rfl⟩
      rw [hs] at c0 c1
      have hlh : lo ≤ hi ∧ hi ≤ 4611686018427387903 := by have h := hgk.1; rw [hs] at h; exact h
      have HSA := Lib.hid hs
      clear hs hgk
      go_wp2_with fail
      obtain ⟨w3, hw3⟩ : ∃ w3, w3 = wr.alloc (.cells #[.int .u64 lo, .int .u64 hi] 80 (0, 0)) := ⟨_, rfl⟩
      have b3 : Below wr.heap.size wr w3 := by rw [hw3]; exact (Below.refl _ _).alloc (Nat.le_refl _) _
      have e0 : w3.cell? ⟨wr.heap.size, 0, none⟩ = some (.int .u64 lo) := by rw [hw3]; go_simp
      have e1 : w3.cell? ⟨wr.heap.size, 1, none⟩ = some (.int .u64 hi) := by rw [hw3]; go_simp
      have z3 : wr.heap.size < w3.heap.size := by rw [hw3]; simp
      have HSB3 := Lib.hid (HSB1.out.below b3)
      have bel3 := bel.trans (b3.mono bel.size)
      rw [← hw3]
      obtain ⟨P, hP⟩ : ∃ P, P = wr.heap.size := ⟨_, rfl⟩
      rw [← hP] at e0 e1 z3 ⊢
      clear hw3 b3 c0 c1 HSB1 bel hP
      go_loopw [5] (fun kv wi => ∃ m : Nat, kv = .int .i64 (m : Int) ∧ m ≤ nb ∧ (∀ j, j < m → (lb.getD j (0, 0)).2 < lo) ∧ Below w3.heap.size w3 wi) (fun kv _ => (nb - intOf kv).toNat)
      case atStart => exact ⟨m0, rfl, hm0, fun j hj => by have h := HBEH.out j hj hlt; rw [HSA.out] at h; exact h, Below.refl _ _⟩
      case round =>
        obtain ⟨m, rfl, hm, hall, Bwi⟩ := hrel
        have HALL := Lib.hid hall
        have hm00 : (0 : Int) ≤ (m : Int) := by omega
        clear hall
        have f0 : wr.cell? ⟨P, 0, none⟩ = some (.int .u64 lo) := by rw [Bwi.cell z3]; exact e0
        have f1 : wr.cell? ⟨P, 1, none⟩ = some (.int .u64 hi) := by rw [Bwi.cell z3]; exact e1
        by_cases hmn : m < nb
        · have hmn' : (m : Int) < (nb : Int) := by omega
          have hne : ((m : Int) == (nb : Int)) = false := by simp; omega
          obtain ⟨gb, ob, hxb, hgb, d0, d1⟩ := (HSB3.out.below Bwi).at m (by rw [HNB.out]; exact hmn)
          rw [hxb]
          obtain ⟨blo, bhi, hs⟩ : ∃ lo hi, lb.getD m (0, 0) = (lo, hi) := ⟨_, _, rfl⟩
          rw [hs] at d0 d1
          have HSB := Lib.hid hs
          clear hs
          have HXB := Lib.hid hxb
          clear hxb
          by_cases hc : bhi < lo
          · have hd : decide (bhi < lo) = true := decide_eq_true hc
            go_wp2_with fail
            go_quiet (fail)
            go_wp2_with fail
            go_roundw
            case rel => exact ⟨m + 1, by congr 1, by omega, fun j hj => by
              by_cases e : j = m
              · subst e; rw [HSB.out]; exact hc
              · exact HALL.out j (by omega), Bwi.trans ((belDrewN wr _).mono Bwi.size)⟩
            case measure => simp only [intOf]; omega
          · have hd : decide (bhi < lo) = false := decide_eq_false hc
            go_wp2_with fail
            go_quiet (fail)
            go_wp2_with fail
            obtain ⟨w4, hw4⟩ : ∃ w4, w4 = wr.drewN nq := ⟨_, rfl⟩
            have q0 : w4.cell? ⟨P, 0, none⟩ = some (.int .u64 lo) := by rw [hw4]; exact f0
            have q1 : w4.cell? ⟨P, 1, none⟩ = some (.int .u64 hi) := by rw [hw4]; exact f1
            have r0 : w4.cell? ⟨gb, ob + m * 2, none⟩ = some (.int .u64 blo) := by rw [hw4]; exact d0
            have r1 : w4.cell? ⟨gb, ob + m * 2 + 1, none⟩ = some (.int .u64 bhi) := by rw [hw4]; exact d1
            have b4 : Below w3.heap.size w3 w4 := by rw [hw4]; exact Bwi.trans ((belDrewN wr _).mono Bwi.size)
            have bW : Below w2.heap.size w2 w4 := bel3.trans (b4.mono bel3.size)
            rw [← hw4]
            clear hw4 f0 f1 d0 d1 Bwi hd b4
            have bF : ∀ n, Below w.heap.size w (w4.drewN n) := fun n => b02.trans ((bW.trans ((belDrewN w4 n).mono bW.size)).mono b02.size)
            by_cases hc1 : lo < blo
            · have hd1 : decide (lo < blo) = true := decide_eq_true hc1
              have hBf : B = false := by
                cases B
                · rfl
                · exact absurd ((HB.out.1 rfl).2.2 k (by rw [HNA.out]; exact hlt)) (by rw [HSA.out]; exact not_inside GB.out m hlh.1 HALL.out (fun _ => by rw [HSB.out]; exact .inl hc1))
              subst hBf
              go_quiet (fail)
              go_wp2_with fail
              go_ret
              exact ⟨rfl, bF _⟩
            have hd1 : decide (lo < blo) = false := decide_eq_false hc1
            by_cases hc2 : bhi < hi
            · have hd2 : decide (bhi < hi) = true := decide_eq_true hc2
              have hBf : B = false := by
                cases B
                · rfl
                · exact absurd ((HB.out.1 rfl).2.2 k (by rw [HNA.out]; exact hlt)) (by rw [HSA.out]; exact not_inside GB.out m hlh.1 HALL.out (fun _ => by rw [HSB.out]; exact .inr ⟨by simp only; omega, hc2⟩))
              subst hBf
              go_quiet (fail)
              go_wp2_with fail
              go_ret
              exact ⟨rfl, bF _⟩
            have hd2 : decide (bhi < hi) = false := decide_eq_false hc2
            go_quiet (fail)
            go_wp2_with fail
            rw [← HXB.out]
            go_roundw
            case rel =>
              have r1 : ∀ j, j < k + 1 → insideAt lb (la.getD j (0, 0)) := fun j hj => by
                by_cases e : j = k
                · subst e; rw [HSA.out]; exact ⟨m, by rw [HNB.out]; exact hmn, by rw [HSB.out]; simp only; omega, by rw [HSB.out]; simp only; omega⟩
                · exact HIN.out j (by omega)
              have r2 : ∀ j, j < m → k + 1 < na → (lb.getD j (0, 0)).2 < (la.getD (k + 1) (0, 0)).1 := fun j hj hk1 => by
                have a := HALL.out j hj
                have b := goodAll_lt GA.out k (k + 1) (by omega) (by rw [HNA.out]; exact hk1)
                rw [HSA.out] at b
                simp only at b
                omega
              refine ⟨u4, .int .i64 (m : Int), _, .int .i64 ((k : Int) + 1), ⟨k + 1, by congr 1, m, rfl, by omega, hm, ?_, ?_, bW.trans ((belDrewN w4 _).mono bW.size)⟩, rfl, rfl, rfl, rfl, rfl, rfl⟩
              · simpa using r1
              · simpa using r2
            case measure => simp only [intOf]; omega
        · have hme : m = nb := by omega
          subst hme
          have hd : decide ((m : Int) < (m : Int)) = false := by simp
          go_wp2_with fail
          go_quiet (fail)
          go_wp2_with fail
          obtain ⟨w4, hw4⟩ : ∃ w4, w4 = wr.drewN nq := ⟨_, rfl⟩
          have b4 : Below w3.heap.size w3 w4 := by rw [hw4]; exact Bwi.trans ((belDrewN wr _).mono Bwi.size)
          have bW : Below w2.heap.size w2 w4 := bel3.trans (b4.mono bel3.size)
          rw [← hw4]
          clear hw4 f0 f1 Bwi b4
          have bF : ∀ n, Below w.heap.size w (w4.drewN n) := fun n => b02.trans ((bW.trans ((belDrewN w4 n).mono bW.size)).mono b02.size)
          have hBf : B = false := by
            cases B
            · rfl
            · exact absurd ((HB.out.1 rfl).2.2 k (by rw [HNA.out]; exact hlt)) (by rw [HSA.out]; exact not_inside GB.out m hlh.1 HALL.out (fun h => absurd h (by rw [HNB.out]; omega)))
          subst hBf
          go_quiet (fail)
          go_wp2_with fail
          go_ret
          exact ⟨rfl, bF _⟩
    · have hkn : k = na := by omega
      subst hkn
      have hd : decide ((k : Int) < (k : Int)) = false := by simp
      have hBt : B = true := HB.out.2 ⟨GA.out, GB.out, fun i hi => HIN.out i (by rw [← HNA.out]; exact hi)⟩
      subst hBt
      go_wp2_with fail
      go_ret
      exact ⟨rfl, b02.trans (bel.mono b02.size)⟩

end Go.Proofs.Ytikkmdbaekdolaa

/- package ack: May and Encode of one span; Decode of one byte. -/
namespace Go.Proofs.Ytikkmdbaekdolaa
open Go.RowKit Go.Lib
set_option linter.unusedVariables false
set_option maxRecDepth 100000

/-- an acknowledgment's five cells -/
def AckAt (w : World) (D : Nat) (c0 c1 c2 c3 c4 : Value) : Prop := w.heap[D]? = some (.cells #[c0, c1, c2, c3, c4] 74 (0, 0))
theorem AckAt.lt {w : World} {D : Nat} {c0 c1 c2 c3 c4 : Value} (h : AckAt w D c0 c1 c2 c3 c4) : D < w.heap.size := (Array.getElem?_eq_some_iff.1 h).1
theorem AckAt.cells {w : World} {D : Nat} {c0 c1 c2 c3 c4 : Value} (h : AckAt w D c0 c1 c2 c3 c4) :
    (w.cell? ⟨D, 0, none⟩ = some c0 ∧ w.cell? ⟨D, 1, none⟩ = some c1 ∧ w.cell? ⟨D, 2, none⟩ = some c2 ∧ w.cell? ⟨D, 3, none⟩ = some c3 ∧ w.cell? ⟨D, 4, none⟩ = some c4) ∧ ∀ j, w.frozen? ⟨D, j, none⟩ = false := by
  refine ⟨?_, fun j => ?_⟩
  · unfold World.cell?
    rw [show w.heap[D]? = _ from h]
    exact ⟨rfl, rfl, rfl, rfl, rfl⟩
  · unfold World.frozen?
    rw [show w.heap[D]? = _ from h]
    simp
theorem AckAt.belowB {w w' : World} {D B : Nat} {c0 c1 c2 c3 c4 : Value} (h : AckAt w D c0 c1 c2 c3 c4) (hD : D < B) (k : Below B w w') : AckAt w' D c0 c1 c2 c3 c4 := by
  unfold AckAt
  rw [k.block D hD]
  exact h

set_option maxHeartbeats 2000000 in
theorem aMay1 (g o c : Nat) (lo hi t x : Int) (h1 : lo ≤ hi) (h2 : hi ≤ 4611686018427387903) (w : World) (hS : SpanAt w g o lo hi) :
    Calls Try.prog 76 #[.agg #[.slice (some ⟨g, o, none⟩) 1 c, .slice none 0 0, .int .u64 t, .int .u64 x, .bool true]] w fun e w' => e = .returned (.bool true) ∧ Gr w w' := by
  have HS := Lib.hid hS
  clear hS
  go_enter Try.func76, Try.ntmps76
  go_wp2_with fail
  refine (sWithin1 g o c lo hi h1 h2 _ (HS.out.below (Gr.below (by repeat (first | exact Gr.refl _ | apply Gr.drewN | apply Gr.drew | apply Gr.gw | apply Gr.alloc))))).mono ?_; rintro e' w1 ⟨rfl, n1, os1, rfl⟩
  go_wp2_with fail
  refine (sWithin0 g o c lo hi h1 h2 _ (HS.out.below (Gr.below (by repeat (first | exact Gr.refl _ | apply Gr.drewN | apply Gr.drew | apply Gr.gw | apply Gr.alloc))))).mono ?_; rintro e' w2 ⟨rfl, n2, os2, rfl⟩
  go_wp2_with fail
  go_ret
  exact ⟨rfl, by repeat (first | exact Gr.refl _ | apply Gr.drewN | apply Gr.drew | apply Gr.gw | apply Gr.alloc)⟩


set_option maxHeartbeats 1000000 in
theorem aSpansShort (p : Nat) (n : Int) (w : World) (hr : RdAt w p []) :
    Calls Try.prog 123 #[.pointer (some ⟨p, 0, none⟩), .int .i64 n] w fun e w' => e = .returned (.tuple #[.slice none 0 0, .int .i64 2]) ∧ w = w' := by
  go_enter Try.func123, Try.ntmps123
  go_wp2_with fail
  refine (takeShort [] 1 (by simp) _ p hr).mono ?_; rintro e' w' ⟨rfl, rfl⟩
  go_wp2_with fail
  exact bodyPost_ret (v := .tuple #[.slice none 0 0, .int .i64 2]) (by simp [results, Try.results123, go_sem]) rfl ⟨rfl, rfl⟩

set_option maxHeartbeats 2000000 in
theorem aDecodeOne (bv : Value) (k : Int) (hk : 0 ≤ k ∧ k ≤ 255) (w : World) (hB : BodyAt w bv [k]) :
    Calls Try.prog 84 #[bv] w fun e w' => e = .returned (.tuple #[.agg #[.slice none 0 0, .slice none 0 0, .int .u64 0, .int .u64 0, .bool false], .int .i64 (if k = 2 then 2 else 4)]) ∧ Below w.heap.size w w' := by
  go_enter Try.func84, Try.ntmps84
  go_wp2_with fail
  refine (oNewAny bv [k] (by simp) _ (hB.below ((Below.refl _ _).alloc (Nat.le_refl _) _))).mono ?_; rintro e' w1 ⟨p, rfl, hp, hp1, b1, R1⟩
  have A1 : AckAt w1 w.heap.size (.slice none 0 0) (.slice none 0 0) (.int .u64 0) (.int .u64 0) (.bool false) := AckAt.belowB (show AckAt (w.alloc _) _ _ _ _ _ _ from heap_alloc_new w _) (by simp) b1
  have b01 : Below w.heap.size w w1 := ((Below.refl _ _).alloc (Nat.le_refl _) _).trans (b1.mono (by simp))
  rw [show (w.alloc (.cells #[.slice none 0 0, .slice none 0 0, .int .u64 0, .int .u64 0, .bool false] 74 (0, 0))).heap.size = w.heap.size + 1 by simp] at hp
  clear b1 hB
  go_wp2_with fail
  refine (takeHere [k] 1 (by omega) (by simp) (by simp) _ p R1).mono ?_; rintro e' w2 ⟨q, c, rfl, BQ, b12, R2, _⟩
  have R2 : RdAt w2 p [] := R2
  have A2 := A1.belowB (by omega) b12
  have b02 := b01.trans (b12.mono (by omega))
  have ck : w2.cell? ⟨q, 0, none⟩ = some (.int .u8 k) := by simpa using BQ.at 0 k rfl
  have l2 := A2.lt
  clear BQ b12 R1 A1 b01
  obtain ⟨⟨a0, a1, a2, a3, a4⟩, fz⟩ := A2.cells
  have z0 := fz 0
  have z1 := fz 1
  have z2 := fz 2
  have z3 := fz 3
  have z4 := fz 4
  by_cases hk2 : k = 2
  · subst hk2
    go_wp2_with fail
    refine (aSpansShort p 1 _ (R2.below ((Below.refl _ _).alloc (Nat.le_refl _) _))).mono ?_; rintro e' w' ⟨rfl, rfl⟩
    go_wp2_with fail
    refine bodyPost_ret (v := .tuple #[.agg #[.slice none 0 0, .slice none 0 0, .int .u64 0, .int .u64 0, .bool false], .int .i64 2]) (by simp [results, Try.results84, go_sem, a0, a1, a2, a3, a4, l2]) rfl ⟨rfl, ?_⟩
    repeat (first | with_reducible exact b02 | with_reducible refine Below.setCell ?_ (by simp) _ | with_reducible refine Below.alloc ?_ (by have := b02.size; simp; omega) _)
  · have hd : (k != 2) = true := by rw [bne_iff_ne]; exact hk2
    go_wp2_with fail
    refine bodyPost_ret (v := .tuple #[.agg #[.slice none 0 0, .slice none 0 0, .int .u64 0, .int .u64 0, .bool false], .int .i64 4]) (by simp [results, Try.results84, go_sem, a0, a1, a2, a3, a4]) rfl ⟨by first | rfl | rw [if_neg hk2], ?_⟩
    repeat (first | with_reducible exact b02 | with_reducible refine Below.setCell ?_ (by simp) _)

end Go.Proofs.Ytikkmdbaekdolaa

/- package ack: a row of spans that is read. -/
namespace Go.Proofs.Ytikkmdbaekdolaa
open Go.RowKit Go.Lib
set_option linter.unusedVariables false
set_option maxRecDepth 100000

/-- a row's cells -/
def flatS (l : List (Int × Int)) : List Value := l.flatMap fun s => [.int .u64 s.1, .int .u64 s.2]
theorem flatS_append (l k : List (Int × Int)) : flatS (l ++ k) = flatS l ++ flatS k := by simp [flatS]

/-- a row of at least so many -/
def getRowF (least : Int) : List Int → Int × List (Int × Int) × List Int
  | [] => (2, [], [])
  | n :: zs => if n < least ∨ 32 < n then (5, [], []) else rowF 0 n.toNat zs

structure SpansR (w0 : World) (p : Nat) (E : Int) (l : List (Int × Int)) (rest : List Int) (n : Nat) (v : Value) (low : Int) (k : Nat) (wr : World) : Prop where
  hl : ∃ (ls l' : List (Int × Int)) (zs rest' : List Int), ls.length = k ∧ rowF low (n - k) zs = (E, l', rest') ∧ (E = 0 → ls ++ l' = l ∧ rest' = rest) ∧ (∀ x ∈ zs, 0 ≤ x ∧ x ≤ 255) ∧ zs.length ≤ 140737488351232 ∧ RdAt wr p zs ∧ wr.ownsRow w0.heap.size 80 2 v k (flatS ls)
  low : 0 ≤ low ∧ low ≤ 4611686018427387905
  bel : Below p w0 wr
  kept : Kept p w0 wr

theorem Kept.trans {p : Nat} {a b c : World} (h : Kept p a b) (k : Kept p b c) (hs : a.heap.size ≤ b.heap.size) : Kept p a c := fun i hi hl => by rw [k i hi (by omega), h i hi hl]
theorem Kept.of_below {p : Nat} {a b : World} (h : Below a.heap.size a b) : Kept p a b := fun i _ hl => h.block i hl
theorem Kept.grown {p B : Nat} {a b : World} {row : Option Nat} (h : a.grownBy b row) (hB : B ≤ a.heap.size) (hr : ∀ k, row = some k → B ≤ k) : ∀ i, i < B → b.heap[i]? = a.heap[i]? := fun i hi => h.block i (by omega) (fun e => by have := hr i e.symm; omega)
theorem ownKept {p B n s : Nat} {w w' : World} {e : TypeId} {v : Value} {xs : List Value} (h : w.ownsRow B e s v n xs) (hp : p < B) (k : Kept p w w') : w'.ownsRow B e s v n xs := by
  obtain ⟨h1, h2 | ⟨g, c, cur, h3, h4, h5, h6⟩⟩ := h
  · exact ⟨h1, .inl h2⟩
  · exact ⟨h1, .inr ⟨g, c, cur, h3, h4, by rw [k g (by omega) (Array.getElem?_eq_some_iff.1 h5).1]; exact h5, h6⟩⟩

theorem news2 (W : World) (v u : Value) (t : TypeId) : ∀ (j : Nat) (x : Value), [v, u][j]? = some x → (W.alloc (.cells #[v, u] t)).cell? ((⟨W.heap.size, 0, none⟩ : Addr).add j) = some x := by
  intro j x hx
  rw [addr_add, cell_of_row _ _ _ _ _ _ (heap_alloc_new W _)]
  rcases j with _ | _ | j
  · simpa using hx
  · simpa using hx
  · simp at hx
theorem two2 (a c : Int) : ∀ x ∈ [Value.int .u64 a, .int .u64 c], x.oneCell' = true := by
  intro x hx
  simp at hx
  rcases hx with rfl | rfl <;> rfl

set_option maxHeartbeats 8000000 in
set_option maxRecDepth 100000 in
theorem aSpans (p : Nat) (least : Int) (hle : 0 ≤ least ∧ least ≤ 1) (zs0 : List Int) (hz : ∀ x ∈ zs0, 0 ≤ x ∧ x ≤ 255) (hlen : zs0.length ≤ 140737488351232) (E : Int) (l : List (Int × Int)) (rest : List Int) (hG : getRowF least zs0 = (E, l, rest)) (w : World) (hr : RdAt w p zs0) :
    Calls Try.prog 123 #[.pointer (some ⟨p, 0, none⟩), .int .i64 least] w fun e w' => ∃ v, e = .returned (.tuple #[v, .int .i64 E]) ∧ Below p w w' ∧ Kept p w w' ∧ (E ≠ 0 → v = .slice none 0 0) ∧ (E = 0 → RdAt w' p rest ∧ w'.ownsRow w.heap.size 80 2 v l.length (flatS l)) := by
  obtain ⟨i, hi, hzz, hs, hbb⟩ := info_parts (P := Try.prog) (e := 80) (z := .agg #[.int .u64 0, .int .u64 0]) (size := 2) (bytes := 16) (by kernel_rfl)
  have hpw := hr.1
  go_enter Try.func123, Try.ntmps123
  go_wp2_with fail
  rcases zs0 with _ | ⟨n, zs⟩
  · rw [getRowF, Prod.mk.injEq, Prod.mk.injEq] at hG
    obtain ⟨rfl, rfl, rfl⟩ := hG
    refine (takeShort [] 1 (by simp) _ p hr).mono ?_; rintro e' w' ⟨rfl, rfl⟩
    go_wp2_with fail
    exact bodyPost_ret (v := .tuple #[.slice none 0 0, .int .i64 2]) (by simp [results, Try.results123, go_sem]) rfl ⟨.slice none 0 0, rfl, Below.refl _ _, fun _ _ _ => rfl, fun _ => rfl, fun h => by simp at h⟩
  have hn := hz n (by simp)
  have hzs : ∀ x ∈ zs, 0 ≤ x ∧ x ≤ 255 := fun x hx => hz x (by simp [hx])
  simp only [List.length_cons] at hlen
  refine (takeHere (n :: zs) 1 (by omega) (by simp) (by simp only [List.length_cons]; omega) _ p hr).mono ?_; rintro e' w2 ⟨q, c, rfl, BQ, b02, R2, K2, _⟩
  have R2 : RdAt w2 p zs := R2
  have ck : w2.cell? ⟨q, 0, none⟩ = some (.int .u8 n) := by simpa using BQ.at 0 n rfl
  have HZ := Lib.hid hzs
  clear BQ hr hz hzs
  rw [getRowF] at hG
  by_cases hx : n < least ∨ 32 < n
  · rw [if_pos hx, Prod.mk.injEq, Prod.mk.injEq] at hG
    obtain ⟨rfl, rfl, rfl⟩ := hG
    rcases (by omega : n < least ∨ (least ≤ n ∧ 32 < n)) with h | ⟨h, h'⟩
    · go_wp2_with fail
      exact bodyPost_ret (v := .tuple #[.slice none 0 0, .int .i64 5]) (by simp [results, Try.results123, go_sem]) rfl ⟨.slice none 0 0, rfl, b02, K2, fun _ => rfl, fun h => by simp at h⟩
    · go_wp2_with fail
      exact bodyPost_ret (v := .tuple #[.slice none 0 0, .int .i64 5]) (by simp [results, Try.results123, go_sem]) rfl ⟨.slice none 0 0, rfl, b02, K2, fun _ => rfl, fun h => by simp at h⟩
  rw [if_neg hx] at hG
  obtain ⟨n, rfl⟩ : ∃ m : Nat, n = (m : Int) := ⟨n.toNat, by omega⟩
  rw [Int.toNat_natCast] at hG
  have h1 : least ≤ (n : Int) := by omega
  have h2 : (n : Int) ≤ 32 := by omega
  have HG := Lib.hid hG
  clear hx hG
  go_wp2_with fail
  go_loopw [9, 10, 35] (fun v lowv i wr => ∃ (k : Nat) (low : Int), i = .int .i64 (k : Int) ∧ lowv = .int .u64 low ∧ k ≤ n ∧ SpansR w p E l rest n v low k wr) (fun _ _ i _ => (n - intOf i).toNat)
  case atStart =>
    exact ⟨0, 0, rfl, rfl, by omega, ⟨[], l, zs, rest, rfl, HG.out, fun _ => ⟨rfl, rfl⟩, HZ.out, by omega, R2, World.ownsRow_nil _ _ _ _⟩, by omega, b02, K2⟩
  case round =>
    obtain ⟨k, low, rfl, rfl, hk, ⟨ls, l', zk, rest', hlk, hrow, hE, hzk, hzl, R, own⟩, hlow, bel, kept⟩ := hrel
    have hk0 : (0 : Int) ≤ (k : Int) := by omega
    have HE := Lib.hid hE
    have HLK := Lib.hid hlk
    have OWN := Lib.hid own
    have KEPT := Lib.hid kept
    clear hE hlk own kept ck R2 K2 b02
    by_cases hlt : k < n
    · have hlt' : (k : Int) < (n : Int) := by omega
      obtain ⟨m, hm⟩ : ∃ m, n - k = m + 1 := ⟨n - k - 1, by omega⟩
      rw [hm, rowF_succ] at hrow
      obtain ⟨hH, hK⟩ := numHere zk hzk hzl
      go_wp2_with fail
      refine (hH _ p R).mono ?_; rintro e' w4 ⟨rfl, b4, R4, K4⟩
      have b04 := bel.trans b4
      have sb := bel.size
      have k04 := KEPT.out.trans K4 sb
      have own4 := ownKept OWN.out (by exact hpw) K4
      have z4 := byte_drop hzk (numF zk).2.1
      have l4 : (zk.drop (numF zk).2.1).length ≤ 140737488351232 := by rw [List.length_drop]; omega
      have hZ := numF_zero zk hzk
      have OWN4 := Lib.hid own4
      have KEPT4 := Lib.hid k04
      clear own4 k04 hH R hK b4 K4 OWN KEPT hzk hzl
      by_cases e1 : (numF zk).2.2 = 0
      case neg =>
        have hO : oneF low zk = ((numF zk).2.2, (0, 0), []) := by rw [oneF, if_neg e1]
        rw [hO] at hrow
        simp only at hrow
        rw [if_neg e1, Prod.mk.injEq, Prod.mk.injEq] at hrow
        obtain ⟨hE', _, _⟩ := hrow
        have hd : (E != 0) = true := by rw [bne_iff_ne, ← hE']; exact e1
        have hne : E ≠ 0 := by rw [← hE']; exact e1
        rw [hE']
        clear hO hZ z4 l4
        generalize (numF zk).1 = nn at *
        go_wp2_with fail
        exact bodyPost_ret (v := .tuple #[.slice none 0 0, .int .i64 E]) (by simp [results, Try.results123, go_sem]) rfl ⟨.slice none 0 0, rfl, b04, KEPT4.out, fun _ => rfl, fun h => absurd h hne⟩
      rw [e1]
      have hb1 := (hZ e1).1
      obtain ⟨a1, ha1⟩ : ∃ a, a = (numF zk).1 := ⟨_, rfl⟩
      rw [← ha1] at hb1 ⊢
      have HA1 := Lib.hid ha1
      obtain ⟨zq, hzq⟩ : ∃ z, z = zk.drop (numF zk).2.1 := ⟨_, rfl⟩
      rw [← hzq] at R4 z4 l4
      have HZQ := Lib.hid hzq
      clear ha1 hzq hZ
      by_cases g1 : 4611686018427387903 < low ∨ 4611686018427387903 - low < a1
      case pos =>
        have hO : oneF low zk = (5, (0, 0), []) := by rw [oneF, if_pos e1, if_pos (by rw [← HA1.out]; exact g1)]
        rw [hO] at hrow
        simp only at hrow
        rw [if_neg (by decide), Prod.mk.injEq, Prod.mk.injEq] at hrow
        obtain ⟨rfl, _, _⟩ := hrow
        rcases (by omega : 4611686018427387903 < low ∨ (low ≤ 4611686018427387903 ∧ 4611686018427387903 - low < a1)) with h | ⟨h, h'⟩
        · go_wp2_with fail
          exact bodyPost_ret (v := .tuple #[.slice none 0 0, .int .i64 5]) (by simp [results, Try.results123, go_sem]) rfl ⟨.slice none 0 0, rfl, b04, KEPT4.out, fun _ => rfl, fun h => by simp at h⟩
        · go_wp2_with fail
          exact bodyPost_ret (v := .tuple #[.slice none 0 0, .int .i64 5]) (by simp [results, Try.results123, go_sem]) rfl ⟨.slice none 0 0, rfl, b04, KEPT4.out, fun _ => rfl, fun h => by simp at h⟩
      have f1 : low ≤ 4611686018427387903 := by omega
      have f2 : a1 ≤ 4611686018427387903 - low := by omega
      have f3 : ¬ 4611686018427387903 < low := by omega
      have f4 : ¬ 4611686018427387903 - low < a1 := by omega
      obtain ⟨hH2, hK2⟩ := numHere zq z4 l4
      have hZ2 := numF_zero zq z4
      go_wp2_with fail
      refine (hH2 _ p R4).mono ?_; rintro e' w5 ⟨rfl, b5, R5, K5⟩
      have b05 := b04.trans b5
      have sb4 := b04.size
      have k05 := KEPT4.out.trans K5 sb4
      have own5 := ownKept OWN4.out (by exact hpw) K5
      have sb5 := b05.size
      have z5 := byte_drop z4 (numF zq).2.1
      have l5 : (zq.drop (numF zq).2.1).length ≤ 140737488351232 := by rw [List.length_drop]; omega
      have OWN5 := Lib.hid own5
      have KEPT5 := Lib.hid k05
      clear own5 k05 hH2 R4 hK2 b5 K5 OWN4 KEPT4 z4 l4 b04
      by_cases e2 : (numF zq).2.2 = 0
      case neg =>
        have hO : oneF low zk = ((numF zq).2.2, (0, 0), []) := by rw [oneF, if_pos e1, if_neg (by rw [← HA1.out]; exact g1), ← HZQ.out, if_neg e2]
        rw [hO] at hrow
        simp only at hrow
        rw [if_neg e2, Prod.mk.injEq, Prod.mk.injEq] at hrow
        obtain ⟨hE', _, _⟩ := hrow
        have hd : (E != 0) = true := by rw [bne_iff_ne, ← hE']; exact e2
        have hne : E ≠ 0 := by rw [← hE']; exact e2
        rw [hE']
        clear hO hZ2 z5 l5
        generalize (numF zq).1 = nn at *
        go_wp2_with fail
        exact bodyPost_ret (v := .tuple #[.slice none 0 0, .int .i64 E]) (by simp [results, Try.results123, go_sem]) rfl ⟨.slice none 0 0, rfl, b05, KEPT5.out, fun _ => rfl, fun h => absurd h hne⟩
      rw [e2]
      have hb2 := (hZ2 e2).1
      obtain ⟨a2, ha2⟩ : ∃ a, a = (numF zq).1 := ⟨_, rfl⟩
      rw [← ha2] at hb2 ⊢
      have HA2 := Lib.hid ha2
      obtain ⟨zt, hzt⟩ : ∃ z, z = zq.drop (numF zq).2.1 := ⟨_, rfl⟩
      rw [← hzt] at R5 z5 l5
      have HZT := Lib.hid hzt
      clear ha2 hzt hZ2
      by_cases g2 : 4611686018427387903 - (low + a1) < a2
      case pos =>
        have hO : oneF low zk = (5, (0, 0), []) := by rw [oneF, if_pos e1, if_neg (by rw [← HA1.out]; exact g1), ← HZQ.out, if_pos e2, ← HA1.out, ← HA2.out, if_pos g2]
        rw [hO] at hrow
        simp only at hrow
        rw [if_neg (by decide), Prod.mk.injEq, Prod.mk.injEq] at hrow
        obtain ⟨rfl, _, _⟩ := hrow
        go_wp2_with fail
        exact bodyPost_ret (v := .tuple #[.slice none 0 0, .int .i64 5]) (by simp [results, Try.results123, go_sem]) rfl ⟨.slice none 0 0, rfl, b05, KEPT5.out, fun _ => rfl, fun h => by simp at h⟩
      have hO : oneF low zk = (0, (low + a1, low + a1 + a2), zt) := by rw [oneF, if_pos e1, if_neg (by rw [← HA1.out]; exact g1), ← HZQ.out, if_pos e2, ← HA1.out, ← HA2.out, if_neg g2, ← HZT.out]
      rw [hO] at hrow
      simp only [if_true] at hrow
      have f5 : a2 ≤ 4611686018427387903 - (low + a1) := by omega
      have HROW := Lib.hid hrow
      clear hO hrow
      have hkb : (k : Int) ≤ 32 := by omega
      have hkn : k ≤ 32 := by omega
      go_wp2_with (at_builtin; refine wpList_append_own _ rfl (.tmp 68) (.tmp 74) 72 rfl w.heap.size 80 i (.agg #[.int .u64 0, .int .u64 0]) 2 16 Try.underlying72 hi hzz hs hbb rfl (by decide) _ k _ rfl (OWN5.out.alloc _) ⟨w5.heap.size, 0, none⟩ 1 1 [.int .u64 (low + a1), .int .u64 (low + a1 + a2)] rfl rfl (news2 _ _ _ _) (two2 _ _) (by simp [maxLen]; omega) (by omega) (by simp; omega) ?_; intro v6 w6 own6 hgrow6 hnil6)
      have b56 : Below w.heap.size w5 w6 := below_grownR ((Below.refl _ _).alloc (by omega) _) hgrow6 (by simp; omega) (fun k hk => (OWN5.out.lt k hk).1)
      have R6 := R5.belowP hpw b56
      have b06 := b05.trans (b56.mono (by omega))
      have k06 : Kept p w w6 := fun i hi' hl' => by rw [b56.block i hl', KEPT5.out i hi' hl']
      go_roundw
      case rel =>
        refine ⟨k + 1, low + a1 + a2 + 2, by congr 1, by congr 1, by omega, ⟨?_, by omega, b06, k06⟩⟩
        have hrow := HROW.out
        obtain ⟨er, lr, rr, hR⟩ : ∃ e l r, rowF (low + a1 + a2 + 2) m zt = (e, l, r) := ⟨_, _, _, rfl⟩
        have hnk : n - (k + 1) = m := by omega
        refine ⟨ls ++ [(low + a1, low + a1 + a2)], lr, zt, rr, by rw [List.length_append, HLK.out]; rfl, ?_, ?_, z5, l5, R6, ?_⟩
        · rw [hnk, hR]
          rw [hR] at hrow
          simp only at hrow
          by_cases her : er = 0
          · subst her
            rw [if_pos rfl, Prod.mk.injEq] at hrow
            rw [← hrow.1]
          · rw [if_neg her, Prod.mk.injEq] at hrow
            rw [← hrow.1]
        · intro h0
          rw [hR] at hrow
          simp only at hrow
          by_cases her : er = 0
          · subst her
            rw [if_pos rfl, Prod.mk.injEq, Prod.mk.injEq] at hrow
            obtain ⟨q1, q2⟩ := HE.out h0
            rw [List.append_assoc, ← q1, ← q2, ← hrow.2.1, ← hrow.2.2]
            exact ⟨rfl, rfl⟩
          · rw [if_neg her, Prod.mk.injEq] at hrow
            exact absurd (hrow.1.trans h0) her
        · rw [flatS_append]
          exact own6
      case measure => simp only [intOf]; omega
    · have hkn : k = n := by omega
      subst hkn
      have hd : decide ((k : Int) < (k : Int)) = false := by simp
      rw [Nat.sub_self, rowF, Prod.mk.injEq, Prod.mk.injEq] at hrow
      obtain ⟨rfl, rfl, rfl⟩ := hrow
      obtain ⟨rfl, rfl⟩ := HE.out rfl
      go_wp2_with fail
      exact bodyPost_ret (v := .tuple #[u9, .int .i64 0]) (by simp [results, Try.results123, go_sem]) rfl ⟨_, rfl, bel, KEPT.out, R, by rw [HLK.out]; exact OWN.out⟩

end Go.Proofs.Ytikkmdbaekdolaa

/- The plain law of acknowledgments as bytes: what is read of bytes is what was put there, and nothing else. -/
namespace Go.Proofs.Ytikkmdbaekdolaa
open Go.RowKit Go.Lib
set_option linter.unusedVariables false
set_option maxRecDepth 100000

structure AckD where
  spans : List (Int × Int)
  marked : List (Int × Int)
  trig : Int
  xr : Int
  par : Bool

def zeroA : AckD := ⟨[], [], 0, 0, false⟩
def parL (p : Bool) : Int := if p = true then 1 else 0
def putAckL (a : AckD) : List Int := 2 :: (putRowL a.spans ++ (putRowL a.marked ++ (eightL a.trig ++ (eightL a.xr ++ [parL a.par]))))

structure MayA (a : AckD) : Prop where
  s : GoodL 0 a.spans
  m : GoodL 0 a.marked
  sl : 1 ≤ a.spans.length ∧ a.spans.length ≤ 32
  ml : a.marked.length ≤ 32
  ins : insideAll a.marked a.spans
  t : 0 ≤ a.trig ∧ a.trig ≤ 18446744073709551615
  x : 0 ≤ a.xr ∧ a.xr ≤ 18446744073709551615

instance (a l : List (Int × Int)) : Decidable (insideAll a l) := by unfold insideAll insideAt; infer_instance

def getA5 (s m : List (Int × Int)) (t x : Int) : List Int → Int × AckD
  | [] => (2, zeroA)
  | p :: zs => if 1 < p then (5, zeroA) else if 0 < zs.length then (3, zeroA) else if insideAll m s then (0, ⟨s, m, t, x, p == 1⟩) else (5, zeroA)
def getA4 (s m : List (Int × Int)) (t : Int) (zs : List Int) : Int × AckD :=
  if (wordF zs).2.2 = 0 then getA5 s m t (wordF zs).1 (zs.drop (wordF zs).2.1) else ((wordF zs).2.2, zeroA)
def getA3 (s m : List (Int × Int)) (zs : List Int) : Int × AckD :=
  if (wordF zs).2.2 = 0 then getA4 s m (wordF zs).1 (zs.drop (wordF zs).2.1) else ((wordF zs).2.2, zeroA)
def getA2 (s : List (Int × Int)) (zs : List Int) : Int × AckD :=
  if (getRowF 0 zs).1 = 0 then getA3 s (getRowF 0 zs).2.1 (getRowF 0 zs).2.2 else ((getRowF 0 zs).1, zeroA)
def getA1 (zs : List Int) : Int × AckD :=
  if (getRowF 1 zs).1 = 0 then getA2 (getRowF 1 zs).2.1 (getRowF 1 zs).2.2 else ((getRowF 1 zs).1, zeroA)
def getA : List Int → Int × AckD
  | [] => (2, zeroA)
  | k :: zs => if k = 2 then getA1 zs else (4, zeroA)

theorem getA_zero (bs : List Int) (E : Int) (d : AckD) (h : getA bs = (E, d)) : d ≠ zeroA → E = 0 := by
  intro hd
  have key : ∀ (c : Int), ((c, zeroA) : Int × AckD) = (E, d) → False := fun c e => hd (Prod.mk.inj e).2.symm
  rcases bs with _ | ⟨k, zs⟩
  · exact absurd h (fun e => key _ e)
  rw [getA] at h
  split at h
  · rw [getA1] at h
    split at h
    · rw [getA2] at h
      split at h
      · rw [getA3] at h
        split at h
        · rw [getA4] at h
          split at h
          · unfold getA5 at h
            split at h
            · exact absurd h (fun e => key _ e)
            split at h
            · exact absurd h (fun e => key _ e)
            split at h
            · exact absurd h (fun e => key _ e)
            split at h
            · exact (Prod.mk.inj h).1.symm
            · exact absurd h (fun e => key _ e)
          · exact absurd h (fun e => key _ e)
        · exact absurd h (fun e => key _ e)
      · exact absurd h (fun e => key _ e)
    · exact absurd h (fun e => key _ e)
  · exact absurd h (fun e => key _ e)

theorem goodL_all : ∀ (l : List (Int × Int)) (low : Int), 0 ≤ low → GoodL low l → goodAll l ∧ (∀ s ∈ l, W64 s.1 ∧ W64 s.2) ∧ (0 < l.length → low ≤ (l.getD 0 (0, 0)).1)
  | [], _, _, _ => ⟨fun i hi => absurd hi (by simp), fun s hs => absurd hs (by simp), fun h => absurd h (by simp)⟩
  | (lo, hi) :: l, low, h0, ⟨h1, h2, h3, h4⟩ => by
    obtain ⟨g, w, f⟩ := goodL_all l (hi + 2) (by omega) h4
    refine ⟨fun i hi' => ?_, fun s hs => ?_, fun _ => by simpa using h1⟩
    · rcases i with _ | i
      · exact ⟨⟨by simpa using h2, by simpa using h3⟩, fun h => absurd h (by omega)⟩
      · simp only [List.length_cons] at hi'
        obtain ⟨a, b⟩ := g i (by omega)
        refine ⟨by simpa using a, fun _ => ?_⟩
        rcases i with _ | i
        · have := f (by omega)
          simp at this ⊢
          omega
        · have := b (by omega)
          simpa using this
    · simp only [List.mem_cons] at hs
      rcases hs with rfl | hs
      · exact ⟨⟨by simp only; omega, by simp only; omega⟩, ⟨by simp only; omega, by simp only; omega⟩⟩
      · exact w s hs

theorem goodAll_L : ∀ (l : List (Int × Int)) (low : Int), goodAll l → (∀ s ∈ l, W64 s.1 ∧ W64 s.2) → (0 < l.length → low ≤ (l.getD 0 (0, 0)).1) → GoodL low l
  | [], _, _, _, _ => trivial
  | (lo, hi) :: l, low, g, w, f => by
    obtain ⟨⟨a, b⟩, _⟩ := g 0 (by simp)
    have f0 := f (by simp)
    simp at a b f0
    refine ⟨f0, a, b, goodAll_L l (hi + 2) (fun i hi' => ?_) (fun s hs => w s (by simp [hs])) (fun h => ?_)⟩
    · obtain ⟨p, q⟩ := g (i + 1) (by simp; omega)
      refine ⟨by simpa using p, fun h => ?_⟩
      have := q (by omega)
      rcases i with _ | i
      · omega
      · simpa using this
    · have := (g 1 (by simp; omega)).2 (by omega)
      simp at this ⊢
      omega

theorem getRowF_ok (least : Int) (zs rest : List Int) (l : List (Int × Int)) (hz : ∀ x ∈ zs, 0 ≤ x ∧ x ≤ 255) (h : getRowF least zs = (0, l, rest)) :
    GoodL 0 l ∧ least ≤ l.length ∧ l.length ≤ 32 ∧ putRowL l ++ rest = zs ∧ ∀ x ∈ rest, 0 ≤ x ∧ x ≤ 255 := by
  rcases zs with _ | ⟨n, zs⟩
  · simp [getRowF] at h
  rw [getRowF] at h
  have hn := hz n (by simp)
  split at h
  · simp at h
  next hx =>
  obtain ⟨h1, h2, h3, h4⟩ := rowF_ok n.toNat 0 zs rest l (fun x hx => hz x (by simp [hx])) h
  refine ⟨h1, by omega, by omega, ?_, h4⟩
  rw [putRowL, List.cons_append, h3, show (l.length : Int) = n by omega]

theorem getRowF_put (least : Int) (l : List (Int × Int)) (more : List Int) (h : GoodL 0 l) (h1 : least ≤ l.length) (h2 : l.length ≤ 32) : getRowF least (putRowL l ++ more) = (0, l, more) := by
  rw [putRowL, List.cons_append, getRowF, if_neg (by omega), Int.toNat_natCast, rowF_put l 0 more (Int.le_refl _) h]

theorem getRowF_cut (least : Int) (l : List (Int × Int)) (h : GoodL 0 l) (h1 : least ≤ l.length) (h2 : l.length ≤ 32) (j : Nat) (hj : j < (putRowL l).length) : getRowF least ((putRowL l).take j) = (2, [], []) := by
  rw [putRowL] at hj ⊢
  rcases j with _ | j
  · rfl
  rw [List.take_succ_cons, getRowF, if_neg (by omega), Int.toNat_natCast]
  exact rowF_cut l 0 j (Int.le_refl _) h (by simpa using hj)

theorem getA_any (a : AckD) (h : MayA a) (more : List Int) : getA (2 :: (putRowL a.spans ++ (putRowL a.marked ++ (eightL a.trig ++ (eightL a.xr ++ more))))) = getA5 a.spans a.marked a.trig a.xr more := by
  rw [getA, if_pos rfl, getA1, getRowF_put 1 a.spans _ h.s (by have := h.sl; omega) h.sl.2, if_pos rfl]
  rw [getA2, getRowF_put 0 a.marked _ h.m (by omega) h.ml, if_pos rfl]
  rw [getA3, wordF_put _ h.t, if_pos rfl, show (8 : Nat) = (eightL a.trig).length from rfl, List.drop_left]
  rw [getA4, wordF_put _ h.x, if_pos rfl, show (8 : Nat) = (eightL a.xr).length from rfl, List.drop_left]

theorem parL_le (p : Bool) : ¬ 1 < parL p := by cases p <;> decide
theorem parL_eq (p : Bool) : (parL p == 1) = p := by cases p <;> decide

theorem getA_put (a : AckD) (h : MayA a) : getA (putAckL a) = (0, a) := by
  rw [putAckL, getA_any a h, getA5, if_neg (parL_le _), if_neg (by simp), if_pos h.ins, parL_eq]
theorem getA_more (a : AckD) (h : MayA a) (y : Int) : getA (putAckL a ++ [y]) = (3, zeroA) := by
  rw [putAckL]
  simp only [List.cons_append, List.append_assoc]
  rw [getA_any a h]
  simp only [List.nil_append]
  rw [getA5, if_neg (parL_le _), if_pos (by simp)]

theorem getA_cut (a : AckD) (h : MayA a) (j : Nat) (hj : j < (putAckL a).length) : getA ((putAckL a).take j) = (2, zeroA) := by
  rw [putAckL] at hj ⊢
  rcases j with _ | j
  · rfl
  rw [List.take_succ_cons, getA, if_pos rfl]
  simp only [List.length_cons, List.length_append] at hj
  rw [take_app]
  split
  next hl => rw [getA1, getRowF_cut 1 _ h.s (by have := h.sl; omega) h.sl.2 _ hl, if_neg (by decide)]
  rw [getA1, getRowF_put 1 a.spans _ h.s (by have := h.sl; omega) h.sl.2, if_pos rfl]
  simp only
  rw [take_app]
  split
  next hl => rw [getA2, getRowF_cut 0 _ h.m (by omega) h.ml _ hl, if_neg (by decide)]
  rw [getA2, getRowF_put 0 a.marked _ h.m (by omega) h.ml, if_pos rfl]
  simp only
  rw [take_app]
  split
  next hl => rw [getA3, wordF_cut _ _ hl, if_neg (by decide)]
  rw [getA3, wordF_put _ h.t, if_pos rfl, show (8 : Nat) = (eightL a.trig).length from rfl, List.drop_left]
  simp only
  rw [take_app]
  split
  next hl => rw [getA4, wordF_cut _ _ hl, if_neg (by decide)]
  rw [getA4, wordF_put _ h.x, if_pos rfl, show (8 : Nat) = (eightL a.xr).length from rfl, List.drop_left]
  have e1 := eightL_len a.trig
  have e2 := eightL_len a.xr
  rw [show j - (putRowL a.spans).length - (putRowL a.marked).length - (eightL a.trig).length - (eightL a.xr).length = 0 by simp only [List.length_nil] at hj; omega, List.take_zero]
  rfl

theorem getA_ok (bs : List Int) (hb : ∀ x ∈ bs, 0 ≤ x ∧ x ≤ 255) (a : AckD) (h : getA bs = (0, a)) : MayA a ∧ putAckL a = bs := by
  rcases bs with _ | ⟨k, zs⟩
  · simp [getA] at h
  rw [getA] at h
  split at h
  case isFalse => simp at h
  case isTrue hk =>
  subst hk
  have z1 : ∀ x ∈ zs, 0 ≤ x ∧ x ≤ 255 := fun x hx => hb x (by simp [hx])
  rw [getA1] at h
  obtain ⟨e, s, zs2, hR⟩ : ∃ e s r, getRowF 1 zs = (e, s, r) := ⟨_, _, _, rfl⟩
  rw [hR] at h
  simp only at h
  split at h
  case isFalse he => exact absurd (congrArg Prod.fst h) he
  case isTrue he =>
  subst he
  obtain ⟨r1, r2, r3, r4, z2⟩ := getRowF_ok 1 zs zs2 s z1 hR
  rw [getA2] at h
  obtain ⟨e, m, zs3, hM⟩ : ∃ e s r, getRowF 0 zs2 = (e, s, r) := ⟨_, _, _, rfl⟩
  rw [hM] at h
  simp only at h
  split at h
  case isFalse he => exact absurd (congrArg Prod.fst h) he
  case isTrue he =>
  subst he
  obtain ⟨m1, m2, m3, m4, z3⟩ := getRowF_ok 0 zs2 zs3 m z2 hM
  rw [getA3] at h
  split at h
  case isFalse he => exact absurd (congrArg Prod.fst h) he
  case isTrue he =>
  obtain ⟨t1, t2⟩ := wordF_zero zs3 z3 he
  have z4 := byte_drop z3 (wordF zs3).2.1
  generalize (wordF zs3).1 = t at *
  generalize zs3.drop (wordF zs3).2.1 = zs4 at *
  rw [getA4] at h
  split at h
  case isFalse he => exact absurd (congrArg Prod.fst h) he
  case isTrue he =>
  obtain ⟨x1, x2⟩ := wordF_zero zs4 z4 he
  have z5 := byte_drop z4 (wordF zs4).2.1
  generalize (wordF zs4).1 = x at *
  generalize zs4.drop (wordF zs4).2.1 = zs5 at *
  rcases zs5 with _ | ⟨p, zs5⟩
  · simp [getA5] at h
  have hp := z5 p (by simp)
  rw [getA5] at h
  split at h
  · simp at h
  next p1 =>
  split at h
  · simp at h
  next p2 =>
  split at h
  case isFalse => simp at h
  case isTrue hi =>
  obtain rfl : zs5 = [] := List.eq_nil_of_length_eq_zero (by omega)
  obtain ⟨_, rfl⟩ := Prod.mk.injEq .. ▸ h
  refine ⟨⟨r1, m1, ⟨by simp only; omega, by simp only; omega⟩, by simp only; omega, hi, t1, x1⟩, ?_⟩
  rw [putAckL]
  simp only
  rw [show parL (p == 1) = p by
    rcases (by omega : p = 0 ∨ p = 1) with rfl | rfl <;> rfl, x2, t2, m4, r4]

/-- a row's value -/
def RowAt (w : World) (v : Value) (l : List (Int × Int)) : Prop := ∃ x c, v = .slice x l.length c ∧ SRow w x l
theorem RowAt.below {w w' : World} {v : Value} {l : List (Int × Int)} (h : RowAt w v l) (hb : Below w.heap.size w w') : RowAt w' v l := by
  obtain ⟨x, c, h1, h2⟩ := h
  exact ⟨x, c, h1, h2.below hb⟩
theorem RowAt.nil (w : World) : RowAt w (.slice none 0 0) [] := ⟨none, 0, rfl, .inl rfl⟩

theorem flatS_get : ∀ (l : List (Int × Int)) (i : Nat), i < l.length → (flatS l)[i * 2]? = some (.int .u64 (l.getD i (0, 0)).1) ∧ (flatS l)[i * 2 + 1]? = some (.int .u64 (l.getD i (0, 0)).2)
  | [], i, h => absurd h (by simp)
  | s :: l, 0, _ => ⟨rfl, rfl⟩
  | s :: l, i + 1, h => by
    have ih := flatS_get l i (by simpa using h)
    have e : flatS (s :: l) = .int .u64 s.1 :: .int .u64 s.2 :: flatS l := rfl
    rw [e, show (i + 1) * 2 = i * 2 + 1 + 1 by omega, show i * 2 + 1 + 1 + 1 = (i * 2 + 1) + 1 + 1 by omega]
    simpa using ih

theorem rowAt_own {w : World} {base : Nat} {v : Value} {l : List (Int × Int)} (h : w.ownsRow base 80 2 v l.length (flatS l)) : RowAt w v l := by
  obtain ⟨hlen, ⟨rfl, h2⟩ | ⟨g, c, cur, rfl, hg, hheap, hc, hm, hcs, htake⟩⟩ := h
  · exact ⟨none, 0, by rw [h2], .inl (List.eq_nil_of_length_eq_zero h2)⟩
  · refine ⟨some ⟨g, 0, none⟩, c, rfl, .inr ⟨g, 0, rfl, (Array.getElem?_eq_some_iff.1 hheap).1, fun i hi => ?_⟩⟩
    obtain ⟨f1, f2⟩ := flatS_get l i hi
    have key : ∀ k, k < l.length * 2 → w.cell? ⟨g, 0 + k, none⟩ = (flatS l)[k]? := fun k hk => by
      rw [cell_of_row w g (0 + k) cur _ _ hheap, ← Array.getElem?_toList]
      have := congrArg (·[k]?) htake
      simp only [List.getElem?_take] at this
      rw [if_pos hk] at this
      rw [Nat.zero_add, this]
    have k1 := key (i * 2) (by omega)
    have k2 := key (i * 2 + 1) (by omega)
    rw [f1] at k1
    rw [f2, ← Nat.add_assoc] at k2
    exact ⟨k1, k2⟩

end Go.Proofs.Ytikkmdbaekdolaa

/- the plain law of rows: adding a span; the last ones. -/
namespace Go.Proofs.Ytikkmdbaekdolaa
open Go.RowKit Go.Lib
set_option linter.unusedVariables false
set_option maxRecDepth 100000

def absorbS : List (Int × Int) → Int → Int → List (Int × Int)
  | [], a, b => [(a, b)]
  | (lo, hi) :: l, a, b => if lo ≤ b + 1 then absorbS l (min a lo) (max b hi) else (a, b) :: (lo, hi) :: l
def addS : List (Int × Int) → Int → Int → List (Int × Int)
  | [], a, b => [(a, b)]
  | (lo, hi) :: l, a, b => if hi + 1 < a then (lo, hi) :: addS l a b else absorbS ((lo, hi) :: l) a b
def lastS (l : List (Int × Int)) : List (Int × Int) := l.drop (l.length - 32)

theorem absorbS_good : ∀ (l : List (Int × Int)) (a b low low' : Int), GoodL low' l → low ≤ low' → low ≤ a → a ≤ b → b ≤ 4611686018427387903 → GoodL low (absorbS l a b)
  | [], a, b, low, low', _, _, h1, h2, h3 => ⟨h1, h2, h3, trivial⟩
  | (lo, hi) :: l, a, b, low, low', ⟨g1, g2, g3, g4⟩, h0, h1, h2, h3 => by
    rw [absorbS]
    split
    · exact absorbS_good l _ _ low (hi + 2) g4 (by omega) (by omega) (by omega) (by omega)
    · exact ⟨h1, h2, h3, by omega, g2, g3, g4⟩
theorem addS_good : ∀ (l : List (Int × Int)) (a b low : Int), GoodL low l → low ≤ a → a ≤ b → b ≤ 4611686018427387903 → GoodL low (addS l a b)
  | [], a, b, low, _, h1, h2, h3 => ⟨h1, h2, h3, trivial⟩
  | (lo, hi) :: l, a, b, low, ⟨g1, g2, g3, g4⟩, h1, h2, h3 => by
    rw [addS]
    split
    · exact ⟨g1, g2, g3, addS_good l a b (hi + 2) g4 (by omega) h2 h3⟩
    · exact absorbS_good _ a b low low ⟨g1, g2, g3, g4⟩ (by omega) h1 h2 h3

theorem absorbS_len : ∀ (l : List (Int × Int)) (a b : Int), 1 ≤ (absorbS l a b).length ∧ (absorbS l a b).length ≤ l.length + 1
  | [], a, b => by simp [absorbS]
  | (lo, hi) :: l, a, b => by
    have ih := absorbS_len l (min a lo) (max b hi)
    rw [absorbS]
    split
    · simp only [List.length_cons]; omega
    · simp
theorem addS_len : ∀ (l : List (Int × Int)) (a b : Int), 1 ≤ (addS l a b).length ∧ (addS l a b).length ≤ l.length + 1
  | [], a, b => by simp [addS]
  | (lo, hi) :: l, a, b => by
    have ih := addS_len l a b
    have ia := absorbS_len ((lo, hi) :: l) a b
    rw [addS]
    split
    · simp only [List.length_cons]; omega
    · exact ia

/-- inside one span of a row -/
def InR (R : List (Int × Int)) (a b : Int) : Prop := insideAt R (a, b)
theorem InR.meet {R : List (Int × Int)} (hR : goodAll R) {a b c d : Int} (h : InR R a b) (k : InR R c d) (h1 : a ≤ b) (h2 : c ≤ d) (h3 : c ≤ b + 1) (h4 : a ≤ d + 1) : InR R (min a c) (max b d) := by
  obtain ⟨i, hi, p1, p2⟩ := h
  obtain ⟨j, hj, q1, q2⟩ := k
  simp only at p1 p2 q1 q2
  rcases Nat.lt_trichotomy i j with e | e | e
  · have := goodAll_lt hR i j e hj
    omega
  · subst e
    exact ⟨i, hi, by simp only; omega, by simp only; omega⟩
  · have := goodAll_lt hR j i e hi
    omega

theorem absorbS_in (R : List (Int × Int)) (hR : goodAll R) : ∀ (l : List (Int × Int)) (a b low' : Int), GoodL low' l → (∀ s ∈ l, InR R s.1 s.2) → InR R a b → a ≤ b → (∀ s ∈ l, a ≤ s.2 + 1) → ∀ s ∈ absorbS l a b, InR R s.1 s.2
  | [], a, b, _, _, _, hab, _, _ => fun s hs => by
    simp only [absorbS, List.mem_singleton] at hs
    subst hs
    exact hab
  | (lo, hi) :: l, a, b, low', ⟨g1, g2, g3, g4⟩, hl, hab, h1, h2 => by
    have hd := hl (lo, hi) (by simp)
    have h3 := h2 (lo, hi) (by simp)
    simp only at hd h3
    rw [absorbS]
    split
    next hx =>
      exact absorbS_in R hR l _ _ (hi + 2) g4 (fun s hs => hl s (by simp [hs])) (hab.meet hR hd h1 g2 hx h3) (by omega) (fun s hs => by have := h2 s (by simp [hs]); omega)
    · intro s hs
      simp only [List.mem_cons] at hs
      rcases hs with rfl | rfl | hs
      · exact hab
      · exact hd
      · exact hl s (by simp [hs])
theorem good_tail : ∀ (l : List (Int × Int)) (low : Int), GoodL low l → ∀ s ∈ l, low ≤ s.1 ∧ s.1 ≤ s.2 ∧ s.2 ≤ 4611686018427387903
  | [], _, _ => fun s hs => absurd hs (by simp)
  | (lo, hi) :: l, low, ⟨g1, g2, g3, g4⟩ => fun s hs => by
    simp only [List.mem_cons] at hs
    rcases hs with rfl | hs
    · exact ⟨g1, g2, g3⟩
    · have := good_tail l (hi + 2) g4 s hs
      omega
theorem addS_in (R : List (Int × Int)) (hR : goodAll R) : ∀ (l : List (Int × Int)) (a b low : Int), GoodL low l → (∀ s ∈ l, InR R s.1 s.2) → InR R a b → a ≤ b → ∀ s ∈ addS l a b, InR R s.1 s.2
  | [], a, b, _, _, _, hab, _ => fun s hs => by
    simp only [addS, List.mem_singleton] at hs
    subst hs
    exact hab
  | (lo, hi) :: l, a, b, low, ⟨g1, g2, g3, g4⟩, hl, hab, h1 => by
    rw [addS]
    split
    · intro s hs
      simp only [List.mem_cons] at hs
      rcases hs with rfl | hs
      · exact hl _ (by simp)
      · exact addS_in R hR l a b (hi + 2) g4 (fun s hs => hl s (by simp [hs])) hab h1 s hs
    next hx =>
      refine absorbS_in R hR _ a b low ⟨g1, g2, g3, g4⟩ hl hab h1 (fun s hs => ?_)
      simp only [List.mem_cons] at hs
      rcases hs with rfl | hs
      · simp only; omega
      · have := good_tail l (hi + 2) g4 s hs
        omega

theorem good_mono : ∀ (l : List (Int × Int)) (low low' : Int), GoodL low l → low' ≤ low → GoodL low' l
  | [], _, _, _, _ => trivial
  | (lo, hi) :: l, low, low', ⟨g1, g2, g3, g4⟩, h => ⟨by omega, g2, g3, g4⟩
theorem good_drop : ∀ (k : Nat) (l : List (Int × Int)) (low : Int), GoodL low l → GoodL low (l.drop k)
  | 0, l, low, h => by simpa using h
  | k + 1, [], low, h => by simpa using h
  | k + 1, (lo, hi) :: l, low, ⟨g1, g2, g3, g4⟩ => by
    rw [List.drop_succ_cons]
    exact good_drop k l low (good_mono l _ low g4 (by omega))
theorem lastS_good {l : List (Int × Int)} {low : Int} (h : GoodL low l) : GoodL low (lastS l) := good_drop _ l low h
theorem lastS_len (l : List (Int × Int)) : (lastS l).length ≤ 32 ∧ (lastS l).length ≤ l.length := by
  unfold lastS
  rw [List.length_drop]
  omega
theorem lastS_pos {l : List (Int × Int)} (h : 1 ≤ l.length) : 1 ≤ (lastS l).length := by
  unfold lastS
  rw [List.length_drop]
  omega
theorem lastS_mem {l : List (Int × Int)} {s : Int × Int} (h : s ∈ lastS l) : s ∈ l := List.mem_of_mem_drop h

theorem insideAll_of {m R : List (Int × Int)} (h : ∀ s ∈ m, InR R s.1 s.2) : insideAll m R := fun i hi => by
  have := h (m.getD i (0, 0)) (by rw [List.getD_eq_getElem?_getD, List.getElem?_eq_getElem hi]; exact List.getElem_mem _)
  exact this

end Go.Proofs.Ytikkmdbaekdolaa

/- the reference's Inside, SameSpans, SameAck. -/
namespace Go.Proofs.Ytikkmdbaekdolaa
open Go.RowKit Go.Lib
set_option linter.unusedVariables false
set_option maxRecDepth 100000

set_option maxHeartbeats 4000000 in
theorem rInside (xa xb : Option Addr) (ca cb : Nat) (la lb : List (Int × Int)) (hla : la.length ≤ 9223372036854775807) (hlb : lb.length ≤ 9223372036854775807) (B : Bool) (hB : B = true ↔ insideAll la lb) (w : World) (hSa : SRow w xa la) (hSb : SRow w xb lb) :
    Calls Try.prog 118 #[.slice xa la.length ca, .slice xb lb.length cb] w fun e w' => e = .returned (.bool B) ∧ Below w.heap.size w w' := by
  have HB := Lib.hid hB
  have HSA0 := Lib.hid hSa
  have HSB0 := Lib.hid hSb
  obtain ⟨na, hna⟩ : ∃ n, la.length = n := ⟨_, rfl⟩
  obtain ⟨nb, hnb⟩ : ∃ n, lb.length = n := ⟨_, rfl⟩
  have HNA := Lib.hid hna
  have HNB := Lib.hid hnb
  rw [hna] at hla ⊢
  rw [hnb] at hlb ⊢
  clear hB hSa hSb hna hnb
  have hnaI : (na : Int) ≤ 9223372036854775807 := by omega
  have hnbI : (nb : Int) ≤ 9223372036854775807 := by omega
  go_enter Try.func118, Try.ntmps118
  go_wp2_with fail
  go_loopw [5] (fun iv wr => ∃ k : Nat, iv = .int .i64 (k : Int) ∧ k ≤ na ∧ (∀ j, j < k → insideAt lb (la.getD j (0, 0))) ∧ Below w.heap.size w wr) (fun iv _ => (na - intOf iv).toNat)
  case atStart => exact ⟨0, rfl, by omega, fun j hj => absurd hj (by omega), Below.refl _ _⟩
  case round =>
    obtain ⟨k, rfl, hk, hin, bel⟩ := hrel
    have HIN := Lib.hid hin
    have hk0 : (0 : Int) ≤ (k : Int) := by omega
    clear hin
    by_cases hlt : k < na
    · have hlt' : (k : Int) < (na : Int) := by omega
      obtain ⟨ga, oa, hxa, hga, c0, c1⟩ := (HSA0.out.below bel).at k (by rw [HNA.out]; exact hlt)
      obtain ⟨lo, hi, hs⟩ : ∃ lo hi, la.getD k (0, 0) = (lo, hi) := ⟨_, _, rfl⟩
      rw [hs] at c0 c1
      rw [hxa]
      have HSA := Lib.hid hs
      have HSB1 := Lib.hid (HSB0.out.below bel)
      clear hs hxa
      go_wp2_with fail
      go_loopw [6, 7] (fun inv jv wi => ∃ (m : Nat) (I : Bool), jv = .int .i64 (m : Int) ∧ inv = .bool I ∧ m ≤ nb ∧ (I = true ↔ ∃ j, j < m ∧ (lb.getD j (0, 0)).1 ≤ lo ∧ hi ≤ (lb.getD j (0, 0)).2) ∧ Below wr.heap.size wr wi) (fun _ jv _ => (nb - intOf jv).toNat)
      case atStart => exact ⟨0, false, rfl, rfl, by omega, ⟨fun h => by simp at h, fun ⟨j, hj, _⟩ => absurd hj (by omega)⟩, Below.refl _ _⟩
      case round =>
        obtain ⟨m, I, rfl, rfl, hm, hI, Bwi⟩ := hrel
        have HI := Lib.hid hI
        have hm0 : (0 : Int) ≤ (m : Int) := by omega
        have f0 : wr.cell? ⟨ga, oa + k * 2, none⟩ = some (.int .u64 lo) := by rw [Bwi.cell hga]; exact c0
        have f1 : wr.cell? ⟨ga, oa + k * 2 + 1, none⟩ = some (.int .u64 hi) := by rw [Bwi.cell hga]; exact c1
        clear hI
        by_cases hmn : m < nb
        · have hmn' : (m : Int) < (nb : Int) := by omega
          obtain ⟨gb, ob, hxb, hgb, d0, d1⟩ := (HSB1.out.below Bwi).at m (by rw [HNB.out]; exact hmn)
          rw [hxb]
          obtain ⟨blo, bhi, hs⟩ : ∃ lo hi, lb.getD m (0, 0) = (lo, hi) := ⟨_, _, rfl⟩
          rw [hs] at d0 d1
          have HSB := Lib.hid hs
          clear hs hxb
          by_cases hc1 : blo ≤ lo
          · have hd1 : decide (blo ≤ lo) = true := decide_eq_true hc1
            by_cases hc2 : hi ≤ bhi
            · have hd2 : decide (hi ≤ bhi) = true := decide_eq_true hc2
              go_wp2_with fail
              go_quiet (fail)
              go_wp2_with fail
              go_roundw
              case rel => exact ⟨m + 1, true, by congr 1, rfl, by omega, ⟨fun _ => ⟨m, by omega, by rw [HSB.out]; exact hc1, by rw [HSB.out]; exact hc2⟩, fun _ => rfl⟩, Bwi.trans ((belDrewN wr _).mono Bwi.size)⟩
              case measure => simp only [intOf]; omega
            · have hd2 : decide (hi ≤ bhi) = false := decide_eq_false hc2
              go_wp2_with fail
              go_quiet (fail)
              go_wp2_with fail
              go_roundw
              case rel => exact ⟨m + 1, I, by congr 1, rfl, by omega, ⟨fun h => by
                obtain ⟨j, hj, x, y⟩ := HI.out.1 h
                exact ⟨j, by omega, x, y⟩, fun ⟨j, hj, x, y⟩ => HI.out.2 ⟨j, by
                by_cases e : j = m
                · subst e
                  rw [HSB.out] at x y
                  simp only at x y
                  omega
                · omega, x, y⟩⟩, Bwi.trans ((belDrewN wr _).mono Bwi.size)⟩
              case measure => simp only [intOf]; omega
          · have hd1 : decide (blo ≤ lo) = false := decide_eq_false hc1
            go_wp2_with fail
            go_quiet (fail)
            go_wp2_with fail
            go_roundw
            case rel => exact ⟨m + 1, I, by congr 1, rfl, by omega, ⟨fun h => by
              obtain ⟨j, hj, x, y⟩ := HI.out.1 h
              exact ⟨j, by omega, x, y⟩, fun ⟨j, hj, x, y⟩ => HI.out.2 ⟨j, by
              by_cases e : j = m
              · subst e
                rw [HSB.out] at x y
                simp only at x y
                omega
              · omega, x, y⟩⟩, Bwi.trans ((belDrewN wr _).mono Bwi.size)⟩
            case measure => simp only [intOf]; omega
        · have hme : m = nb := by omega
          subst hme
          have hd : decide ((m : Int) < (m : Int)) = false := by simp
          have bF := bel.trans (Bwi.mono bel.size)
          cases I
          · have hBf : B = false := by
              cases B
              · rfl
              · obtain ⟨j, hj, x, y⟩ := HB.out.1 rfl k (by rw [HNA.out]; exact hlt)
                rw [HSA.out] at x y
                exact (HI.out.2 ⟨j, by rw [← HNB.out]; exact hj, x, y⟩).symm
            subst hBf
            go_wp2_with fail
            go_ret
            exact ⟨rfl, bF⟩
          · go_wp2_with fail
            go_roundw
            case rel => exact ⟨k + 1, by congr 1, by omega, fun j hj => by
              by_cases e : j = k
              · subst e
                obtain ⟨i, hi', x, y⟩ := HI.out.1 rfl
                rw [HSA.out]
                exact ⟨i, by rw [HNB.out]; exact hi', x, y⟩
              · exact HIN.out j (by omega), bF⟩
            case measure => simp only [intOf]; omega
    · have hkn : k = na := by omega
      subst hkn
      have hd : decide ((k : Int) < (k : Int)) = false := by simp
      have hBt : B = true := HB.out.2 fun i hi => HIN.out i (by rw [← HNA.out]; exact hi)
      subst hBt
      go_wp2_with fail
      go_ret
      exact ⟨rfl, bel⟩


def ackV (d : AckD) (v u : Value) : Value := .agg #[v, u, .int .u64 d.trig, .int .u64 d.xr, .bool d.par]

theorem AckAt.alloc (w : World) (c0 c1 c2 c3 c4 : Value) : AckAt (w.alloc (.cells #[c0, c1, c2, c3, c4] 74 (0, 0))) w.heap.size c0 c1 c2 c3 c4 := heap_alloc_new w _


end Go.Proofs.Ytikkmdbaekdolaa

