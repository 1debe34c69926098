/- the reference's Inside, SameSpans, SameAck. -/
import Derived.Test.YtofggpmllfhgaaaAckPlain
import Derived.Test.YtofggpmllfhgaaaAckOne
import Derived.BigQuiet
namespace Go.Proofs.Ytofggpmllfhgaaa
open Go.RowKit Go.Lib
set_option linter.unusedVariables false
set_option maxRecDepth 100000

set_option maxHeartbeats 4000000 in
theorem rInside (xa xb : Option Addr) (ca cb : Nat) (la lb : List (Int × Int)) (hla : la.length ≤ 9223372036854775807) (hlb : lb.length ≤ 9223372036854775807) (B : Bool) (hB : B = true ↔ insideAll la lb) (w : World) (hSa : SRow w xa la) (hSb : SRow w xb lb) :
    Calls Try.prog 53 #[.slice xa la.length ca, .slice xb lb.length cb] w fun e w' => e = .returned (.bool B) ∧ Below w.heap.size w w' := by
  have HB := Lib.hid hB
  have HSA0 := Lib.hid hSa
  have HSB0 := Lib.hid hSb
  obtain ⟨na, hna⟩ : ∃ n, la.length = n := ⟨_, rfl⟩
  obtain ⟨nb, hnb⟩ : ∃ n, lb.length = n := ⟨_, rfl⟩
  have HNA := Lib.hid hna
  have HNB := Lib.hid hnb
  rw [hna] at hla ⊢
  rw [hnb] at hlb ⊢
  clear hB hSa hSb hna hnb
  have hnaI : (na : Int) ≤ 9223372036854775807 := by omega
  have hnbI : (nb : Int) ≤ 9223372036854775807 := by omega
  go_enter Try.func53, Try.ntmps53
  go_wp2_with fail
  go_loopw [5] (fun iv wr => ∃ k : Nat, iv = .int .i64 (k : Int) ∧ k ≤ na ∧ (∀ j, j < k → insideAt lb (la.getD j (0, 0))) ∧ Below w.heap.size w wr) (fun iv _ => (na - intOf iv).toNat)
  case atStart => exact ⟨0, rfl, by omega, fun j hj => absurd hj (by omega), Below.refl _ _⟩
  case round =>
    obtain ⟨k, rfl, hk, hin, bel⟩ := hrel
    have HIN := Lib.hid hin
    have hk0 : (0 : Int) ≤ (k : Int) := by omega
    clear hin
    by_cases hlt : k < na
    · have hlt' : (k : Int) < (na : Int) := by omega
      obtain ⟨ga, oa, hxa, hga, c0, c1⟩ := (HSA0.out.below bel).at k (by rw [HNA.out]; exact hlt)
      obtain ⟨lo, hi, hs⟩ : ∃ lo hi, la.getD k (0, 0) = (lo, hi) := ⟨_, _, rfl⟩
      rw [hs] at c0 c1
      rw [hxa]
      have HSA := Lib.hid hs
      have HSB1 := Lib.hid (HSB0.out.below bel)
      clear hs hxa
      go_wp2_with fail
      go_loopw [6, 7] (fun inv jv wi => ∃ (m : Nat) (I : Bool), jv = .int .i64 (m : Int) ∧ inv = .bool I ∧ m ≤ nb ∧ (I = true ↔ ∃ j, j < m ∧ (lb.getD j (0, 0)).1 ≤ lo ∧ hi ≤ (lb.getD j (0, 0)).2) ∧ Below wr.heap.size wr wi) (fun _ jv _ => (nb - intOf jv).toNat)
      case atStart => exact ⟨0, false, rfl, rfl, by omega, ⟨fun h => by simp at h, fun ⟨j, hj, _⟩ => absurd hj (by omega)⟩, Below.refl _ _⟩
      case round =>
        obtain ⟨m, I, rfl, rfl, hm, hI, Bwi⟩ := hrel
        have HI := Lib.hid hI
        have hm0 : (0 : Int) ≤ (m : Int) := by omega
        have f0 : wr.cell? ⟨ga, oa + k * 2, none⟩ = some (.int .u64 lo) := by rw [Bwi.cell hga]; exact c0
        have f1 : wr.cell? ⟨ga, oa + k * 2 + 1, none⟩ = some (.int .u64 hi) := by rw [Bwi.cell hga]; exact c1
        clear hI
        by_cases hmn : m < nb
        · have hmn' : (m : Int) < (nb : Int) := by omega
          obtain ⟨gb, ob, hxb, hgb, d0, d1⟩ := (HSB1.out.below Bwi).at m (by rw [HNB.out]; exact hmn)
          rw [hxb]
          obtain ⟨blo, bhi, hs⟩ : ∃ lo hi, lb.getD m (0, 0) = (lo, hi) := ⟨_, _, rfl⟩
          rw [hs] at d0 d1
          have HSB := Lib.hid hs
          clear hs hxb
          by_cases hc1 : blo ≤ lo
          · have hd1 : decide (blo ≤ lo) = true := decide_eq_true hc1
            by_cases hc2 : hi ≤ bhi
            · have hd2 : decide (hi ≤ bhi) = true := decide_eq_true hc2
              go_wp2_with fail
              go_quiet (fail)
              go_wp2_with fail
              go_roundw
              case rel => exact ⟨m + 1, true, by congr 1, rfl, by omega, ⟨fun _ => ⟨m, by omega, by rw [HSB.out]; exact hc1, by rw [HSB.out]; exact hc2⟩, fun _ => rfl⟩, Bwi.trans ((belDrewN wr _).mono Bwi.size)⟩
              case measure => simp only [intOf]; omega
            · have hd2 : decide (hi ≤ bhi) = false := decide_eq_false hc2
              go_wp2_with fail
              go_quiet (fail)
              go_wp2_with fail
              go_roundw
              case rel => exact ⟨m + 1, I, by congr 1, rfl, by omega, ⟨fun h => by
                obtain ⟨j, hj, x, y⟩ := HI.out.1 h
                exact ⟨j, by omega, x, y⟩, fun ⟨j, hj, x, y⟩ => HI.out.2 ⟨j, by
                by_cases e : j = m
                · subst e
                  rw [HSB.out] at x y
                  simp only at x y
                  omega
                · omega, x, y⟩⟩, Bwi.trans ((belDrewN wr _).mono Bwi.size)⟩
              case measure => simp only [intOf]; omega
          · have hd1 : decide (blo ≤ lo) = false := decide_eq_false hc1
            go_wp2_with fail
            go_quiet (fail)
            go_wp2_with fail
            go_roundw
            case rel => exact ⟨m + 1, I, by congr 1, rfl, by omega, ⟨fun h => by
              obtain ⟨j, hj, x, y⟩ := HI.out.1 h
              exact ⟨j, by omega, x, y⟩, fun ⟨j, hj, x, y⟩ => HI.out.2 ⟨j, by
              by_cases e : j = m
              · subst e
                rw [HSB.out] at x y
                simp only at x y
                omega
              · omega, x, y⟩⟩, Bwi.trans ((belDrewN wr _).mono Bwi.size)⟩
            case measure => simp only [intOf]; omega
        · have hme : m = nb := by omega
          subst hme
          have hd : decide ((m : Int) < (m : Int)) = false := by simp
          have bF := bel.trans (Bwi.mono bel.size)
          cases I
          · have hBf : B = false := by
              cases B
              · rfl
              · obtain ⟨j, hj, x, y⟩ := HB.out.1 rfl k (by rw [HNA.out]; exact hlt)
                rw [HSA.out] at x y
                exact (HI.out.2 ⟨j, by rw [← HNB.out]; exact hj, x, y⟩).symm
            subst hBf
            go_wp2_with fail
            go_ret
            exact ⟨rfl, bF⟩
          · go_wp2_with fail
            go_roundw
            case rel => exact ⟨k + 1, by congr 1, by omega, fun j hj => by
              by_cases e : j = k
              · subst e
                obtain ⟨i, hi', x, y⟩ := HI.out.1 rfl
                rw [HSA.out]
                exact ⟨i, by rw [HNB.out]; exact hi', x, y⟩
              · exact HIN.out j (by omega), bF⟩
            case measure => simp only [intOf]; omega
    · have hkn : k = na := by omega
      subst hkn
      have hd : decide ((k : Int) < (k : Int)) = false := by simp
      have hBt : B = true := HB.out.2 fun i hi => HIN.out i (by rw [← HNA.out]; exact hi)
      subst hBt
      go_wp2_with fail
      go_ret
      exact ⟨rfl, bel⟩

set_option maxHeartbeats 2000000 in
theorem rSameSpans (xa xb : Option Addr) (ca cb : Nat) (l : List (Int × Int)) (hl : l.length ≤ 9223372036854775807) (w : World) (hSa : SRow w xa l) (hSb : SRow w xb l) :
    Calls Try.prog 58 #[.slice xa l.length ca, .slice xb l.length cb] w fun e w' => e = .returned (.bool true) ∧ Below w.heap.size w w' := by
  have HSA0 := Lib.hid hSa
  have HSB0 := Lib.hid hSb
  obtain ⟨n, hn⟩ : ∃ n, l.length = n := ⟨_, rfl⟩
  have HN := Lib.hid hn
  rw [hn] at hl ⊢
  clear hSa hSb hn
  have hnI : (n : Int) ≤ 9223372036854775807 := by omega
  go_enter Try.func58, Try.ntmps58
  go_wp2_with fail
  go_loopw [5] (fun iv wr => ∃ k : Nat, iv = .int .i64 (k : Int) ∧ k ≤ n ∧ Below w.heap.size w wr) (fun iv _ => (n - intOf iv).toNat)
  case atStart => exact ⟨0, rfl, by omega, Below.refl _ _⟩
  case round =>
    obtain ⟨k, rfl, hk, bel⟩ := hrel
    have hk0 : (0 : Int) ≤ (k : Int) := by omega
    by_cases hlt : k < n
    · have hlt' : (k : Int) < (n : Int) := by omega
      obtain ⟨ga, oa, hxa, hga, c0, c1⟩ := (HSA0.out.below bel).at k (by rw [HN.out]; exact hlt)
      obtain ⟨gb, ob, hxb, hgb, d0, d1⟩ := (HSB0.out.below bel).at k (by rw [HN.out]; exact hlt)
      obtain ⟨lo, hi, hs⟩ : ∃ lo hi, l.getD k (0, 0) = (lo, hi) := ⟨_, _, rfl⟩
      rw [hs] at c0 c1 d0 d1
      rw [hxa, hxb]
      clear hs hxa hxb
      go_wp2_with fail
      go_quiet (fail)
      go_wp2_with fail
      go_roundw
      case rel => exact ⟨k + 1, by congr 1, by omega, bel.trans ((belDrewN wr _).mono bel.size)⟩
      case measure => simp only [intOf]; omega
    · have hkn : k = n := by omega
      subst hkn
      have hd : decide ((k : Int) < (k : Int)) = false := by simp
      go_wp2_with fail
      go_ret
      exact ⟨rfl, bel⟩

def ackV (d : AckD) (v u : Value) : Value := .agg #[v, u, .int .u64 d.trig, .int .u64 d.xr, .bool d.par]

theorem AckAt.alloc (w : World) (c0 c1 c2 c3 c4 : Value) : AckAt (w.alloc (.cells #[c0, c1, c2, c3, c4] 52 (0, 0))) w.heap.size c0 c1 c2 c3 c4 := heap_alloc_new w _

set_option maxHeartbeats 2000000 in
theorem rSameAck (d : AckD) (v1 u1 v2 u2 : Value) (w : World) (hs : d.spans.length ≤ 32) (hm : d.marked.length ≤ 32) (h1 : RowAt w v1 d.spans) (k1 : RowAt w u1 d.marked) (h2 : RowAt w v2 d.spans) (k2 : RowAt w u2 d.marked) :
    Calls Try.prog 34 #[ackV d v1 u1, ackV d v2 u2] w fun e w' => e = .returned (.bool true) ∧ Below w.heap.size w w' := by
  obtain ⟨spans, marked, t, x, par⟩ := d
  simp only at hs hm h1 k1 h2 k2
  obtain ⟨x1, c1, rfl, S1⟩ := h1
  obtain ⟨y1, d1, rfl, M1⟩ := k1
  obtain ⟨x2, c2, rfl, S2⟩ := h2
  obtain ⟨y2, d2, rfl, M2⟩ := k2
  unfold ackV
  simp only
  go_enter Try.func34, Try.ntmps34
  go_wp2_with fail
  obtain ⟨w2, hw2⟩ : ∃ w2, w2 = (w.alloc (.cells #[.slice x1 spans.length c1, .slice y1 marked.length d1, .int .u64 t, .int .u64 x, .bool par] 52 (0, 0))).alloc (.cells #[.slice x2 spans.length c2, .slice y2 marked.length d2, .int .u64 t, .int .u64 x, .bool par] 52 (0, 0)) := ⟨_, rfl⟩
  have b2 : Below w.heap.size w w2 := by rw [hw2]; exact ((Below.refl _ _).alloc (Nat.le_refl _) _).alloc (by simp) _
  have A2 : AckAt w2 w.heap.size (.slice x1 spans.length c1) (.slice y1 marked.length d1) (.int .u64 t) (.int .u64 x) (.bool par) := by
    rw [hw2]
    exact (AckAt.alloc w _ _ _ _ _).belowB (by simp) ((Below.refl (w.heap.size + 1) _).alloc (by simp) _)
  have C2 : AckAt w2 (w.heap.size + 1) (.slice x2 spans.length c2) (.slice y2 marked.length d2) (.int .u64 t) (.int .u64 x) (.bool par) := by
    rw [hw2]
    have := AckAt.alloc (w.alloc (.cells #[.slice x1 spans.length c1, .slice y1 marked.length d1, .int .u64 t, .int .u64 x, .bool par] 52 (0, 0))) (.slice x2 spans.length c2) (.slice y2 marked.length d2) (.int .u64 t) (.int .u64 x) (.bool par)
    rwa [show (w.alloc (.cells #[.slice x1 spans.length c1, .slice y1 marked.length d1, .int .u64 t, .int .u64 x, .bool par] 52 (0, 0))).heap.size = w.heap.size + 1 by simp] at this
  rw [← hw2]
  clear hw2
  refine (rSameSpans x1 x2 c1 c2 spans (by omega) w2 (S1.below b2) (S2.below b2)).mono ?_; rintro e' w3 ⟨rfl, b3⟩
  have A3 := A2.belowB A2.lt b3
  have C3 := C2.belowB C2.lt b3
  have b03 := b2.trans (b3.mono b2.size)
  obtain ⟨p0, p1, p2, p3, p4⟩ := A3.cells.1
  obtain ⟨q0, q1, q2, q3, q4⟩ := C3.cells.1
  clear A2 C2 b3
  go_wp2_with fail
  refine (rSameSpans y1 y2 d1 d2 marked (by omega) w3 (M1.below b03) (M2.below b03)).mono ?_; rintro e' w4 ⟨rfl, b4⟩
  have A4 := A3.belowB A3.lt b4
  have C4 := C3.belowB C3.lt b4
  have b04 := b03.trans (b4.mono b03.size)
  obtain ⟨r0, r1, r2, r3, r4⟩ := A4.cells.1
  obtain ⟨s0, s1, s2, s3, s4⟩ := C4.cells.1
  clear A3 C3 b4 p0 p1 p2 p3 p4 q0 q1 q2 q3 q4
  go_wp2_with fail
  go_ret
  exact ⟨rfl, b04⟩

end Go.Proofs.Ytofggpmllfhgaaa
