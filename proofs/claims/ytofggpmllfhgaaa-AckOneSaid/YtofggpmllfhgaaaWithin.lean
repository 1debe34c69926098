/- package span: Within of any two rows. -/
import Derived.Test.YtofggpmllfhgaaaGood
import Derived.BigQuiet
namespace Go.Proofs.Ytofggpmllfhgaaa
open Go.RowKit Go.Lib
set_option linter.unusedVariables false
set_option maxRecDepth 100000

theorem belDrew (w : World) : Below w.heap.size w w.drew := ⟨rfl, rfl, rfl, Nat.le_refl _, fun _ _ => rfl⟩
theorem belDrewN (w : World) (n : Nat) : Below w.heap.size w (w.drewN n) := Gr.below (Gr.drewN (Gr.refl w) n)

/-- a row, or none -/
def SRow (w : World) (x : Option Addr) (l : List (Int × Int)) : Prop := l = [] ∨ ∃ g o, x = some ⟨g, o, none⟩ ∧ SpansAt w g o l
theorem SRow.below {w w' : World} {x : Option Addr} {l : List (Int × Int)} (h : SRow w x l) (hb : Below w.heap.size w w') : SRow w' x l := by
  rcases h with h | ⟨g, o, h1, h2⟩
  · exact .inl h
  · exact .inr ⟨g, o, h1, h2.below hb⟩
theorem SRow.at {w : World} {x : Option Addr} {l : List (Int × Int)} (h : SRow w x l) (k : Nat) (hk : k < l.length) : ∃ g o, x = some ⟨g, o, none⟩ ∧ g < w.heap.size ∧ w.cell? ⟨g, o + k * 2, none⟩ = some (.int .u64 (l.getD k (0, 0)).1) ∧ w.cell? ⟨g, o + k * 2 + 1, none⟩ = some (.int .u64 (l.getD k (0, 0)).2) := by
  rcases h with rfl | ⟨g, o, h1, h2⟩
  · simp at hk
  · exact ⟨g, o, h1, h2.1, h2.2 k hk⟩

def insideAt (l : List (Int × Int)) (s : Int × Int) : Prop := ∃ m, m < l.length ∧ (l.getD m (0, 0)).1 ≤ s.1 ∧ s.2 ≤ (l.getD m (0, 0)).2
def insideAll (a l : List (Int × Int)) : Prop := ∀ i, i < a.length → insideAt l (a.getD i (0, 0))
def withinAll (a l : List (Int × Int)) : Prop := goodAll a ∧ goodAll l ∧ insideAll a l

theorem goodAll_lt {l : List (Int × Int)} (h : goodAll l) (m : Nat) : ∀ j, m < j → j < l.length → (l.getD m (0, 0)).2 + 1 < (l.getD j (0, 0)).1
  | 0, h1, _ => absurd h1 (by omega)
  | j + 1, h1, h2 => by
    have a := (h (j + 1) h2).2 (by omega)
    rw [Nat.add_sub_cancel] at a
    by_cases e : m = j
    · rw [e]; exact a
    · have b := goodAll_lt h m j (by omega) (by omega)
      have c := (h j (by omega)).1.1
      omega

theorem not_inside {l : List (Int × Int)} (h : goodAll l) (m : Nat) {lo hi : Int} (hs : lo ≤ hi) (hm : ∀ j, j < m → (l.getD j (0, 0)).2 < lo) (h2 : m < l.length → lo < (l.getD m (0, 0)).1 ∨ lo ≤ (l.getD m (0, 0)).2 ∧ (l.getD m (0, 0)).2 < hi) : ¬ insideAt l (lo, hi) := by
  rintro ⟨j, hj, h3, h4⟩
  simp only at h3 h4
  rcases Nat.lt_trichotomy j m with e | e | e
  · have := hm j e
    omega
  · subst e
    have := h2 hj
    omega
  · have a := h2 (by omega)
    have b := goodAll_lt h m j e hj
    have c := (h m (by omega)).1.1
    omega

theorem sGoodRow (x : Option Addr) (c : Nat) (l : List (Int × Int)) (hw : ∀ s ∈ l, W64 s.1 ∧ W64 s.2) (hl : l.length ≤ 9223372036854775807) (B : Bool) (hB : B = true ↔ goodAll l) (w : World) (hS : SRow w x l) :
    Calls Try.prog 63 #[.slice x l.length c] w fun e w' => e = .returned (.bool B) ∧ Below w.heap.size w w' := by
  rcases hS with rfl | ⟨g, o, rfl, hS⟩
  · have hBt : B = true := hB.2 (fun i hi => absurd hi (by simp))
    subst hBt
    clear hB hw hl
    go_enter Try.func63, Try.ntmps63
    go_wp2_with fail
    refine wp_loop_rounds 1 ?_
    rw [rounds_succ]
    go_wp2_with fail
    go_ret
    exact ⟨rfl, Below.refl _ _⟩
  · exact sGoodAny g o c l hw hl B hB w hS

set_option maxHeartbeats 8000000 in
theorem sWithin (xa xb : Option Addr) (ca cb : Nat) (la lb : List (Int × Int)) (hwa : ∀ s ∈ la, W64 s.1 ∧ W64 s.2) (hwb : ∀ s ∈ lb, W64 s.1 ∧ W64 s.2) (hla : la.length ≤ 9223372036854775807) (hlb : lb.length ≤ 9223372036854775807) (B : Bool) (hB : B = true ↔ withinAll la lb) (w : World) (hSa : SRow w xa la) (hSb : SRow w xb lb) :
    Calls Try.prog 54 #[.slice xa la.length ca, .slice xb lb.length cb] w fun e w' => e = .returned (.bool B) ∧ Below w.heap.size w w' := by
  have HWA := Lib.hid hwa
  have HWB := Lib.hid hwb
  have HB := Lib.hid hB
  clear hwa hwb hB
  go_enter Try.func54, Try.ntmps54
  go_wp2_with fail
  by_cases ga : goodAll la
  case neg =>
    have hBf : B = false := by
      cases B
      · rfl
      · exact absurd (HB.out.1 rfl).1 ga
    subst hBf
    refine (sGoodRow xa ca la HWA.out hla false ⟨fun h => by simp at h, fun h => absurd h ga⟩ _ hSa).mono ?_; rintro e' w1 ⟨rfl, b1⟩
    go_wp2_with fail
    go_ret
    exact ⟨rfl, b1⟩
  refine (sGoodRow xa ca la HWA.out hla true ⟨fun _ => ga, fun _ => rfl⟩ _ hSa).mono ?_; rintro e' w1 ⟨rfl, b1⟩
  go_wp2_with fail
  by_cases gb : goodAll lb
  case neg =>
    have hBf : B = false := by
      cases B
      · rfl
      · exact absurd (HB.out.1 rfl).2.1 gb
    subst hBf
    refine (sGoodRow xb cb lb HWB.out hlb false ⟨fun h => by simp at h, fun h => absurd h gb⟩ _ (hSb.below b1)).mono ?_; rintro e' w2 ⟨rfl, b2⟩
    go_wp2_with fail
    go_ret
    exact ⟨rfl, b1.trans (b2.mono b1.size)⟩
  refine (sGoodRow xb cb lb HWB.out hlb true ⟨fun _ => gb, fun _ => rfl⟩ _ (hSb.below b1)).mono ?_; rintro e' w2 ⟨rfl, b2⟩
  have b02 := b1.trans (b2.mono b1.size)
  have HSA0 := Lib.hid (hSa.below b02)
  have HSB0 := Lib.hid (hSb.below b02)
  have GA := Lib.hid ga
  have GB := Lib.hid gb
  obtain ⟨na, hna⟩ : ∃ n, la.length = n := ⟨_, rfl⟩
  obtain ⟨nb, hnb⟩ : ∃ n, lb.length = n := ⟨_, rfl⟩
  have HNA := Lib.hid hna
  have HNB := Lib.hid hnb
  rw [hna] at hla ⊢
  rw [hnb] at hlb ⊢
  clear hSa hSb ga gb b1 b2 hna hnb
  have hnaI : (na : Int) ≤ 9223372036854775807 := by omega
  have hnbI : (nb : Int) ≤ 9223372036854775807 := by omega
  go_wp2_with fail
  go_loopw [5, 18] (fun kv iv wr => ∃ (k m : Nat), iv = .int .i64 (k : Int) ∧ kv = .int .i64 (m : Int) ∧ k ≤ na ∧ m ≤ nb ∧ (∀ j, j < k → insideAt lb (la.getD j (0, 0))) ∧ (∀ j, j < m → k < na → (lb.getD j (0, 0)).2 < (la.getD k (0, 0)).1) ∧ Below w2.heap.size w2 wr) (fun _ iv _ => (na - intOf iv).toNat)
  case atStart => exact ⟨0, 0, rfl, rfl, by omega, by omega, fun j hj => absurd hj (by omega), fun j hj => absurd hj (by omega), Below.refl _ _⟩
  case round =>
    obtain ⟨k, m0, rfl, rfl, hk, hm0, hin, hbeh, bel⟩ := hrel
    have HIN := Lib.hid hin
    have HBEH := Lib.hid hbeh
    have hk0 : (0 : Int) ≤ (k : Int) := by omega
    clear hin hbeh
    by_cases hlt : k < na
    · have hlt' : (k : Int) < (na : Int) := by omega
      obtain ⟨ga, oa, rfl, hga, c0, c1⟩ := (HSA0.out.below bel).at k (by rw [HNA.out]; exact hlt)
      have HSB1 := Lib.hid (HSB0.out.below bel)
      have hgk := GA.out k (by rw [HNA.out]; exact hlt)
      obtain ⟨lo, hi, hs⟩ : ∃ lo hi, la.getD k (0, 0) = (lo, hi) := ⟨_, _, rfl⟩
      rw [hs] at c0 c1
      have hlh : lo ≤ hi ∧ hi ≤ 4611686018427387903 := by have h := hgk.1; rw [hs] at h; exact h
      have HSA := Lib.hid hs
      clear hs hgk
      go_wp2_with fail
      obtain ⟨w3, hw3⟩ : ∃ w3, w3 = wr.alloc (.cells #[.int .u64 lo, .int .u64 hi] 84 (0, 0)) := ⟨_, rfl⟩
      have b3 : Below wr.heap.size wr w3 := by rw [hw3]; exact (Below.refl _ _).alloc (Nat.le_refl _) _
      have e0 : w3.cell? ⟨wr.heap.size, 0, none⟩ = some (.int .u64 lo) := by rw [hw3]; go_simp
      have e1 : w3.cell? ⟨wr.heap.size, 1, none⟩ = some (.int .u64 hi) := by rw [hw3]; go_simp
      have z3 : wr.heap.size < w3.heap.size := by rw [hw3]; simp
      have HSB3 := Lib.hid (HSB1.out.below b3)
      have bel3 := bel.trans (b3.mono bel.size)
      rw [← hw3]
      obtain ⟨P, hP⟩ : ∃ P, P = wr.heap.size := ⟨_, rfl⟩
      rw [← hP] at e0 e1 z3 ⊢
      clear hw3 b3 c0 c1 HSB1 bel hP
      go_loopw [5] (fun kv wi => ∃ m : Nat, kv = .int .i64 (m : Int) ∧ m ≤ nb ∧ (∀ j, j < m → (lb.getD j (0, 0)).2 < lo) ∧ Below w3.heap.size w3 wi) (fun kv _ => (nb - intOf kv).toNat)
      case atStart => exact ⟨m0, rfl, hm0, fun j hj => by have h := HBEH.out j hj hlt; rw [HSA.out] at h; exact h, Below.refl _ _⟩
      case round =>
        obtain ⟨m, rfl, hm, hall, Bwi⟩ := hrel
        have HALL := Lib.hid hall
        have hm00 : (0 : Int) ≤ (m : Int) := by omega
        clear hall
        have f0 : wr.cell? ⟨P, 0, none⟩ = some (.int .u64 lo) := by rw [Bwi.cell z3]; exact e0
        have f1 : wr.cell? ⟨P, 1, none⟩ = some (.int .u64 hi) := by rw [Bwi.cell z3]; exact e1
        by_cases hmn : m < nb
        · have hmn' : (m : Int) < (nb : Int) := by omega
          have hne : ((m : Int) == (nb : Int)) = false := by simp; omega
          obtain ⟨gb, ob, hxb, hgb, d0, d1⟩ := (HSB3.out.below Bwi).at m (by rw [HNB.out]; exact hmn)
          rw [hxb]
          obtain ⟨blo, bhi, hs⟩ : ∃ lo hi, lb.getD m (0, 0) = (lo, hi) := ⟨_, _, rfl⟩
          rw [hs] at d0 d1
          have HSB := Lib.hid hs
          clear hs
          have HXB := Lib.hid hxb
          clear hxb
          by_cases hc : bhi < lo
          · have hd : decide (bhi < lo) = true := decide_eq_true hc
            go_wp2_with fail
            go_quiet (fail)
            go_wp2_with fail
            go_roundw
            case rel => exact ⟨m + 1, by congr 1, by omega, fun j hj => by
              by_cases e : j = m
              · subst e; rw [HSB.out]; exact hc
              · exact HALL.out j (by omega), Bwi.trans ((belDrewN wr _).mono Bwi.size)⟩
            case measure => simp only [intOf]; omega
          · have hd : decide (bhi < lo) = false := decide_eq_false hc
            go_wp2_with fail
            go_quiet (fail)
            go_wp2_with fail
            obtain ⟨w4, hw4⟩ : ∃ w4, w4 = wr.drewN nq := ⟨_, rfl⟩
            have q0 : w4.cell? ⟨P, 0, none⟩ = some (.int .u64 lo) := by rw [hw4]; exact f0
            have q1 : w4.cell? ⟨P, 1, none⟩ = some (.int .u64 hi) := by rw [hw4]; exact f1
            have r0 : w4.cell? ⟨gb, ob + m * 2, none⟩ = some (.int .u64 blo) := by rw [hw4]; exact d0
            have r1 : w4.cell? ⟨gb, ob + m * 2 + 1, none⟩ = some (.int .u64 bhi) := by rw [hw4]; exact d1
            have b4 : Below w3.heap.size w3 w4 := by rw [hw4]; exact Bwi.trans ((belDrewN wr _).mono Bwi.size)
            have bW : Below w2.heap.size w2 w4 := bel3.trans (b4.mono bel3.size)
            rw [← hw4]
            clear hw4 f0 f1 d0 d1 Bwi hd b4
            have bF : ∀ n, Below w.heap.size w (w4.drewN n) := fun n => b02.trans ((bW.trans ((belDrewN w4 n).mono bW.size)).mono b02.size)
            by_cases hc1 : lo < blo
            · have hd1 : decide (lo < blo) = true := decide_eq_true hc1
              have hBf : B = false := by
                cases B
                · rfl
                · exact absurd ((HB.out.1 rfl).2.2 k (by rw [HNA.out]; exact hlt)) (by rw [HSA.out]; exact not_inside GB.out m hlh.1 HALL.out (fun _ => by rw [HSB.out]; exact .inl hc1))
              subst hBf
              go_quiet (fail)
              go_wp2_with fail
              go_ret
              exact ⟨rfl, bF _⟩
            have hd1 : decide (lo < blo) = false := decide_eq_false hc1
            by_cases hc2 : bhi < hi
            · have hd2 : decide (bhi < hi) = true := decide_eq_true hc2
              have hBf : B = false := by
                cases B
                · rfl
                · exact absurd ((HB.out.1 rfl).2.2 k (by rw [HNA.out]; exact hlt)) (by rw [HSA.out]; exact not_inside GB.out m hlh.1 HALL.out (fun _ => by rw [HSB.out]; exact .inr ⟨by simp only; omega, hc2⟩))
              subst hBf
              go_quiet (fail)
              go_wp2_with fail
              go_ret
              exact ⟨rfl, bF _⟩
            have hd2 : decide (bhi < hi) = false := decide_eq_false hc2
            go_quiet (fail)
            go_wp2_with fail
            rw [← HXB.out]
            go_roundw
            case rel =>
              have r1 : ∀ j, j < k + 1 → insideAt lb (la.getD j (0, 0)) := fun j hj => by
                by_cases e : j = k
                · subst e; rw [HSA.out]; exact ⟨m, by rw [HNB.out]; exact hmn, by rw [HSB.out]; simp only; omega, by rw [HSB.out]; simp only; omega⟩
                · exact HIN.out j (by omega)
              have r2 : ∀ j, j < m → k + 1 < na → (lb.getD j (0, 0)).2 < (la.getD (k + 1) (0, 0)).1 := fun j hj hk1 => by
                have a := HALL.out j hj
                have b := goodAll_lt GA.out k (k + 1) (by omega) (by rw [HNA.out]; exact hk1)
                rw [HSA.out] at b
                simp only at b
                omega
              refine ⟨u4, .int .i64 (m : Int), _, .int .i64 ((k : Int) + 1), ⟨k + 1, by congr 1, m, rfl, by omega, hm, ?_, ?_, bW.trans ((belDrewN w4 _).mono bW.size)⟩, rfl, rfl, rfl, rfl, rfl, rfl⟩
              · simpa using r1
              · simpa using r2
            case measure => simp only [intOf]; omega
        · have hme : m = nb := by omega
          subst hme
          have hd : decide ((m : Int) < (m : Int)) = false := by simp
          go_wp2_with fail
          go_quiet (fail)
          go_wp2_with fail
          obtain ⟨w4, hw4⟩ : ∃ w4, w4 = wr.drewN nq := ⟨_, rfl⟩
          have b4 : Below w3.heap.size w3 w4 := by rw [hw4]; exact Bwi.trans ((belDrewN wr _).mono Bwi.size)
          have bW : Below w2.heap.size w2 w4 := bel3.trans (b4.mono bel3.size)
          rw [← hw4]
          clear hw4 f0 f1 Bwi b4
          have bF : ∀ n, Below w.heap.size w (w4.drewN n) := fun n => b02.trans ((bW.trans ((belDrewN w4 n).mono bW.size)).mono b02.size)
          have hBf : B = false := by
            cases B
            · rfl
            · exact absurd ((HB.out.1 rfl).2.2 k (by rw [HNA.out]; exact hlt)) (by rw [HSA.out]; exact not_inside GB.out m hlh.1 HALL.out (fun h => absurd h (by rw [HNB.out]; omega)))
          subst hBf
          go_quiet (fail)
          go_wp2_with fail
          go_ret
          exact ⟨rfl, bF _⟩
    · have hkn : k = na := by omega
      subst hkn
      have hd : decide ((k : Int) < (k : Int)) = false := by simp
      have hBt : B = true := HB.out.2 ⟨GA.out, GB.out, fun i hi => HIN.out i (by rw [← HNA.out]; exact hi)⟩
      subst hBt
      go_wp2_with fail
      go_ret
      exact ⟨rfl, b02.trans (bel.mono b02.size)⟩

end Go.Proofs.Ytofggpmllfhgaaa
