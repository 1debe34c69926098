/- the reference's Good and MayAck, ack.May, of any rows. -/
import Derived.Test.YtofggpmllfhgaaaInside
namespace Go.Proofs.Ytofggpmllfhgaaa
open Go.RowKit Go.Lib
set_option linter.unusedVariables false
set_option maxRecDepth 100000

set_option maxHeartbeats 8000000 in
theorem rGoodAny (x : Option Addr) (c : Nat) (l : List (Int × Int)) (hw : ∀ s ∈ l, W64 s.1 ∧ W64 s.2) (hl : l.length ≤ 9223372036854775807) (B : Bool) (hB : B = true ↔ goodAll l) (w : World) (hS : SRow w x l) :
    Calls Try.prog 52 #[.slice x l.length c] w fun e w' => e = .returned (.bool B) ∧ Below w.heap.size w w' := by
  have HW := Lib.hid hw
  have HS := Lib.hid hS
  have HB := Lib.hid hB
  obtain ⟨n, hn⟩ : ∃ n, l.length = n := ⟨_, rfl⟩
  have HN := Lib.hid hn
  rw [hn] at hl ⊢
  clear hw hS hB hn
  have hnI : (n : Int) ≤ 9223372036854775807 := by omega
  go_enter Try.func52, Try.ntmps52
  go_wp2_with fail
  go_loopw [3] (fun iv wr => ∃ k : Nat, iv = .int .i64 (k : Int) ∧ k ≤ n ∧ (∀ j, j < k → goodAt l j) ∧ Below w.heap.size w wr) (fun iv _ => (n - intOf iv).toNat)
  case atStart => exact ⟨0, rfl, by omega, fun j hj => absurd hj (by omega), Below.refl _ _⟩
  case round =>
    obtain ⟨k, rfl, hk, hgood, bel⟩ := hrel
    have HG := Lib.hid hgood
    clear hgood
    have hk0 : (0 : Int) ≤ (k : Int) := by omega
    by_cases hlt : k < n
    · have hlt' : (k : Int) < (n : Int) := by omega
      obtain ⟨ga, oa, hxa, hga, c0, c1⟩ := (HS.out.below bel).at k (by rw [HN.out]; exact hlt)
      obtain ⟨lo, hi, hs⟩ : ∃ lo hi, l.getD k (0, 0) = (lo, hi) := ⟨_, _, rfl⟩
      rw [hs] at c0 c1
      have HSK := Lib.hid hs
      clear hs
      by_cases h1 : lo ≤ hi
      case neg =>
        rw [hxa]
        have hd1 : decide (hi < lo) = true := decide_eq_true (by omega)
        have hBf : B = false := by
          cases B
          · rfl
          · exact absurd (by have h := (HB.out.1 rfl k (by rw [HN.out]; exact hlt)).1.1; rw [HSK.out] at h; exact h) h1
        subst hBf
        go_wp2_with fail
        go_quiet (fail)
        go_wp2_with fail
        go_ret
        exact ⟨rfl, bel.trans ((belDrewN wr _).mono bel.size)⟩
      have hd1 : decide (hi < lo) = false := decide_eq_false (by omega)
      by_cases h2 : hi ≤ 4611686018427387903
      case neg =>
        rw [hxa]
        have hd2 : decide (4611686018427387903 < hi) = true := decide_eq_true (by omega)
        have hBf : B = false := by
          cases B
          · rfl
          · exact absurd (by have h := (HB.out.1 rfl k (by rw [HN.out]; exact hlt)).1.2; rw [HSK.out] at h; exact h) h2
        subst hBf
        go_wp2_with fail
        go_quiet (fail)
        go_wp2_with fail
        go_ret
        exact ⟨rfl, bel.trans ((belDrewN wr _).mono bel.size)⟩
      have hd2 : decide (4611686018427387903 < hi) = false := decide_eq_false (by omega)
      rcases k with _ | j
      · rw [hxa]
        have hz : ((0 : Nat) : Int) = 0 := rfl
        rw [hz] at hlt' hk0 ⊢
        rw [Nat.zero_mul, Nat.add_zero] at c0 c1
        have HGK : Hid (goodAt l 0) := Lib.hid ⟨by rw [HSK.out]; exact ⟨h1, h2⟩, fun h => absurd h (by omega)⟩
        go_wp2_with fail
        go_quiet (fail)
        go_wp2_with fail
        go_roundw
        case rel => exact ⟨1, rfl, by omega, fun i hi => by
          by_cases e : i = 0
          · subst e
            exact HGK.out
          · exact HG.out i (by omega), bel.trans ((belDrewN wr _).mono bel.size)⟩
        case measure => simp only [intOf]; omega
      obtain ⟨pl, ph, hpj⟩ : ∃ a b, l.getD j (0, 0) = (a, b) := ⟨_, _, rfl⟩
      have hjr := (HG.out j (by omega)).1
      rw [hpj] at hjr
      have hjm : (pl, ph) ∈ l := by
        rw [← hpj, List.getD_eq_getElem?_getD, List.getElem?_eq_getElem (by rw [HN.out]; omega)]
        exact List.getElem_mem _
      have hpw := (HW.out _ hjm).2
      have hph : 0 ≤ ph ∧ ph ≤ 4611686018427387903 := ⟨hpw.1, hjr.2⟩
      obtain ⟨gb, ob, hxb, hgb, e0, e1⟩ := (HS.out.below bel).at j (by rw [HN.out]; omega)
      rw [hxa] at hxb
      injection hxb with hxb
      injection hxb with q1 q2 q3
      subst q1 q2
      rw [hpj] at e1
      have e1 : wr.cell? ⟨ga, oa + j * 2 + 1, none⟩ = some (.int .u64 ph) := e1
      rw [hxa]
      have HPJ := Lib.hid hpj
      have hjI : (0 : Int) ≤ (j : Int) := by omega
      have hcast : (((j + 1 : Nat)) : Int) = (j : Int) + 1 := rfl
      rw [hcast] at hlt' hk0 ⊢
      have hjn : (j : Int) < (n : Int) := by omega
      have hw1 : IntKind.i64.wrap ((j : Int) + 1 - 1) = (j : Int) := by rw [IntKind.wrap_i64]; omega
      have hw2 : IntKind.u64.wrap (ph + 1) = ph + 1 := by rw [IntKind.wrap_u64]; omega
      have hpos : (0 : Int) < (j : Int) + 1 := by omega
      clear hpj hjr hjm hpw e0 hcast q3
      by_cases hc : lo ≤ ph + 1
      · have hd3 : decide (lo ≤ ph + 1) = true := decide_eq_true hc
        have hBf : B = false := by
          cases B
          · rfl
          · exact absurd (by have h := (HB.out.1 rfl (j + 1) (by rw [HN.out]; exact hlt)).2 (by omega); rw [HSK.out, Nat.add_sub_cancel, HPJ.out] at h; exact h) (by simp only; omega)
        subst hBf
        go_wp2_with fail
        go_quiet (fail)
        go_wp2_with fail
        go_ret
        exact ⟨rfl, bel.trans ((belDrewN wr _).mono bel.size)⟩
      · have hd3 : decide (lo ≤ ph + 1) = false := decide_eq_false hc
        have HGK : Hid (goodAt l (j + 1)) := Lib.hid ⟨by rw [HSK.out]; exact ⟨h1, h2⟩, fun _ => by rw [HSK.out, Nat.add_sub_cancel, HPJ.out]; simp only; omega⟩
        go_wp2_with fail
        go_quiet (fail)
        go_wp2_with fail
        go_roundw
        case rel => exact ⟨j + 1 + 1, by congr 1, by omega, fun i hi => by
          by_cases e : i = j + 1
          · subst e
            exact HGK.out
          · exact HG.out i (by omega), bel.trans ((belDrewN wr _).mono bel.size)⟩
        case measure => simp only [intOf]; omega
    · have hkn : k = n := by omega
      subst hkn
      have hd : decide ((k : Int) < (k : Int)) = false := by simp
      have hBt : B = true := HB.out.2 fun i hi => HG.out i (by rw [← HN.out]; exact hi)
      subst hBt
      go_wp2_with fail
      go_ret
      exact ⟨rfl, bel⟩

/-- rows that may be an acknowledgment's -/
def mayRows (l m : List (Int × Int)) : Prop := 1 ≤ l.length ∧ l.length ≤ 32 ∧ m.length ≤ 32 ∧ goodAll l ∧ goodAll m ∧ insideAll m l
theorem inside_self (l : List (Int × Int)) : insideAll l l := fun i hi => ⟨i, hi, Int.le_refl _, Int.le_refl _⟩

set_option maxHeartbeats 4000000 in
theorem rMayAck (x y : Option Addr) (cx cy : Nat) (l m : List (Int × Int)) (hwl : ∀ s ∈ l, W64 s.1 ∧ W64 s.2) (hwm : ∀ s ∈ m, W64 s.1 ∧ W64 s.2) (hll : l.length ≤ 9223372036854775807) (hml : m.length ≤ 9223372036854775807) (t r : Int) (p : Bool) (B : Bool) (hB : B = true ↔ mayRows l m) (w : World) (hSl : SRow w x l) (hSm : SRow w y m) :
    Calls Try.prog 29 #[.agg #[.slice x l.length cx, .slice y m.length cy, .int .u64 t, .int .u64 r, .bool p]] w fun e w' => e = .returned (.bool B) ∧ Below w.heap.size w w' := by
  have HWL := Lib.hid hwl
  have HWM := Lib.hid hwm
  have HB := Lib.hid hB
  have HSL := Lib.hid hSl
  have HSM := Lib.hid hSm
  obtain ⟨n, hn⟩ : ∃ n, l.length = n := ⟨_, rfl⟩
  have HN := Lib.hid hn
  obtain ⟨k, hk⟩ : ∃ n, m.length = n := ⟨_, rfl⟩
  have HK := Lib.hid hk
  rw [hn] at hll
  rw [hk] at hml
  rw [hn, hk]
  clear hwl hwm hB hSl hSm hn hk
  have hnI : (n : Int) ≤ 9223372036854775807 := by omega
  have hkI : (k : Int) ≤ 9223372036854775807 := by omega
  by_cases h : n < 1
  · have hBf : B = false := by
      cases B
      · rfl
      · exact absurd (HB.out.1 rfl).1 (by rw [HN.out]; omega)
    subst hBf
    have hd : decide ((1 : Int) ≤ (n : Int)) = false := decide_eq_false (by omega)
    go_enter Try.func29, Try.ntmps29
    go_wp2_with fail
    go_ret
    exact ⟨rfl, (Below.refl _ _).alloc (Nat.le_refl _) _⟩
  have hd1 : (1 : Int) ≤ (n : Int) := by omega
  clear h
  by_cases h : 32 < n
  · have hBf : B = false := by
      cases B
      · rfl
      · exact absurd (HB.out.1 rfl).2.1 (by rw [HN.out]; omega)
    subst hBf
    have hd : decide ((n : Int) ≤ 32) = false := decide_eq_false (by omega)
    go_enter Try.func29, Try.ntmps29
    go_wp2_with fail
    go_ret
    exact ⟨rfl, (Below.refl _ _).alloc (Nat.le_refl _) _⟩
  have hd2 : (n : Int) ≤ 32 := by omega
  clear h
  by_cases h : 32 < k
  · have hBf : B = false := by
      cases B
      · rfl
      · exact absurd (HB.out.1 rfl).2.2.1 (by rw [HK.out]; omega)
    subst hBf
    have hd : decide ((k : Int) ≤ 32) = false := decide_eq_false (by omega)
    go_enter Try.func29, Try.ntmps29
    go_wp2_with fail
    go_ret
    exact ⟨rfl, (Below.refl _ _).alloc (Nat.le_refl _) _⟩
  have hd3 : (k : Int) ≤ 32 := by omega
  clear h
  go_enter Try.func29, Try.ntmps29
  go_wp2_with fail
  obtain ⟨w0, hw0⟩ : ∃ w0, w0 = w.alloc (.cells #[.slice x n cx, .slice y k cy, .int .u64 t, .int .u64 r, .bool p] 52 (0, 0)) := ⟨_, rfl⟩
  have b00 : Below w.heap.size w w0 := by rw [hw0]; exact (Below.refl _ _).alloc (Nat.le_refl _) _
  have A0 : AckAt w0 w.heap.size (.slice x n cx) (.slice y k cy) (.int .u64 t) (.int .u64 r) (.bool p) := by rw [hw0]; exact AckAt.alloc w _ _ _ _ _
  have SL0 := HSL.out.below b00
  have SM0 := HSM.out.below b00
  rw [← hw0]
  clear hw0
  by_cases h1 : goodAll l
  case neg =>
    have hBf : B = false := by
      cases B
      · rfl
      · exact absurd (HB.out.1 rfl).2.2.2.1 h1
    subst hBf
    have C := rGoodAny x cx l HWL.out (by rw [HN.out]; omega) false ⟨fun h => by simp at h, fun h => absurd h h1⟩ w0 SL0 
    rw [HN.out] at C
    refine C.mono ?_; rintro e' w1 ⟨rfl, b1⟩
    have b01 := b00.trans (b1.mono b00.size)
    go_wp2_with fail
    go_ret
    exact ⟨rfl, b01⟩
  have C := rGoodAny x cx l HWL.out (by rw [HN.out]; omega) true ⟨fun _ => h1, fun _ => rfl⟩ w0 SL0 
  rw [HN.out] at C
  refine C.mono ?_; rintro e' w1 ⟨rfl, b1⟩
  have b01 := b00.trans (b1.mono b00.size)
  have A1 := A0.belowB A0.lt b1
  have SL1 := SL0.below b1
  have SM1 := SM0.below b1
  clear C A0 SL0 SM0 b1
  obtain ⟨d0, d1, d2, d3, d4⟩ := A1.cells.1
  go_wp2_with fail
  clear d0 d1 d2 d3 d4
  by_cases h2 : goodAll m
  case neg =>
    have hBf : B = false := by
      cases B
      · rfl
      · exact absurd (HB.out.1 rfl).2.2.2.2.1 h2
    subst hBf
    have C := rGoodAny y cy m HWM.out (by rw [HK.out]; omega) false ⟨fun h => by simp at h, fun h => absurd h h2⟩ w1 SM1 
    rw [HK.out] at C
    refine C.mono ?_; rintro e' w2 ⟨rfl, b2⟩
    have b02 := b01.trans (b2.mono b01.size)
    go_wp2_with fail
    go_ret
    exact ⟨rfl, b02⟩
  have C := rGoodAny y cy m HWM.out (by rw [HK.out]; omega) true ⟨fun _ => h2, fun _ => rfl⟩ w1 SM1 
  rw [HK.out] at C
  refine C.mono ?_; rintro e' w2 ⟨rfl, b2⟩
  have b02 := b01.trans (b2.mono b01.size)
  have A2 := A1.belowB A1.lt b2
  have SL2 := SL1.below b2
  have SM2 := SM1.below b2
  clear C A1 SL1 SM1 b2
  obtain ⟨d0, d1, d2, d3, d4⟩ := A2.cells.1
  go_wp2_with fail
  clear d0 d1 d2 d3 d4
  by_cases h3 : insideAll m l
  case neg =>
    have hBf : B = false := by
      cases B
      · rfl
      · exact absurd (HB.out.1 rfl).2.2.2.2.2 h3
    subst hBf
    have C := rInside y x cy cx m l (by rw [HK.out]; omega) (by rw [HN.out]; omega) false ⟨fun h => by simp at h, fun h => absurd h h3⟩ w2 SM2 SL2
    rw [HN.out, HK.out] at C
    refine C.mono ?_; rintro e' w3 ⟨rfl, b3⟩
    have b03 := b02.trans (b3.mono b02.size)
    go_wp2_with fail
    go_ret
    exact ⟨rfl, b03⟩
  have C := rInside y x cy cx m l (by rw [HK.out]; omega) (by rw [HN.out]; omega) true ⟨fun _ => h3, fun _ => rfl⟩ w2 SM2 SL2
  rw [HN.out, HK.out] at C
  refine C.mono ?_; rintro e' w3 ⟨rfl, b3⟩
  have b03 := b02.trans (b3.mono b02.size)
  have A3 := A2.belowB A2.lt b3
  have SL3 := SL2.below b3
  have SM3 := SM2.below b3
  clear C A2 SL2 SM2 b3
  have hBt : B = true := HB.out.2 ⟨by rw [HN.out]; omega, by rw [HN.out]; omega, by rw [HK.out]; omega, h1, h2, h3⟩
  subst hBt
  go_wp2_with fail
  go_ret
  exact ⟨rfl, b03⟩

set_option maxHeartbeats 4000000 in
theorem aMay (x y : Option Addr) (cx cy : Nat) (l m : List (Int × Int)) (hwl : ∀ s ∈ l, W64 s.1 ∧ W64 s.2) (hwm : ∀ s ∈ m, W64 s.1 ∧ W64 s.2) (hll : l.length ≤ 9223372036854775807) (hml : m.length ≤ 9223372036854775807) (t r : Int) (p : Bool) (B : Bool) (hB : B = true ↔ mayRows l m) (w : World) (hSl : SRow w x l) (hSm : SRow w y m) :
    Calls Try.prog 30 #[.agg #[.slice x l.length cx, .slice y m.length cy, .int .u64 t, .int .u64 r, .bool p]] w fun e w' => e = .returned (.bool B) ∧ Below w.heap.size w w' := by
  have HWL := Lib.hid hwl
  have HWM := Lib.hid hwm
  have HB := Lib.hid hB
  have HSL := Lib.hid hSl
  have HSM := Lib.hid hSm
  obtain ⟨n, hn⟩ : ∃ n, l.length = n := ⟨_, rfl⟩
  have HN := Lib.hid hn
  obtain ⟨k, hk⟩ : ∃ n, m.length = n := ⟨_, rfl⟩
  have HK := Lib.hid hk
  rw [hn] at hll
  rw [hk] at hml
  rw [hn, hk]
  clear hwl hwm hB hSl hSm hn hk
  have hnI : (n : Int) ≤ 9223372036854775807 := by omega
  have hkI : (k : Int) ≤ 9223372036854775807 := by omega
  by_cases h : n < 1
  · have hBf : B = false := by
      cases B
      · rfl
      · exact absurd (HB.out.1 rfl).1 (by rw [HN.out]; omega)
    subst hBf
    have hd : decide ((1 : Int) ≤ (n : Int)) = false := decide_eq_false (by omega)
    go_enter Try.func30, Try.ntmps30
    go_wp2_with fail
    go_ret
    exact ⟨rfl, (Below.refl _ _).alloc (Nat.le_refl _) _⟩
  have hd1 : (1 : Int) ≤ (n : Int) := by omega
  clear h
  by_cases h : 32 < n
  · have hBf : B = false := by
      cases B
      · rfl
      · exact absurd (HB.out.1 rfl).2.1 (by rw [HN.out]; omega)
    subst hBf
    have hd : decide ((n : Int) ≤ 32) = false := decide_eq_false (by omega)
    go_enter Try.func30, Try.ntmps30
    go_wp2_with fail
    go_ret
    exact ⟨rfl, (Below.refl _ _).alloc (Nat.le_refl _) _⟩
  have hd2 : (n : Int) ≤ 32 := by omega
  clear h
  by_cases h : 32 < k
  · have hBf : B = false := by
      cases B
      · rfl
      · exact absurd (HB.out.1 rfl).2.2.1 (by rw [HK.out]; omega)
    subst hBf
    have hd : decide ((k : Int) ≤ 32) = false := decide_eq_false (by omega)
    go_enter Try.func30, Try.ntmps30
    go_wp2_with fail
    go_ret
    exact ⟨rfl, (Below.refl _ _).alloc (Nat.le_refl _) _⟩
  have hd3 : (k : Int) ≤ 32 := by omega
  clear h
  go_enter Try.func30, Try.ntmps30
  go_wp2_with fail
  obtain ⟨w0, hw0⟩ : ∃ w0, w0 = w.alloc (.cells #[.slice x n cx, .slice y k cy, .int .u64 t, .int .u64 r, .bool p] 52 (0, 0)) := ⟨_, rfl⟩
  have b00 : Below w.heap.size w w0 := by rw [hw0]; exact (Below.refl _ _).alloc (Nat.le_refl _) _
  have A0 : AckAt w0 w.heap.size (.slice x n cx) (.slice y k cy) (.int .u64 t) (.int .u64 r) (.bool p) := by rw [hw0]; exact AckAt.alloc w _ _ _ _ _
  have SL0 := HSL.out.below b00
  have SM0 := HSM.out.below b00
  rw [← hw0]
  clear hw0
  by_cases h1 : withinAll l l
  case neg =>
    have hBf : B = false := by
      cases B
      · rfl
      · exact absurd (⟨(HB.out.1 rfl).2.2.2.1, (HB.out.1 rfl).2.2.2.1, inside_self l⟩ : withinAll l l) h1
    subst hBf
    have C := sWithin x x cx cx l l HWL.out HWL.out (by rw [HN.out]; omega) (by rw [HN.out]; omega) false ⟨fun h => by simp at h, fun h => absurd h h1⟩ w0 SL0 SL0
    rw [HN.out] at C
    refine C.mono ?_; rintro e' w1 ⟨rfl, b1⟩
    have b01 := b00.trans (b1.mono b00.size)
    go_wp2_with fail
    go_ret
    exact ⟨rfl, b01⟩
  have C := sWithin x x cx cx l l HWL.out HWL.out (by rw [HN.out]; omega) (by rw [HN.out]; omega) true ⟨fun _ => h1, fun _ => rfl⟩ w0 SL0 SL0
  rw [HN.out] at C
  refine C.mono ?_; rintro e' w1 ⟨rfl, b1⟩
  have b01 := b00.trans (b1.mono b00.size)
  have A1 := A0.belowB A0.lt b1
  have SL1 := SL0.below b1
  have SM1 := SM0.below b1
  clear C A0 SL0 SM0 b1
  obtain ⟨d0, d1, d2, d3, d4⟩ := A1.cells.1
  go_wp2_with fail
  clear d0 d1 d2 d3 d4
  by_cases h2 : withinAll m l
  case neg =>
    have hBf : B = false := by
      cases B
      · rfl
      · exact absurd (⟨(HB.out.1 rfl).2.2.2.2.1, (HB.out.1 rfl).2.2.2.1, (HB.out.1 rfl).2.2.2.2.2⟩ : withinAll m l) h2
    subst hBf
    have C := sWithin y x cy cx m l HWM.out HWL.out (by rw [HK.out]; omega) (by rw [HN.out]; omega) false ⟨fun h => by simp at h, fun h => absurd h h2⟩ w1 SM1 SL1
    rw [HN.out, HK.out] at C
    refine C.mono ?_; rintro e' w2 ⟨rfl, b2⟩
    have b02 := b01.trans (b2.mono b01.size)
    go_wp2_with fail
    go_ret
    exact ⟨rfl, b02⟩
  have C := sWithin y x cy cx m l HWM.out HWL.out (by rw [HK.out]; omega) (by rw [HN.out]; omega) true ⟨fun _ => h2, fun _ => rfl⟩ w1 SM1 SL1
  rw [HN.out, HK.out] at C
  refine C.mono ?_; rintro e' w2 ⟨rfl, b2⟩
  have b02 := b01.trans (b2.mono b01.size)
  have A2 := A1.belowB A1.lt b2
  have SL2 := SL1.below b2
  have SM2 := SM1.below b2
  clear C A1 SL1 SM1 b2
  have hBt : B = true := HB.out.2 ⟨by rw [HN.out]; omega, by rw [HN.out]; omega, by rw [HK.out]; omega, h2.2.1, h2.1, h2.2.2⟩
  subst hBt
  go_wp2_with fail
  go_ret
  exact ⟨rfl, b02⟩

end Go.Proofs.Ytofggpmllfhgaaa
