/- Several texts one behind the other: Has, MayAck, HonL, AckDec, AckRow, AddSpan, SpAdd, SentRow, Harm, JHon, RHon, HonAll. -/
import Derived.Test.YtikkmdbaekdolaaJgB
import Derived.Test.YtikkmdbaekdolaaJgA
import Derived.StillTailTactics
import Derived.Deep.CutBlock
import Derived.Deep.DeepCutAuto
import Derived.BigQuiet
/- package span: Has of any good row; the reference's HasNum. -/
namespace Go.Proofs.Ytikkmdbaekdolaa
open Go.RowKit Go.Lib
set_option linter.unusedVariables false
set_option maxRecDepth 100000

/-- is it one of the row's numbers? -/
def hasP (l : List (Int × Int)) (p : Int) : Prop := ∃ j, j < l.length ∧ (l.getD j (0, 0)).1 ≤ p ∧ p ≤ (l.getD j (0, 0)).2

set_option maxHeartbeats 4000000 in
theorem sHas (x : Option Addr) (c : Nat) (l : List (Int × Int)) (hgd : goodAll l) (hw : ∀ s ∈ l, W64 s.1 ∧ W64 s.2) (hl : l.length ≤ 1000000) (p : Int) (B : Bool) (hB : B = true ↔ hasP l p) (w : World) (hS : SRow w x l) :
    Calls Try.prog 77 #[.slice x l.length c, .int .u64 p] w fun e w' => e = .returned (.bool B) ∧ Below w.heap.size w w' := by
  have CG := fun W (h : SRow W x l) => sGoodRow x c l hw (by omega) true ⟨fun _ => hgd, fun _ => rfl⟩ W h
  have HCG := Lib.hid CG
  clear CG hw hgd
  have HS := Lib.hid hS
  have HB := Lib.hid hB
  obtain ⟨n, hn⟩ : ∃ n, l.length = n := ⟨_, rfl⟩
  have HN := Lib.hid hn
  rw [hn] at hl HCG ⊢
  clear hS hB hn
  have hnI : (n : Int) ≤ 1000000 := by omega
  go_enter Try.func77, Try.ntmps77
  go_wp2_with fail
  ((with_reducible refine (HCG.out _ HS.out).mono ?_); rintro e' w1 ⟨rfl, b1⟩)
  clear HCG
  go_wp2_with fail
  go_loopw [12] (fun i wr => ∃ k : Nat, i = .int .i64 (k : Int) ∧ k ≤ n ∧ (∀ j, j < k → ¬ ((l.getD j (0, 0)).1 ≤ p ∧ p ≤ (l.getD j (0, 0)).2)) ∧ Below w.heap.size w wr) (fun i _ => (n - intOf i).toNat)
  case atStart => exact ⟨0, by first | rfl | simp, by omega, fun j hj => absurd hj (by omega), b1⟩
  case round =>
    obtain ⟨k, rfl, hk, hno, bel⟩ := hrel
    have HNO := Lib.hid hno
    have HBEL := Lib.hid bel
    clear hno
    by_cases hlt : k < n
    · have hltI : (k : Int) < (n : Int) := by omega
      obtain ⟨g, o, rfl, hg, c0, c1⟩ := (HS.out.below HBEL.out).at k (by rw [HN.out]; exact hlt)
      obtain ⟨lo, hlo⟩ : ∃ v, (l.getD k (0, 0)).1 = v := ⟨_, rfl⟩
      obtain ⟨hi, hhi⟩ : ∃ v, (l.getD k (0, 0)).2 = v := ⟨_, rfl⟩
      rw [hlo] at c0
      rw [hhi] at c1
      have HLO := Lib.hid hlo
      have HHI := Lib.hid hhi
      clear hlo hhi bel
      have hsz := HBEL.out.size
      by_cases h1 : lo ≤ p
      · by_cases h2 : p ≤ hi
        · have d1 := decide_eq_true h1
          have d2 := decide_eq_true h2
          have TB : Hid (B = true) := HB.out.2 ⟨k, by rw [HN.out]; exact hlt, by rw [HLO.out]; exact h1, by rw [HHI.out]; exact h2⟩
          go_wp2_with fail
          go_ret
          exact ⟨ret_bool TB.out.symm, HBEL.out.trans (Gr.below (by repeat (first | exact Gr.refl _ | apply Gr.drewN | apply Gr.drew | apply Gr.gw | apply Gr.alloc)) |>.mono hsz)⟩
        · have d1 := decide_eq_true h1
          have d2 := decide_eq_false h2
          have h2' : hi < p := by omega
          have H2 := Lib.hid h2
          clear h2
          go_wp2_with fail
          go_roundw
          case rel => exact ⟨k + 1, by congr 1, by omega, fun j hj => by
            rcases (by omega : j < k ∨ j = k) with h | rfl
            · exact HNO.out j h
            · rw [HHI.out]; exact fun h => H2.out h.2, HBEL.out.trans (Gr.below (by repeat (first | exact Gr.refl _ | apply Gr.drewN | apply Gr.drew | apply Gr.gw | apply Gr.alloc)) |>.mono hsz)⟩
          case measure => simp only [intOf]; omega
      · have d1 := decide_eq_false h1
        have h1' : p < lo := by omega
        have H1 := Lib.hid h1
        clear h1
        go_wp2_with fail
        go_roundw
        case rel => exact ⟨k + 1, by congr 1, by omega, fun j hj => by
          rcases (by omega : j < k ∨ j = k) with h | rfl
          · exact HNO.out j h
          · rw [HLO.out]; exact fun h => H1.out h.1, HBEL.out.trans (Gr.below (by repeat (first | exact Gr.refl _ | apply Gr.drewN | apply Gr.drew | apply Gr.gw | apply Gr.alloc)) |>.mono hsz)⟩
        case measure => simp only [intOf]; omega
    · have hd : decide ((k : Int) < (n : Int)) = false := by rw [decide_eq_false_iff_not]; omega
      have FB : Hid (B = false) := by
        show B = false
        cases hb : B
        · rfl
        · obtain ⟨j, hj, h⟩ := HB.out.1 hb
          exact absurd h (HNO.out j (by rw [HN.out] at hj; omega))
      clear bel
      go_wp2_with fail
      go_ret
      exact ⟨ret_bool FB.out.symm, HBEL.out⟩

set_option maxHeartbeats 4000000 in
theorem rHasNum (x : Option Addr) (c : Nat) (l : List (Int × Int)) (hl : l.length ≤ 1000000) (p : Int) (B : Bool) (hB : B = true ↔ hasP l p) (w : World) (hS : SRow w x l) :
    Calls Try.prog 43 #[.slice x l.length c, .int .u64 p] w fun e w' => e = .returned (.bool B) ∧ Below w.heap.size w w' := by
  have HS := Lib.hid hS
  have HB := Lib.hid hB
  obtain ⟨n, hn⟩ : ∃ n, l.length = n := ⟨_, rfl⟩
  have HN := Lib.hid hn
  rw [hn] at hl ⊢
  clear hS hB hn
  have hnI : (n : Int) ≤ 1000000 := by omega
  go_enter Try.func43, Try.ntmps43
  go_wp2_with fail
  go_loopw [5] (fun i wr => ∃ k : Nat, i = .int .i64 (k : Int) ∧ k ≤ n ∧ (∀ j, j < k → ¬ ((l.getD j (0, 0)).1 ≤ p ∧ p ≤ (l.getD j (0, 0)).2)) ∧ Below w.heap.size w wr) (fun i _ => (n - intOf i).toNat)
  case atStart => exact ⟨0, by first | rfl | simp, by omega, fun j hj => absurd hj (by omega), Below.refl _ _⟩
  case round =>
    obtain ⟨k, rfl, hk, hno, bel⟩ := hrel
    have HNO := Lib.hid hno
    have HBEL := Lib.hid bel
    clear hno
    by_cases hlt : k < n
    · have hltI : (k : Int) < (n : Int) := by omega
      obtain ⟨g, o, rfl, hg, c0, c1⟩ := (HS.out.below HBEL.out).at k (by rw [HN.out]; exact hlt)
      obtain ⟨lo, hlo⟩ : ∃ v, (l.getD k (0, 0)).1 = v := ⟨_, rfl⟩
      obtain ⟨hi, hhi⟩ : ∃ v, (l.getD k (0, 0)).2 = v := ⟨_, rfl⟩
      rw [hlo] at c0
      rw [hhi] at c1
      have HLO := Lib.hid hlo
      have HHI := Lib.hid hhi
      clear hlo hhi bel
      have hsz := HBEL.out.size
      by_cases h1 : lo ≤ p
      · by_cases h2 : p ≤ hi
        · have d1 := decide_eq_true h1
          have d2 := decide_eq_true h2
          have TB : Hid (B = true) := HB.out.2 ⟨k, by rw [HN.out]; exact hlt, by rw [HLO.out]; exact h1, by rw [HHI.out]; exact h2⟩
          go_wp2_with fail
          go_ret
          exact ⟨ret_bool TB.out.symm, HBEL.out.trans (Gr.below (by repeat (first | exact Gr.refl _ | apply Gr.drewN | apply Gr.drew | apply Gr.gw | apply Gr.alloc)) |>.mono hsz)⟩
        · have d1 := decide_eq_true h1
          have d2 := decide_eq_false h2
          have h2' : hi < p := by omega
          have H2 := Lib.hid h2
          clear h2
          go_wp2_with fail
          go_roundw
          case rel => exact ⟨k + 1, by congr 1, by omega, fun j hj => by
            rcases (by omega : j < k ∨ j = k) with h | rfl
            · exact HNO.out j h
            · rw [HHI.out]; exact fun h => H2.out h.2, HBEL.out.trans (Gr.below (by repeat (first | exact Gr.refl _ | apply Gr.drewN | apply Gr.drew | apply Gr.gw | apply Gr.alloc)) |>.mono hsz)⟩
          case measure => simp only [intOf]; omega
      · have d1 := decide_eq_false h1
        have h1' : p < lo := by omega
        have H1 := Lib.hid h1
        clear h1
        go_wp2_with fail
        go_roundw
        case rel => exact ⟨k + 1, by congr 1, by omega, fun j hj => by
          rcases (by omega : j < k ∨ j = k) with h | rfl
          · exact HNO.out j h
          · rw [HLO.out]; exact fun h => H1.out h.1, HBEL.out.trans (Gr.below (by repeat (first | exact Gr.refl _ | apply Gr.drewN | apply Gr.drew | apply Gr.gw | apply Gr.alloc)) |>.mono hsz)⟩
        case measure => simp only [intOf]; omega
    · have hd : decide ((k : Int) < (n : Int)) = false := by rw [decide_eq_false_iff_not]; omega
      have FB : Hid (B = false) := by
        show B = false
        cases hb : B
        · rfl
        · obtain ⟨j, hj, h⟩ := HB.out.1 hb
          exact absurd h (HNO.out j (by rw [HN.out] at hj; omega))
      clear bel
      go_wp2_with fail
      go_ret
      exact ⟨ret_bool FB.out.symm, HBEL.out⟩

end Go.Proofs.Ytikkmdbaekdolaa

/- the reference's Good and MayAck, ack.May, of any rows. -/
namespace Go.Proofs.Ytikkmdbaekdolaa
open Go.RowKit Go.Lib
set_option linter.unusedVariables false
set_option maxRecDepth 100000

set_option maxHeartbeats 8000000 in
theorem rGoodAny (x : Option Addr) (c : Nat) (l : List (Int × Int)) (hw : ∀ s ∈ l, W64 s.1 ∧ W64 s.2) (hl : l.length ≤ 9223372036854775807) (B : Bool) (hB : B = true ↔ goodAll l) (w : World) (hS : SRow w x l) :
    Calls Try.prog 117 #[.slice x l.length c] w fun e w' => e = .returned (.bool B) ∧ Below w.heap.size w w' := by
  have HW := Lib.hid hw
  have HS := Lib.hid hS
  have HB := Lib.hid hB
  obtain ⟨n, hn⟩ : ∃ n, l.length = n := ⟨_, rfl⟩
  have HN := Lib.hid hn
  rw [hn] at hl ⊢
  clear hw hS hB hn
  have hnI : (n : Int) ≤ 9223372036854775807 := by omega
  go_enter Try.func117, Try.ntmps117
  go_wp2_with fail
  go_loopw [3] (fun iv wr => ∃ k : Nat, iv = .int .i64 (k : Int) ∧ k ≤ n ∧ (∀ j, j < k → goodAt l j) ∧ Below w.heap.size w wr) (fun iv _ => (n - intOf iv).toNat)
  case atStart => exact ⟨0, rfl, by omega, fun j hj => absurd hj (by omega), Below.refl _ _⟩
  case round =>
    obtain ⟨k, rfl, hk, hgood, bel⟩ := hrel
    have HG := Lib.hid hgood
    clear hgood
    have hk0 : (0 : Int) ≤ (k : Int) := by omega
    by_cases hlt : k < n
    · have hlt' : (k : Int) < (n : Int) := by omega
      obtain ⟨ga, oa, hxa, hga, c0, c1⟩ := (HS.out.below bel).at k (by rw [HN.out]; exact hlt)
      obtain ⟨lo, hi, hs⟩ : ∃ lo hi, l.getD k (0, 0) = (lo, hi) := ⟨_, _, rfl⟩
      rw [hs] at c0 c1
      have HSK := Lib.hid hs
      clear hs
      by_cases h1 : lo ≤ hi
      case neg =>
        rw [hxa]
        have hd1 : decide (hi < lo) = true := decide_eq_true (by omega)
        have hBf : B = false := by
          cases B
          · rfl
          · exact absurd (by have h := (HB.out.1 rfl k (by rw [HN.out]; exact hlt)).1.1; rw [HSK.out] at h; exact h) h1
        subst hBf
        go_wp2_with fail
        go_quiet (fail)
        go_wp2_with fail
        go_ret
        exact ⟨rfl, bel.trans ((belDrewN wr _).mono bel.size)⟩
      have hd1 : decide (hi < lo) = false := decide_eq_false (by omega)
      by_cases h2 : hi ≤ 4611686018427387903
      case neg =>
        rw [hxa]
        have hd2 : decide (4611686018427387903 < hi) = true := decide_eq_true (by omega)
        have hBf : B = false := by
          cases B
          · rfl
          · exact absurd (by have h := (HB.out.1 rfl k (by rw [HN.out]; exact hlt)).1.2; rw [HSK.out] at h; exact h) h2
        subst hBf
        go_wp2_with fail
        go_quiet (fail)
        go_wp2_with fail
        go_ret
        exact ⟨rfl, bel.trans ((belDrewN wr _).mono bel.size)⟩
      have hd2 : decide (4611686018427387903 < hi) = false := decide_eq_false (by omega)
      rcases k with _ | j
      · rw [hxa]
        have hz : ((0 : Nat) : Int) = 0 := rfl
        rw [hz] at hlt' hk0 ⊢
        rw [Nat.zero_mul, Nat.add_zero] at c0 c1
        have HGK : Hid (goodAt l 0) := Lib.hid ⟨by rw [HSK.out]; exact ⟨h1, h2⟩, fun h => absurd h (by omega)⟩
        go_wp2_with fail
        go_quiet (fail)
        go_wp2_with fail
        go_roundw
        case rel => exact ⟨1, rfl, by omega, fun i hi => by
          by_cases e : i = 0
          · subst e
            exact HGK.out
          · exact HG.out i (by omega), bel.trans ((belDrewN wr _).mono bel.size)⟩
        case measure => simp only [intOf]; omega
      obtain ⟨pl, ph, hpj⟩ : ∃ a b, l.getD j (0, 0) = (a, b) := ⟨_, _, rfl⟩
      have hjr := (HG.out j (by omega)).1
      rw [hpj] at hjr
      have hjm : (pl, ph) ∈ l := by
        rw [← hpj, List.getD_eq_getElem?_getD, List.getElem?_eq_getElem (by rw [HN.out]; omega)]
        exact List.getElem_mem _
      have hpw := (HW.out _ hjm).2
      have hph : 0 ≤ ph ∧ ph ≤ 4611686018427387903 := ⟨hpw.1, hjr.2⟩
      obtain ⟨gb, ob, hxb, hgb, e0, e1⟩ := (HS.out.below bel).at j (by rw [HN.out]; omega)
      rw [hxa] at hxb
      injection hxb with hxb
      injection hxb with q1 q2 q3
      subst q1 q2
      rw [hpj] at e1
      have e1 : wr.cell? ⟨ga, oa + j * 2 + 1, none⟩ = some (.int .u64 ph) := e1
      rw [hxa]
      have HPJ := Lib.hid hpj
      have hjI : (0 : Int) ≤ (j : Int) := by omega
      have hcast : (((j + 1 : Nat)) : Int) = (j : Int) + 1 := rfl
      rw [hcast] at hlt' hk0 ⊢
      have hjn : (j : Int) < (n : Int) := by omega
      have hw1 : IntKind.i64.wrap ((j : Int) + 1 - 1) = (j : Int) := by rw [IntKind.wrap_i64]; omega
      have hw2 : IntKind.u64.wrap (ph + 1) = ph + 1 := by rw [IntKind.wrap_u64]; omega
      have hpos : (0 : Int) < (j : Int) + 1 := by omega
      clear hpj hjr hjm hpw e0 hcast q3
      by_cases hc : lo ≤ ph + 1
      · have hd3 : decide (lo ≤ ph + 1) = true := decide_eq_true hc
        have hBf : B = false := by
          cases B
          · rfl
          · exact absurd (by have h := (HB.out.1 rfl (j + 1) (by rw [HN.out]; exact hlt)).2 (by omega); rw [HSK.out, Nat.add_sub_cancel, HPJ.out] at h; exact h) (by simp only; omega)
        subst hBf
        go_wp2_with fail
        go_quiet (fail)
        go_wp2_with fail
        go_ret
        exact ⟨rfl, bel.trans ((belDrewN wr _).mono bel.size)⟩
      · have hd3 : decide (lo ≤ ph + 1) = false := decide_eq_false hc
        have HGK : Hid (goodAt l (j + 1)) := Lib.hid ⟨by rw [HSK.out]; exact ⟨h1, h2⟩, fun _ => by rw [HSK.out, Nat.add_sub_cancel, HPJ.out]; simp only; omega⟩
        go_wp2_with fail
        go_quiet (fail)
        go_wp2_with fail
        go_roundw
        case rel => exact ⟨j + 1 + 1, by congr 1, by omega, fun i hi => by
          by_cases e : i = j + 1
          · subst e
            exact HGK.out
          · exact HG.out i (by omega), bel.trans ((belDrewN wr _).mono bel.size)⟩
        case measure => simp only [intOf]; omega
    · have hkn : k = n := by omega
      subst hkn
      have hd : decide ((k : Int) < (k : Int)) = false := by simp
      have hBt : B = true := HB.out.2 fun i hi => HG.out i (by rw [← HN.out]; exact hi)
      subst hBt
      go_wp2_with fail
      go_ret
      exact ⟨rfl, bel⟩

/-- rows that may be an acknowledgment's -/
def mayRows (l m : List (Int × Int)) : Prop := 1 ≤ l.length ∧ l.length ≤ 32 ∧ m.length ≤ 32 ∧ goodAll l ∧ goodAll m ∧ insideAll m l
theorem inside_self (l : List (Int × Int)) : insideAll l l := fun i hi => ⟨i, hi, Int.le_refl _, Int.le_refl _⟩

set_option maxHeartbeats 4000000 in
theorem rMayAck (x y : Option Addr) (cx cy : Nat) (l m : List (Int × Int)) (hwl : ∀ s ∈ l, W64 s.1 ∧ W64 s.2) (hwm : ∀ s ∈ m, W64 s.1 ∧ W64 s.2) (hll : l.length ≤ 9223372036854775807) (hml : m.length ≤ 9223372036854775807) (t r : Int) (p : Bool) (B : Bool) (hB : B = true ↔ mayRows l m) (w : World) (hSl : SRow w x l) (hSm : SRow w y m) :
    Calls Try.prog 80 #[.agg #[.slice x l.length cx, .slice y m.length cy, .int .u64 t, .int .u64 r, .bool p]] w fun e w' => e = .returned (.bool B) ∧ Below w.heap.size w w' := by
  have HWL := Lib.hid hwl
  have HWM := Lib.hid hwm
  have HB := Lib.hid hB
  have HSL := Lib.hid hSl
  have HSM := Lib.hid hSm
  obtain ⟨n, hn⟩ : ∃ n, l.length = n := ⟨_, rfl⟩
  have HN := Lib.hid hn
  obtain ⟨k, hk⟩ : ∃ n, m.length = n := ⟨_, rfl⟩
  have HK := Lib.hid hk
  rw [hn] at hll
  rw [hk] at hml
  rw [hn, hk]
  clear hwl hwm hB hSl hSm hn hk
  have hnI : (n : Int) ≤ 9223372036854775807 := by omega
  have hkI : (k : Int) ≤ 9223372036854775807 := by omega
  by_cases h : n < 1
  · have hBf : B = false := by
      cases B
      · rfl
      · exact absurd (HB.out.1 rfl).1 (by rw [HN.out]; omega)
    subst hBf
    have hd : decide ((1 : Int) ≤ (n : Int)) = false := decide_eq_false (by omega)
    go_enter Try.func80, Try.ntmps80
    go_wp2_with fail
    go_ret
    exact ⟨rfl, (Below.refl _ _).alloc (Nat.le_refl _) _⟩
  have hd1 : (1 : Int) ≤ (n : Int) := by omega
  clear h
  by_cases h : 32 < n
  · have hBf : B = false := by
      cases B
      · rfl
      · exact absurd (HB.out.1 rfl).2.1 (by rw [HN.out]; omega)
    subst hBf
    have hd : decide ((n : Int) ≤ 32) = false := decide_eq_false (by omega)
    go_enter Try.func80, Try.ntmps80
    go_wp2_with fail
    go_ret
    exact ⟨rfl, (Below.refl _ _).alloc (Nat.le_refl _) _⟩
  have hd2 : (n : Int) ≤ 32 := by omega
  clear h
  by_cases h : 32 < k
  · have hBf : B = false := by
      cases B
      · rfl
      · exact absurd (HB.out.1 rfl).2.2.1 (by rw [HK.out]; omega)
    subst hBf
    have hd : decide ((k : Int) ≤ 32) = false := decide_eq_false (by omega)
    go_enter Try.func80, Try.ntmps80
    go_wp2_with fail
    go_ret
    exact ⟨rfl, (Below.refl _ _).alloc (Nat.le_refl _) _⟩
  have hd3 : (k : Int) ≤ 32 := by omega
  clear h
  go_enter Try.func80, Try.ntmps80
  go_wp2_with fail
  obtain ⟨w0, hw0⟩ : ∃ w0, w0 = w.alloc (.cells #[.slice x n cx, .slice y k cy, .int .u64 t, .int .u64 r, .bool p] 74 (0, 0)) := ⟨_, rfl⟩
  have b00 : Below w.heap.size w w0 := by rw [hw0]; exact (Below.refl _ _).alloc (Nat.le_refl _) _
  have A0 : AckAt w0 w.heap.size (.slice x n cx) (.slice y k cy) (.int .u64 t) (.int .u64 r) (.bool p) := by rw [hw0]; exact AckAt.alloc w _ _ _ _ _
  have SL0 := HSL.out.below b00
  have SM0 := HSM.out.below b00
  rw [← hw0]
  clear hw0
  by_cases h1 : goodAll l
  case neg =>
    have hBf : B = false := by
      cases B
      · rfl
      · exact absurd (HB.out.1 rfl).2.2.2.1 h1
    subst hBf
    have C := rGoodAny x cx l HWL.out (by rw [HN.out]; omega) false ⟨fun h => by simp at h, fun h => absurd h h1⟩ w0 SL0 
    rw [HN.out] at C
    refine C.mono ?_; rintro e' w1 ⟨rfl, b1⟩
    have b01 := b00.trans (b1.mono b00.size)
    go_wp2_with fail
    go_ret
    exact ⟨rfl, b01⟩
  have C := rGoodAny x cx l HWL.out (by rw [HN.out]; omega) true ⟨fun _ => h1, fun _ => rfl⟩ w0 SL0 
  rw [HN.out] at C
  refine C.mono ?_; rintro e' w1 ⟨rfl, b1⟩
  have b01 := b00.trans (b1.mono b00.size)
  have A1 := A0.belowB A0.lt b1
  have SL1 := SL0.below b1
  have SM1 := SM0.below b1
  clear C A0 SL0 SM0 b1
  obtain ⟨d0, d1, d2, d3, d4⟩ := A1.cells.1
  go_wp2_with fail
  clear d0 d1 d2 d3 d4
  by_cases h2 : goodAll m
  case neg =>
    have hBf : B = false := by
      cases B
      · rfl
      · exact absurd (HB.out.1 rfl).2.2.2.2.1 h2
    subst hBf
    have C := rGoodAny y cy m HWM.out (by rw [HK.out]; omega) false ⟨fun h => by simp at h, fun h => absurd h h2⟩ w1 SM1 
    rw [HK.out] at C
    refine C.mono ?_; rintro e' w2 ⟨rfl, b2⟩
    have b02 := b01.trans (b2.mono b01.size)
    go_wp2_with fail
    go_ret
    exact ⟨rfl, b02⟩
  have C := rGoodAny y cy m HWM.out (by rw [HK.out]; omega) true ⟨fun _ => h2, fun _ => rfl⟩ w1 SM1 
  rw [HK.out] at C
  refine C.mono ?_; rintro e' w2 ⟨rfl, b2⟩
  have b02 := b01.trans (b2.mono b01.size)
  have A2 := A1.belowB A1.lt b2
  have SL2 := SL1.below b2
  have SM2 := SM1.below b2
  clear C A1 SL1 SM1 b2
  obtain ⟨d0, d1, d2, d3, d4⟩ := A2.cells.1
  go_wp2_with fail
  clear d0 d1 d2 d3 d4
  by_cases h3 : insideAll m l
  case neg =>
    have hBf : B = false := by
      cases B
      · rfl
      · exact absurd (HB.out.1 rfl).2.2.2.2.2 h3
    subst hBf
    have C := rInside y x cy cx m l (by rw [HK.out]; omega) (by rw [HN.out]; omega) false ⟨fun h => by simp at h, fun h => absurd h h3⟩ w2 SM2 SL2
    rw [HN.out, HK.out] at C
    refine C.mono ?_; rintro e' w3 ⟨rfl, b3⟩
    have b03 := b02.trans (b3.mono b02.size)
    go_wp2_with fail
    go_ret
    exact ⟨rfl, b03⟩
  have C := rInside y x cy cx m l (by rw [HK.out]; omega) (by rw [HN.out]; omega) true ⟨fun _ => h3, fun _ => rfl⟩ w2 SM2 SL2
  rw [HN.out, HK.out] at C
  refine C.mono ?_; rintro e' w3 ⟨rfl, b3⟩
  have b03 := b02.trans (b3.mono b02.size)
  have A3 := A2.belowB A2.lt b3
  have SL3 := SL2.below b3
  have SM3 := SM2.below b3
  clear C A2 SL2 SM2 b3
  have hBt : B = true := HB.out.2 ⟨by rw [HN.out]; omega, by rw [HN.out]; omega, by rw [HK.out]; omega, h1, h2, h3⟩
  subst hBt
  go_wp2_with fail
  go_ret
  exact ⟨rfl, b03⟩

set_option maxHeartbeats 4000000 in
theorem aMay (x y : Option Addr) (cx cy : Nat) (l m : List (Int × Int)) (hwl : ∀ s ∈ l, W64 s.1 ∧ W64 s.2) (hwm : ∀ s ∈ m, W64 s.1 ∧ W64 s.2) (hll : l.length ≤ 9223372036854775807) (hml : m.length ≤ 9223372036854775807) (t r : Int) (p : Bool) (B : Bool) (hB : B = true ↔ mayRows l m) (w : World) (hSl : SRow w x l) (hSm : SRow w y m) :
    Calls Try.prog 76 #[.agg #[.slice x l.length cx, .slice y m.length cy, .int .u64 t, .int .u64 r, .bool p]] w fun e w' => e = .returned (.bool B) ∧ Below w.heap.size w w' := by
  have HWL := Lib.hid hwl
  have HWM := Lib.hid hwm
  have HB := Lib.hid hB
  have HSL := Lib.hid hSl
  have HSM := Lib.hid hSm
  obtain ⟨n, hn⟩ : ∃ n, l.length = n := ⟨_, rfl⟩
  have HN := Lib.hid hn
  obtain ⟨k, hk⟩ : ∃ n, m.length = n := ⟨_, rfl⟩
  have HK := Lib.hid hk
  rw [hn] at hll
  rw [hk] at hml
  rw [hn, hk]
  clear hwl hwm hB hSl hSm hn hk
  have hnI : (n : Int) ≤ 9223372036854775807 := by omega
  have hkI : (k : Int) ≤ 9223372036854775807 := by omega
  by_cases h : n < 1
  · have hBf : B = false := by
      cases B
      · rfl
      · exact absurd (HB.out.1 rfl).1 (by rw [HN.out]; omega)
    subst hBf
    have hd : decide ((1 : Int) ≤ (n : Int)) = false := decide_eq_false (by omega)
    go_enter Try.func76, Try.ntmps76
    go_wp2_with fail
    go_ret
    exact ⟨rfl, (Below.refl _ _).alloc (Nat.le_refl _) _⟩
  have hd1 : (1 : Int) ≤ (n : Int) := by omega
  clear h
  by_cases h : 32 < n
  · have hBf : B = false := by
      cases B
      · rfl
      · exact absurd (HB.out.1 rfl).2.1 (by rw [HN.out]; omega)
    subst hBf
    have hd : decide ((n : Int) ≤ 32) = false := decide_eq_false (by omega)
    go_enter Try.func76, Try.ntmps76
    go_wp2_with fail
    go_ret
    exact ⟨rfl, (Below.refl _ _).alloc (Nat.le_refl _) _⟩
  have hd2 : (n : Int) ≤ 32 := by omega
  clear h
  by_cases h : 32 < k
  · have hBf : B = false := by
      cases B
      · rfl
      · exact absurd (HB.out.1 rfl).2.2.1 (by rw [HK.out]; omega)
    subst hBf
    have hd : decide ((k : Int) ≤ 32) = false := decide_eq_false (by omega)
    go_enter Try.func76, Try.ntmps76
    go_wp2_with fail
    go_ret
    exact ⟨rfl, (Below.refl _ _).alloc (Nat.le_refl _) _⟩
  have hd3 : (k : Int) ≤ 32 := by omega
  clear h
  go_enter Try.func76, Try.ntmps76
  go_wp2_with fail
  obtain ⟨w0, hw0⟩ : ∃ w0, w0 = w.alloc (.cells #[.slice x n cx, .slice y k cy, .int .u64 t, .int .u64 r, .bool p] 74 (0, 0)) := ⟨_, rfl⟩
  have b00 : Below w.heap.size w w0 := by rw [hw0]; exact (Below.refl _ _).alloc (Nat.le_refl _) _
  have A0 : AckAt w0 w.heap.size (.slice x n cx) (.slice y k cy) (.int .u64 t) (.int .u64 r) (.bool p) := by rw [hw0]; exact AckAt.alloc w _ _ _ _ _
  have SL0 := HSL.out.below b00
  have SM0 := HSM.out.below b00
  rw [← hw0]
  clear hw0
  by_cases h1 : withinAll l l
  case neg =>
    have hBf : B = false := by
      cases B
      · rfl
      · exact absurd (⟨(HB.out.1 rfl).2.2.2.1, (HB.out.1 rfl).2.2.2.1, inside_self l⟩ : withinAll l l) h1
    subst hBf
    have C := sWithin x x cx cx l l HWL.out HWL.out (by rw [HN.out]; omega) (by rw [HN.out]; omega) false ⟨fun h => by simp at h, fun h => absurd h h1⟩ w0 SL0 SL0
    rw [HN.out] at C
    refine C.mono ?_; rintro e' w1 ⟨rfl, b1⟩
    have b01 := b00.trans (b1.mono b00.size)
    go_wp2_with fail
    go_ret
    exact ⟨rfl, b01⟩
  have C := sWithin x x cx cx l l HWL.out HWL.out (by rw [HN.out]; omega) (by rw [HN.out]; omega) true ⟨fun _ => h1, fun _ => rfl⟩ w0 SL0 SL0
  rw [HN.out] at C
  refine C.mono ?_; rintro e' w1 ⟨rfl, b1⟩
  have b01 := b00.trans (b1.mono b00.size)
  have A1 := A0.belowB A0.lt b1
  have SL1 := SL0.below b1
  have SM1 := SM0.below b1
  clear C A0 SL0 SM0 b1
  obtain ⟨d0, d1, d2, d3, d4⟩ := A1.cells.1
  go_wp2_with fail
  clear d0 d1 d2 d3 d4
  by_cases h2 : withinAll m l
  case neg =>
    have hBf : B = false := by
      cases B
      · rfl
      · exact absurd (⟨(HB.out.1 rfl).2.2.2.2.1, (HB.out.1 rfl).2.2.2.1, (HB.out.1 rfl).2.2.2.2.2⟩ : withinAll m l) h2
    subst hBf
    have C := sWithin y x cy cx m l HWM.out HWL.out (by rw [HK.out]; omega) (by rw [HN.out]; omega) false ⟨fun h => by simp at h, fun h => absurd h h2⟩ w1 SM1 SL1
    rw [HN.out, HK.out] at C
    refine C.mono ?_; rintro e' w2 ⟨rfl, b2⟩
    have b02 := b01.trans (b2.mono b01.size)
    go_wp2_with fail
    go_ret
    exact ⟨rfl, b02⟩
  have C := sWithin y x cy cx m l HWM.out HWL.out (by rw [HK.out]; omega) (by rw [HN.out]; omega) true ⟨fun _ => h2, fun _ => rfl⟩ w1 SM1 SL1
  rw [HN.out, HK.out] at C
  refine C.mono ?_; rintro e' w2 ⟨rfl, b2⟩
  have b02 := b01.trans (b2.mono b01.size)
  have A2 := A1.belowB A1.lt b2
  have SL2 := SL1.below b2
  have SM2 := SM1.below b2
  clear C A1 SL1 SM1 b2
  have hBt : B = true := HB.out.2 ⟨by rw [HN.out]; omega, by rw [HN.out]; omega, by rw [HK.out]; omega, h2.2.1, h2.1, h2.2.2⟩
  subst hBt
  go_wp2_with fail
  go_ret
  exact ⟨rfl, b02⟩

end Go.Proofs.Ytikkmdbaekdolaa

/- honesty, plainly: what a row of numbers that came comes to, and that both judges look for the same. -/
namespace Go.Proofs.Ytikkmdbaekdolaa
open Go.RowKit Go.Lib
set_option linter.unusedVariables false
set_option maxRecDepth 100000

/-- is it one of the row's numbers? (by its elements) -/
def hasM (l : List (Int × Int)) (p : Int) : Prop := ∃ s ∈ l, s.1 ≤ p ∧ p ≤ s.2
theorem has_iff (l : List (Int × Int)) (p : Int) : hasP l p ↔ hasM l p := by
  constructor
  · rintro ⟨j, hj, h1, h2⟩
    rw [List.getD_eq_getElem?_getD, List.getElem?_eq_getElem hj] at h1 h2
    exact ⟨l[j], List.getElem_mem hj, h1, h2⟩
  · rintro ⟨s, hs, h1, h2⟩
    obtain ⟨j, hj, e⟩ := List.getElem_of_mem hs
    refine ⟨j, hj, ?_, ?_⟩ <;> rw [List.getD_eq_getElem?_getD, List.getElem?_eq_getElem hj, e] <;> assumption
theorem hasM_cons (s : Int × Int) (l : List (Int × Int)) (p : Int) : hasM (s :: l) p ↔ (s.1 ≤ p ∧ p ≤ s.2) ∨ hasM l p := by
  unfold hasM
  constructor
  · rintro ⟨x, hx, h⟩
    rcases List.mem_cons.1 hx with rfl | hx
    · exact .inl h
    · exact .inr ⟨x, hx, h⟩
  · rintro (h | ⟨x, hx, h⟩)
    · exact ⟨s, List.mem_cons_self, h⟩
    · exact ⟨x, List.mem_cons_of_mem _ hx, h⟩
theorem hasM_nil (p : Int) : ¬ hasM [] p := fun ⟨_, h, _⟩ => by cases h

theorem absorb_has : ∀ (l : List (Int × Int)) (a b low p : Int), GoodL low l → a ≤ b → (∀ s ∈ l, a ≤ s.2 + 1) → (hasM (absorbS l a b) p ↔ hasM l p ∨ (a ≤ p ∧ p ≤ b))
  | [], a, b, low, p, _, _, _ => by
    unfold absorbS
    rw [hasM_cons]
    exact or_comm
  | (lo, hi) :: l, a, b, low, p, hg, hab, hs => by
    obtain ⟨g1, g2, g3, g4⟩ := hg
    have h1 : a ≤ hi + 1 := hs (lo, hi) List.mem_cons_self
    unfold absorbS
    split
    · rename_i hc
      rw [absorb_has l (min a lo) (max b hi) (hi + 2) p g4 (by omega) (fun s h => by have := good_tail l (hi + 2) g4 s h; omega), hasM_cons]
      constructor
      · rintro (h | h)
        · exact .inl (.inr h)
        · by_cases h2 : a ≤ p ∧ p ≤ b
          · exact .inr h2
          · exact .inl (.inl ⟨by show lo ≤ p; omega, by show p ≤ hi; omega⟩)
      · rintro ((h | h) | h)
        · exact .inr ⟨by have : lo ≤ p := h.1; omega, by have : p ≤ hi := h.2; omega⟩
        · exact .inl h
        · exact .inr ⟨by omega, by omega⟩
    · rw [hasM_cons]
      exact or_comm
theorem add_has : ∀ (l : List (Int × Int)) (a b low p : Int), GoodL low l → a ≤ b → (hasM (addS l a b) p ↔ hasM l p ∨ (a ≤ p ∧ p ≤ b))
  | [], a, b, low, p, _, _ => by
    unfold addS
    rw [hasM_cons]
    exact or_comm
  | (lo, hi) :: l, a, b, low, p, hg, hab => by
    obtain ⟨g1, g2, g3, g4⟩ := hg
    unfold addS
    split
    · rw [hasM_cons, hasM_cons, add_has l a b (hi + 2) p g4 hab]
      exact or_assoc.symm
    · rename_i hc
      exact absorb_has ((lo, hi) :: l) a b low p ⟨g1, g2, g3, g4⟩ hab (fun s h => by
        rcases List.mem_cons.1 h with rfl | h
        · show a ≤ hi + 1; omega
        · have := good_tail l (hi + 2) g4 s h; omega)

/-- numbers one behind the other that are all in a good row lie in one span of it -/
theorem inside_run (A : List (Int × Int)) (hA : goodAll A) (lo : Int) : ∀ m : Nat, (∀ p, lo ≤ p → p ≤ lo + m → hasP A p) → insideAt A (lo, lo + m)
  | 0, h => by
    obtain ⟨j, hj, h1, h2⟩ := h lo (Int.le_refl _) (by omega)
    exact ⟨j, hj, h1, by show lo + ((0 : Nat) : Int) ≤ _; omega⟩
  | m + 1, h => by
    obtain ⟨j, hj, h1, h2⟩ := inside_run A hA lo m (fun p h1 h2 => h p h1 (by omega))
    obtain ⟨i, hi, h3, h4⟩ := h (lo + (m + 1 : Nat)) (by omega) (by omega)
    have h1 : (A.getD j (0, 0)).1 ≤ lo := h1
    have h2 : lo + (m : Int) ≤ (A.getD j (0, 0)).2 := h2
    rcases (by omega : i = j ∨ i < j ∨ j < i) with rfl | hij | hij
    · exact ⟨i, hi, h1, by show lo + ((m + 1 : Nat) : Int) ≤ _; omega⟩
    · have := goodAll_lt hA i j hij hj
      have := (hA i hi).1.1
      omega
    · have := goodAll_lt hA j i hij hi
      have h5 : (A.getD i (0, 0)).1 ≤ lo + (m + 1 : Nat) := h3
      omega

/-- so many numbers that all differ take so many packets -/
theorem pigeon (l : List DatP) : ∀ (n : Nat) (ps : List Int), ps.Nodup → (∀ p ∈ ps, seenB l n p = true) → ps.length ≤ n
  | 0, ps, _, h => by
    cases ps with
    | nil => exact Nat.le_refl _
    | cons p ps => exact absurd (h p List.mem_cons_self) (by unfold seenB; decide)
  | n + 1, ps, hd, h => by
    have key := pigeon l n (ps.erase (l.getD n zD).pn) (hd.erase _) (fun p hp => by
      have hm := (List.Nodup.mem_erase_iff hd).1 hp
      have := h p hm.2
      unfold seenB at this
      rw [decide_eq_false (fun e => hm.1 e.symm), Bool.or_false] at this
      exact this)
    by_cases hm : (l.getD n zD).pn ∈ ps
    · have := List.length_erase_of_mem hm
      omega
    · rw [List.erase_of_not_mem hm] at key
      omega
def runL (lo : Int) : Nat → List Int
  | 0 => []
  | m + 1 => (lo + m) :: runL lo m
theorem runL_mem (lo : Int) : ∀ (m : Nat) (p : Int), p ∈ runL lo m ↔ lo ≤ p ∧ p < lo + m
  | 0, p => ⟨fun h => (by cases h), fun h => (by omega)⟩
  | m + 1, p => by
    rw [show runL lo (m + 1) = (lo + m) :: runL lo m from rfl, List.mem_cons, runL_mem lo m p]
    omega
theorem runL_nodup (lo : Int) : ∀ m : Nat, (runL lo m).Nodup
  | 0 => List.nodup_nil
  | m + 1 => by
    rw [show runL lo (m + 1) = (lo + m) :: runL lo m from rfl, List.nodup_cons]
    exact ⟨fun h => by have := (runL_mem lo m _).1 h; omega, runL_nodup lo m⟩
theorem runL_len (lo : Int) : ∀ m : Nat, (runL lo m).length = m
  | 0 => rfl
  | m + 1 => by rw [show runL lo (m + 1) = (lo + m) :: runL lo m from rfl, List.length_cons, runL_len lo m]

/-- the row of all that came, of numbers that may be -/
def allC (l : List DatP) : Nat → List (Int × Int)
  | 0 => []
  | n + 1 => if (l.getD n zD).pn ≤ 4611686018427387903 ∧ seenB l n (l.getD n zD).pn = false then addS (allC l n) (l.getD n zD).pn (l.getD n zD).pn else allC l n
theorem allC_good (l : List DatP) (hf : CFit l) : ∀ n, n ≤ l.length → GoodL 0 (allC l n)
  | 0, _ => trivial
  | n + 1, hn => by
    have h := allC_good l hf n (by omega)
    have h1 := (hf n (by omega)).1
    unfold allC
    split
    · rename_i hc
      exact addS_good _ _ _ _ h h1.1 (Int.le_refl _) hc.1
    · exact h
theorem allC_has (l : List DatP) (hf : CFit l) : ∀ n, n ≤ l.length → ∀ p, hasM (allC l n) p ↔ p ≤ 4611686018427387903 ∧ seenB l n p = true
  | 0, _, p => by
    unfold allC seenB
    exact ⟨fun h => absurd h (hasM_nil p), fun h => by cases h.2⟩
  | n + 1, hn, p => by
    have h := allC_has l hf n (by omega) p
    have hs : seenB l (n + 1) p = (seenB l n p || decide ((l.getD n zD).pn = p)) := rfl
    unfold allC
    split
    · rename_i hc
      rw [add_has _ _ _ 0 p (allC_good l hf n (by omega)) (Int.le_refl _), h, hs, Bool.or_eq_true, decide_eq_true_iff]
      constructor
      · rintro (⟨h1, h2⟩ | ⟨h1, h2⟩)
        · exact ⟨h1, .inl h2⟩
        · exact ⟨by omega, .inr (by omega)⟩
      · rintro ⟨h1, h2 | h2⟩
        · exact .inl ⟨h1, h2⟩
        · exact .inr ⟨by omega, by omega⟩
    · rename_i hc
      rw [h, hs, Bool.or_eq_true, decide_eq_true_iff]
      constructor
      · rintro ⟨h1, h2⟩
        exact ⟨h1, .inl h2⟩
      · rintro ⟨h1, h2 | h2⟩
        · exact ⟨h1, h2⟩
        · refine ⟨h1, ?_⟩
          cases hb : seenB l n p
          · exact absurd ⟨by omega, by rw [h2]; exact hb⟩ hc
          · rfl

/-- a packet that came marked, is claimed, and is not told so -/
def badC (S M : List (Int × Int)) (d : DatP) : Prop := d.ecn = 3 ∧ hasP S d.pn ∧ ¬ hasP M d.pn
/-- what the program looks for -/
def honP (l : List DatP) (S M : List (Int × Int)) : Prop := mayRows S M ∧ (∀ j, j < l.length → (l.getD j zD).pn ≤ 4611686018427387903 → seenB l j (l.getD j zD).pn = false → ¬ badC S M (l.getD j zD)) ∧ withinAll S (allC l l.length)
/-- what the definition says -/
def honR (l : List DatP) (S M : List (Int × Int)) : Prop := mayRows S M ∧ ∀ i, i < S.length → (S.getD i (0, 0)).2 - (S.getD i (0, 0)).1 < l.length ∧ ∀ p, (S.getD i (0, 0)).1 ≤ p → p ≤ (S.getD i (0, 0)).2 → seenB l l.length p = true ∧ ¬ ((firstD l l.length p).ecn = 3 ∧ ¬ hasP M p)

/-- a number that came has a first packet -/
theorem first_at (l : List DatP) (p : Int) : ∀ n, seenB l n p = true → ∃ j, j < n ∧ (l.getD j zD).pn = p ∧ seenB l j p = false ∧ ∀ m, j < m → firstD l m p = l.getD j zD
  | 0, h => by unfold seenB at h; cases h
  | n + 1, h => by
    cases hb : seenB l n p
    · have e : (l.getD n zD).pn = p := by
        have h' : (seenB l n p || decide ((l.getD n zD).pn = p)) = true := h
        rw [hb, Bool.false_or] at h'
        exact of_decide_eq_true h'
      exact ⟨n, by omega, e, hb, fun m hm => firstD_hit hb e m hm⟩
    · obtain ⟨j, h1, h2, h3, h4⟩ := first_at l p n hb
      exact ⟨j, by omega, h2, h3, h4⟩

theorem hon_same (l : List DatP) (S M : List (Int × Int)) (hf : CFit l) : honP l S M ↔ honR l S M := by
  have hA := allC_good l hf l.length (Nat.le_refl _)
  have hAa := (goodL_all _ 0 (Int.le_refl _) hA).1
  have hH := allC_has l hf l.length (Nat.le_refl _)
  constructor
  · rintro ⟨hm, hb, _, _, hin⟩
    refine ⟨hm, fun i hi => ?_⟩
    have hgS := hm.2.2.2.1
    have hr := (hgS i hi).1
    have hseen : ∀ p, (S.getD i (0, 0)).1 ≤ p → p ≤ (S.getD i (0, 0)).2 → seenB l l.length p = true := fun p h1 h2 => by
      obtain ⟨j, hj, h3, h4⟩ := hin i hi
      exact ((hH p).1 ((has_iff _ p).1 ⟨j, hj, by omega, by omega⟩)).2
    constructor
    · obtain ⟨m, hm2⟩ := Int.eq_ofNat_of_zero_le (show 0 ≤ (S.getD i (0, 0)).2 - (S.getD i (0, 0)).1 by have := hr.1; omega)
      have := pigeon l l.length (runL (S.getD i (0, 0)).1 (m + 1)) (runL_nodup _ _) (fun p hp => by
        have := (runL_mem _ _ p).1 hp
        exact hseen p this.1 (by omega))
      rw [runL_len] at this
      omega
    · intro p h1 h2
      have hs := hseen p h1 h2
      refine ⟨hs, fun hbad => ?_⟩
      obtain ⟨j, hj, e, hno, hfd⟩ := first_at l p l.length hs
      rw [hfd l.length hj] at hbad
      refine hb j hj (by rw [e]; have := hr.2; omega) (by rw [e]; exact hno) ⟨hbad.1, ?_, ?_⟩
      · rw [e]; exact ⟨i, hi, h1, h2⟩
      · rw [e]; exact hbad.2
  · rintro ⟨hm, hr⟩
    refine ⟨hm, fun j hj hpn hno hbad => ?_, hm.2.2.2.1, hAa, fun i hi => ?_⟩
    · obtain ⟨h1, ⟨i, hi, h2, h3⟩, h4⟩ := hbad
      obtain ⟨hs, hnb⟩ := (hr i hi).2 _ h2 h3
      rw [firstD_hit hno rfl l.length hj] at hnb
      exact hnb ⟨h1, h4⟩
    · have hgr := (hm.2.2.2.1 i hi).1
      obtain ⟨m, hm2⟩ := Int.eq_ofNat_of_zero_le (show 0 ≤ (S.getD i (0, 0)).2 - (S.getD i (0, 0)).1 by have := hgr.1; omega)
      have hrun := inside_run (allC l l.length) hAa (S.getD i (0, 0)).1 m (fun p h1 h2 => (has_iff _ p).2 ((hH p).2 ⟨by have := hgr.2; omega, ((hr i hi).2 p h1 (by omega)).1⟩))
      obtain ⟨j, hj, h3, h4⟩ := hrun
      exact ⟨j, hj, h3, by have h4 : (S.getD i (0, 0)).1 + (m : Int) ≤ ((allC l l.length).getD j (0, 0)).2 := h4; omega⟩

end Go.Proofs.Ytikkmdbaekdolaa

/- package ack: Decode, for all bytes. -/
namespace Go.Proofs.Ytikkmdbaekdolaa
open Go.RowKit Go.Lib
set_option linter.unusedVariables false
set_option maxRecDepth 100000

theorem AckAt.kept {w w' : World} {D : Nat} {c0 c1 c2 c3 c4 : Value} (h : AckAt w D c0 c1 c2 c3 c4) {p : Nat} (hp : D ≠ p) (k : Kept p w w') : AckAt w' D c0 c1 c2 c3 c4 := by
  unfold AckAt
  rw [k D hp h.lt]
  exact h
theorem AckAt.noByte {w : World} {D : Nat} {c0 c1 c2 c3 c4 : Value} (h : AckAt w D c0 c1 c2 c3 c4) (n : ∀ x, c0 ≠ .int .u8 x ∧ c1 ≠ .int .u8 x ∧ c2 ≠ .int .u8 x ∧ c3 ≠ .int .u8 x ∧ c4 ≠ .int .u8 x) : ∀ j x, w.cell? ⟨D, j, none⟩ ≠ some (.int .u8 x) := by
  intro j x
  obtain ⟨h0, h1, h2, h3, h4⟩ := n x
  rw [cell_of_row w D j _ _ _ h]
  match j with
  | 0 => simpa using h0
  | 1 => simpa using h1
  | 2 => simpa using h2
  | 3 => simpa using h3
  | 4 => simpa using h4
  | j + 5 => simp

/-- a row of its own, from a block on -/
def SIn (w : World) (B : Nat) (x : Option Addr) (l : List (Int × Int)) : Prop := l = [] ∨ ∃ g, B ≤ g ∧ x = some ⟨g, 0, none⟩ ∧ SpansAt w g 0 l
theorem SIn.row {w : World} {B : Nat} {x : Option Addr} {l : List (Int × Int)} (h : SIn w B x l) : SRow w x l := by
  rcases h with h | ⟨g, _, h1, h2⟩
  · exact .inl h
  · exact .inr ⟨g, 0, h1, h2⟩
theorem SIn.kept {w w' : World} {B p : Nat} {x : Option Addr} {l : List (Int × Int)} (h : SIn w B x l) (hp : p < B) (k : Kept p w w') (hs : w.heap.size ≤ w'.heap.size) : SIn w' B x l := by
  rcases h with h | ⟨g, h0, h1, h2, h3⟩
  · exact .inl h
  · have e : ∀ i, w'.cell? ⟨g, i, none⟩ = w.cell? ⟨g, i, none⟩ := fun i => by
      unfold World.cell?
      rw [k g (by omega) h2]
    exact .inr ⟨g, h0, h1, Nat.lt_of_lt_of_le h2 hs, fun i hi => by rw [e, e]; exact h3 i hi⟩
theorem SIn.set {w : World} {B D : Nat} {x : Option Addr} {l : List (Int × Int)} (h : SIn w B x l) (hD : D < B) (i : Nat) (v : Value) : SIn (w.setCell ⟨D, i, none⟩ v) B x l := by
  rcases h with h | ⟨g, h0, h1, h2, h3⟩
  · exact .inl h
  · have e : ∀ k, (w.setCell ⟨D, i, none⟩ v).cell? ⟨g, k, none⟩ = w.cell? ⟨g, k, none⟩ := fun k => World.cell?_setCell_other _ _ _ _ (by intro e; injection e with e1; omega)
    exact .inr ⟨g, h0, h1, by simpa using h2, fun i hi => by rw [e, e]; exact h3 i hi⟩
theorem SIn.below {w w' : World} {B : Nat} {x : Option Addr} {l : List (Int × Int)} (h : SIn w B x l) (hb : Below w.heap.size w w') : SIn w' B x l := by
  rcases h with h | ⟨g, h0, h1, h2⟩
  · exact .inl h
  · exact .inr ⟨g, h0, h1, h2.below hb⟩
theorem SIn.ofOwn {w : World} {B : Nat} {v : Value} {l : List (Int × Int)} (h : w.ownsRow B 80 2 v l.length (flatS l)) : ∃ x c, v = .slice x l.length c ∧ SIn w B x l := by
  obtain ⟨x, c, hv, hS⟩ := rowAt_own h
  refine ⟨x, c, hv, ?_⟩
  rcases hS with hS | ⟨g, o, rfl, hS⟩
  · exact .inl hS
  · obtain ⟨_, ⟨h2, _⟩ | ⟨g', c', cur, h2, h3, _⟩⟩ := h
    · rw [hv] at h2
      simp at h2
    · rw [hv] at h2
      injection h2 with e1 e2 e3
      injection e1 with e1
      injection e1 with e4 e5 e6
      subst e4 e5
      exact .inr ⟨g, h3, rfl, hS⟩

theorem withinAll_of {m s : List (Int × Int)} (hm : goodAll m) (hs : goodAll s) : decide (insideAll m s) = true ↔ withinAll m s := by
  rw [decide_eq_true_iff]
  exact ⟨fun h => ⟨hm, hs, h⟩, fun h => h.2.2⟩

set_option maxHeartbeats 16000000 in
set_option maxRecDepth 100000 in
theorem aDecode (bv : Value) (bs : List Int) (hb : ∀ x ∈ bs, 0 ≤ x ∧ x ≤ 255) (hlen : bs.length ≤ 140737488351232) (w : World) (hB : BodyAt w bv bs) (E : Int) (d : AckD) (hG : getA bs = (E, d)) :
    Calls Try.prog 84 #[bv] w fun e w' => ∃ v u, e = .returned (.tuple #[ackV d v u, .int .i64 E]) ∧ Below w.heap.size w w' ∧ RowAt w' v d.spans ∧ RowAt w' u d.marked := by
  go_enter Try.func84, Try.ntmps84
  go_wp2_with fail
  refine (oNewAny bv bs hlen _ (hB.below ((Below.refl _ _).alloc (Nat.le_refl _) _))).mono ?_; rintro e' w1 ⟨p, rfl, hp, hp1, b1, R1⟩
  have H1 : AckAt w1 w.heap.size (.slice none 0 0) (.slice none 0 0) (.int .u64 0) (.int .u64 0) (.bool false) := AckAt.belowB (AckAt.alloc w _ _ _ _ _) (by simp) b1
  have b01 : Below w.heap.size w w1 := ((Below.refl _ _).alloc (Nat.le_refl _) _).trans (b1.mono (by simp))
  rw [show (w.alloc (.cells #[.slice none 0 0, .slice none 0 0, .int .u64 0, .int .u64 0, .bool false] 74 (0, 0))).heap.size = w.heap.size + 1 by simp] at hp
  clear b1 hB
  obtain ⟨b0, hb0⟩ : ∃ n, n = w.heap.size := ⟨_, rfl⟩
  rw [← hb0] at hp H1
  rcases bs with _ | ⟨k, bs⟩
  · rw [getA, Prod.mk.injEq] at hG
    obtain ⟨rfl, rfl⟩ := hG
    go_wp2_with fail
    refine (takeShort [] 1 (by simp) _ p R1).mono ?_; rintro e' w' ⟨rfl, rfl⟩
    obtain ⟨⟨a0, a1, a2, a3, a4⟩, fz⟩ := H1.cells
    have z0 := fz 0
    have z1 := fz 1
    have z2 := fz 2
    have z3 := fz 3
    have z4 := fz 4
    rw [hb0] at a0 a1 a2 a3 a4 z0 z1 z2 z3 z4
    go_wp2_with fail
    refine bodyPost_ret (v := .tuple #[.agg #[.slice none 0 0, .slice none 0 0, .int .u64 0, .int .u64 0, .bool false], .int .i64 2]) (by simp [results, Try.results84, go_sem, a0, a1, a2, a3, a4]) rfl ⟨.slice none 0 0, .slice none 0 0, rfl, by repeat (first | with_reducible exact b01 | with_reducible refine Below.setCell ?_ (by first | (simp; done) | (simp; omega) | omega) _), RowAt.nil _, RowAt.nil _⟩
  have hk := hb k (by simp)
  have hz : ∀ x ∈ bs, 0 ≤ x ∧ x ≤ 255 := fun x hx => hb x (by simp [hx])
  simp only [List.length_cons] at hlen
  go_wp2_with fail
  refine (takeHere (k :: bs) 1 (by omega) (by simp) (by simp only [List.length_cons]; omega) _ p R1).mono ?_; rintro e' w2 ⟨q, qc, rfl, BQ, b2, R2, _⟩
  have R2 : RdAt w2 p bs := R2
  have H2 := H1.belowB (by omega) b2
  have b02 : Below w.heap.size w w2 := b01.trans (b2.mono (by omega))
  have ck : w2.cell? ⟨q, 0, none⟩ = some (.int .u8 k) := by simpa using BQ.at 0 k rfl
  have p2 := R2.1
  clear BQ b2 R1 H1 b01 hp1
  by_cases hk1 : k = 2
  case neg =>
    rw [getA, if_neg hk1, Prod.mk.injEq] at hG
    obtain ⟨rfl, rfl⟩ := hG
    have hd : (k != 2) = true := by rw [bne_iff_ne]; exact hk1
    obtain ⟨⟨a0, a1, a2, a3, a4⟩, fz⟩ := H2.cells
    have z0 := fz 0
    have z1 := fz 1
    have z2 := fz 2
    have z3 := fz 3
    have z4 := fz 4
    rw [hb0] at a0 a1 a2 a3 a4 z0 z1 z2 z3 z4
    go_wp2_with fail
    refine bodyPost_ret (v := .tuple #[.agg #[.slice none 0 0, .slice none 0 0, .int .u64 0, .int .u64 0, .bool false], .int .i64 4]) (by simp [results, Try.results84, go_sem, a0, a1, a2, a3, a4]) rfl ⟨.slice none 0 0, .slice none 0 0, rfl, by repeat (first | with_reducible exact b02 | with_reducible refine Below.setCell ?_ (by first | (simp; done) | (simp; omega) | omega) _), RowAt.nil _, RowAt.nil _⟩
  subst hk1
  rw [getA, if_pos rfl] at hG
  go_wp2_with fail
  obtain ⟨w3, hw3⟩ : ∃ w3, w3 = w2.alloc (.cells #[.slice none 0 0, .slice none 0 0, .int .u64 0, .int .u64 0, .bool false] 74 (0, 0)) := ⟨_, rfl⟩
  have b3 : Below w2.heap.size w2 w3 := by rw [hw3]; exact (Below.refl _ _).alloc (Nat.le_refl _) _
  have b03 : Below w.heap.size w w3 := b02.trans (b3.mono b02.size)
  have R3 := R2.below b3
  have H3 := H2.belowB H2.lt b3
  have D3 : AckAt w3 w2.heap.size (.slice none 0 0) (.slice none 0 0) (.int .u64 0) (.int .u64 0) (.bool false) := by rw [hw3]; exact AckAt.alloc w2 _ _ _ _ _
  rw [← hw3]
  clear hw3 b3 R2 H2 ck b02
  obtain ⟨D, hD⟩ : ∃ n, n = w2.heap.size := ⟨_, rfl⟩
  rw [← hD] at p2 D3
  rw [← hD]
  clear hD
  have hpD : p ≠ D := by omega
  have hDp : D ≠ p := by omega
  have hbD : b0 ≠ D := by omega
  have hDb : D ≠ b0 := by omega
  have hpb : b0 < p := by omega
  have hpb2 : b0 ≤ p := by omega
  have hwD : w.heap.size ≠ D := by omega
  have hDw : D ≠ w.heap.size := by omega
  obtain ⟨es, s, ss, hRs⟩ : ∃ e s r, getRowF 1 bs = (e, s, r) := ⟨_, _, _, rfl⟩
  rw [getA1, hRs] at hG
  simp only at hG
  refine (aSpans p 1 (by omega) bs hz (by omega) es s ss hRs _ R3).mono ?_; rintro e' w4 ⟨vs, rfl, b4, K4, ns, os⟩
  have H4 := H3.belowB hpb b4
  have D4 := D3.kept hDp K4
  have b04 : Below w.heap.size w w4 := b03.trans (b4.mono (by omega))
  obtain ⟨Bs, hBs⟩ : ∃ n, n = w3.heap.size := ⟨_, rfl⟩
  have hDs : D < Bs := by rw [hBs]; exact D3.lt
  have hps : p < Bs := by rw [hBs]; exact R3.1
  have hbs : b0 < Bs := by rw [hBs]; exact H3.lt
  rw [← hBs] at os
  clear hBs b4 K4 R3 H3 D3 b03
  obtain ⟨⟨d0, d1, d2, d3, d4⟩, dz⟩ := D4.cells
  have y0 := dz 0
  obtain ⟨⟨a0, a1, a2, a3, a4⟩, fz⟩ := H4.cells
  have x0 := fz 0
  have x1 := fz 1
  have x2 := fz 2
  have x3 := fz 3
  have x4 := fz 4
  rw [hb0] at a0 a1 a2 a3 a4 x0 x1 x2 x3 x4
  by_cases he : es = 0
  case neg =>
    rw [if_neg he, Prod.mk.injEq] at hG
    obtain ⟨rfl, rfl⟩ := hG
    obtain rfl := ns he
    have hd : (es != 0) = true := by rw [bne_iff_ne]; exact he
    go_wp2_with fail
    refine bodyPost_ret (v := .tuple #[.agg #[.slice none 0 0, .slice none 0 0, .int .u64 0, .int .u64 0, .bool false], .int .i64 es]) (by simp [results, Try.results84, go_sem, a0, a1, a2, a3, a4]) rfl ⟨.slice none 0 0, .slice none 0 0, rfl, by repeat (first | with_reducible exact b04 | with_reducible refine Below.setCell ?_ (by first | (simp; done) | (simp; omega) | omega) _), RowAt.nil _, RowAt.nil _⟩
  subst he
  rw [if_pos rfl] at hG
  obtain ⟨R4, own⟩ := os rfl
  obtain ⟨xas, cas, rfl, Ss4⟩ := SIn.ofOwn own
  obtain ⟨gs, _, ls, gg, zs⟩ := getRowF_ok 1 bs ss s hz hRs
  have qs : ss.length ≤ 140737488351232 := by
    have := congrArg List.length gg
    rw [List.length_append] at this
    omega
  have Gs := Lib.hid gs
  clear os ns own hRs gg gs
  go_wp2_with fail
  obtain ⟨w5, hw5⟩ : ∃ w5, w5 = w4.setCell ⟨D, 0, none⟩ (.slice xas s.length cas) := ⟨_, rfl⟩
  have R5 := RdAt.set R4 (⟨D, 0, none⟩ : Addr) hDp (D4.noByte (fun x => ⟨by simp, by simp, by simp, by simp, by simp⟩)) (.slice xas s.length cas)
  rw [← hw5] at R5
  have H5 : AckAt w5 b0 (.slice none 0 0) (.slice none 0 0) (.int .u64 0) (.int .u64 0) (.bool false) := by unfold AckAt; rw [hw5, kept_set _ _ _ _ hbD]; exact H4
  have D5 : AckAt w5 D (.slice xas s.length cas) (.slice none 0 0) (.int .u64 0) (.int .u64 0) (.bool false) := by rw [hw5]; exact heap_set_self _ _ _ _ _ _ _ D4
  have b05 : Below w.heap.size w w5 := by rw [hw5]; exact Below.setCell b04 (by simp; omega) _
  have Ss5 : SIn w5 Bs xas s := by rw [hw5]; exact Ss4.set hDs _ _
  rw [← hw5]
  clear d0 d1 d2 d3 d4 dz a0 a1 a2 a3 a4 fz x0 x1 x2 x3 x4
  clear y0
  clear hw5 R4 H4 D4 b04 Ss4
  obtain ⟨em, m, ms, hRm⟩ : ∃ e s r, getRowF 0 ss = (e, s, r) := ⟨_, _, _, rfl⟩
  rw [getA2, hRm] at hG
  simp only at hG
  refine (aSpans p 0 (by omega) ss zs (by omega) em m ms hRm _ R5).mono ?_; rintro e' w6 ⟨vm, rfl, b6, K6, nm, om⟩
  have H6 := H5.belowB hpb b6
  have D6 := D5.kept hDp K6
  have b06 : Below w.heap.size w w6 := b05.trans (b6.mono (by omega))
  have Ss6 := Ss5.kept hps K6 b6.size
  obtain ⟨Bm, hBm⟩ : ∃ n, n = w5.heap.size := ⟨_, rfl⟩
  have hDm : D < Bm := by rw [hBm]; exact D5.lt
  have hpm : p < Bm := by rw [hBm]; exact R5.1
  have hbm : b0 < Bm := by rw [hBm]; exact H5.lt
  rw [← hBm] at om
  clear hBm b6 K6 R5 H5 D5 b05 Ss5
  obtain ⟨⟨d0, d1, d2, d3, d4⟩, dz⟩ := D6.cells
  have y1 := dz 1
  obtain ⟨⟨a0, a1, a2, a3, a4⟩, fz⟩ := H6.cells
  have x0 := fz 0
  have x1 := fz 1
  have x2 := fz 2
  have x3 := fz 3
  have x4 := fz 4
  rw [hb0] at a0 a1 a2 a3 a4 x0 x1 x2 x3 x4
  by_cases he : em = 0
  case neg =>
    rw [if_neg he, Prod.mk.injEq] at hG
    obtain ⟨rfl, rfl⟩ := hG
    obtain rfl := nm he
    have hd : (em != 0) = true := by rw [bne_iff_ne]; exact he
    go_wp2_with fail
    refine bodyPost_ret (v := .tuple #[.agg #[.slice none 0 0, .slice none 0 0, .int .u64 0, .int .u64 0, .bool false], .int .i64 em]) (by simp [results, Try.results84, go_sem, a0, a1, a2, a3, a4]) rfl ⟨.slice none 0 0, .slice none 0 0, rfl, by repeat (first | with_reducible exact b06 | with_reducible refine Below.setCell ?_ (by first | (simp; done) | (simp; omega) | omega) _), RowAt.nil _, RowAt.nil _⟩
  subst he
  rw [if_pos rfl] at hG
  obtain ⟨R6, own⟩ := om rfl
  obtain ⟨xam, cam, rfl, Sm6⟩ := SIn.ofOwn own
  obtain ⟨gm, _, lm, gg, zm⟩ := getRowF_ok 0 ss ms m zs hRm
  have qm : ms.length ≤ 140737488351232 := by
    have := congrArg List.length gg
    rw [List.length_append] at this
    omega
  have Gm := Lib.hid gm
  clear om nm own hRm gg gm
  go_wp2_with fail
  obtain ⟨w7, hw7⟩ : ∃ w7, w7 = w6.setCell ⟨D, 1, none⟩ (.slice xam m.length cam) := ⟨_, rfl⟩
  have R7 := RdAt.set R6 (⟨D, 1, none⟩ : Addr) hDp (D6.noByte (fun x => ⟨by simp, by simp, by simp, by simp, by simp⟩)) (.slice xam m.length cam)
  rw [← hw7] at R7
  have H7 : AckAt w7 b0 (.slice none 0 0) (.slice none 0 0) (.int .u64 0) (.int .u64 0) (.bool false) := by unfold AckAt; rw [hw7, kept_set _ _ _ _ hbD]; exact H6
  have D7 : AckAt w7 D (.slice xas s.length cas) (.slice xam m.length cam) (.int .u64 0) (.int .u64 0) (.bool false) := by rw [hw7]; exact heap_set_self _ _ _ _ _ _ _ D6
  have b07 : Below w.heap.size w w7 := by rw [hw7]; exact Below.setCell b06 (by simp; omega) _
  have Ss7 : SIn w7 Bs xas s := by rw [hw7]; exact Ss6.set hDs _ _
  have Sm7 : SIn w7 Bm xam m := by rw [hw7]; exact Sm6.set hDm _ _
  rw [← hw7]
  clear d0 d1 d2 d3 d4 dz a0 a1 a2 a3 a4 fz x0 x1 x2 x3 x4
  clear y1
  clear hw7 R6 H6 D6 b06 Ss6 Sm6
  obtain ⟨hH, hK⟩ := wordHere ms zm (by omega)
  have hZ := wordF_zero ms zm
  refine (hH _ p R7).mono ?_; rintro e' w8 ⟨rfl, b8, R8, K8⟩
  have H8 := H7.belowB hpb b8
  have D8 := D7.kept hDp K8
  have b08 : Below w.heap.size w w8 := b07.trans (b8.mono (by omega))
  have Ss8 := Ss7.kept hps K8 b8.size
  have Sm8 := Sm7.kept hpm K8 b8.size
  clear hH b8 K8 R7 H7 D7 b07 Ss7 Sm7
  rw [getA3] at hG
  obtain ⟨⟨d0, d1, d2, d3, d4⟩, dz⟩ := D8.cells
  have y2 := dz 2
  obtain ⟨⟨a0, a1, a2, a3, a4⟩, fz⟩ := H8.cells
  have x0 := fz 0
  have x1 := fz 1
  have x2 := fz 2
  have x3 := fz 3
  have x4 := fz 4
  rw [hb0] at a0 a1 a2 a3 a4 x0 x1 x2 x3 x4
  by_cases he : (wordF ms).2.2 = 0
  case neg =>
    rw [if_neg he, Prod.mk.injEq] at hG
    obtain ⟨hE, rfl⟩ := hG
    have hd : ((wordF ms).2.2 != 0) = true := by rw [bne_iff_ne]; exact he
    clear hZ hK
    generalize (wordF ms).2.2 = er at *
    generalize (wordF ms).1 = N at *
    subst hE
    go_wp2_with fail
    refine bodyPost_ret (v := .tuple #[.agg #[.slice none 0 0, .slice none 0 0, .int .u64 0, .int .u64 0, .bool false], .int .i64 er]) (by simp [results, Try.results84, go_sem, a0, a1, a2, a3, a4]) rfl ⟨.slice none 0 0, .slice none 0 0, rfl, by repeat (first | with_reducible exact b08 | with_reducible refine Below.setCell ?_ (by first | (simp; done) | (simp; omega) | omega) _), RowAt.nil _, RowAt.nil _⟩
  rw [if_pos he] at hG
  rw [he]
  obtain ⟨nt, hnt⟩ : ∃ n, n = (wordF ms).1 := ⟨_, rfl⟩
  obtain ⟨ts, hts⟩ : ∃ l, l = ms.drop (wordF ms).2.1 := ⟨_, rfl⟩
  have zt : ∀ x ∈ ts, 0 ≤ x ∧ x ≤ 255 := by rw [hts]; exact byte_drop zm _
  have qt : ts.length ≤ 140737488351232 := by rw [hts, List.length_drop]; omega
  rw [← hnt, ← hts] at hG
  rw [← hts] at R8
  rw [← hnt]
  clear hZ he hK hts hnt
  go_wp2_with fail
  obtain ⟨w9, hw9⟩ : ∃ w9, w9 = w8.setCell ⟨D, 2, none⟩ (.int .u64 nt) := ⟨_, rfl⟩
  have R9 := RdAt.set R8 (⟨D, 2, none⟩ : Addr) hDp (D8.noByte (fun x => ⟨by simp, by simp, by simp, by simp, by simp⟩)) (.int .u64 nt)
  rw [← hw9] at R9
  have H9 : AckAt w9 b0 (.slice none 0 0) (.slice none 0 0) (.int .u64 0) (.int .u64 0) (.bool false) := by unfold AckAt; rw [hw9, kept_set _ _ _ _ hbD]; exact H8
  have D9 : AckAt w9 D (.slice xas s.length cas) (.slice xam m.length cam) (.int .u64 nt) (.int .u64 0) (.bool false) := by rw [hw9]; exact heap_set_self _ _ _ _ _ _ _ D8
  have b09 : Below w.heap.size w w9 := by rw [hw9]; exact Below.setCell b08 (by simp; omega) _
  have Ss9 : SIn w9 Bs xas s := by rw [hw9]; exact Ss8.set hDs _ _
  have Sm9 : SIn w9 Bm xam m := by rw [hw9]; exact Sm8.set hDm _ _
  rw [← hw9]
  clear d0 d1 d2 d3 d4 dz a0 a1 a2 a3 a4 fz x0 x1 x2 x3 x4
  clear y2
  clear hw9 R8 H8 D8 b08 Ss8 Sm8
  obtain ⟨hH, hK⟩ := wordHere ts zt (by omega)
  have hZ := wordF_zero ts zt
  refine (hH _ p R9).mono ?_; rintro e' w10 ⟨rfl, b10, R10, K10⟩
  have H10 := H9.belowB hpb b10
  have D10 := D9.kept hDp K10
  have b010 : Below w.heap.size w w10 := b09.trans (b10.mono (by omega))
  have Ss10 := Ss9.kept hps K10 b10.size
  have Sm10 := Sm9.kept hpm K10 b10.size
  clear hH b10 K10 R9 H9 D9 b09 Ss9 Sm9
  rw [getA4] at hG
  obtain ⟨⟨d0, d1, d2, d3, d4⟩, dz⟩ := D10.cells
  have y3 := dz 3
  obtain ⟨⟨a0, a1, a2, a3, a4⟩, fz⟩ := H10.cells
  have x0 := fz 0
  have x1 := fz 1
  have x2 := fz 2
  have x3 := fz 3
  have x4 := fz 4
  rw [hb0] at a0 a1 a2 a3 a4 x0 x1 x2 x3 x4
  by_cases he : (wordF ts).2.2 = 0
  case neg =>
    rw [if_neg he, Prod.mk.injEq] at hG
    obtain ⟨hE, rfl⟩ := hG
    have hd : ((wordF ts).2.2 != 0) = true := by rw [bne_iff_ne]; exact he
    clear hZ hK
    generalize (wordF ts).2.2 = er at *
    generalize (wordF ts).1 = N at *
    subst hE
    go_wp2_with fail
    refine bodyPost_ret (v := .tuple #[.agg #[.slice none 0 0, .slice none 0 0, .int .u64 0, .int .u64 0, .bool false], .int .i64 er]) (by simp [results, Try.results84, go_sem, a0, a1, a2, a3, a4]) rfl ⟨.slice none 0 0, .slice none 0 0, rfl, by repeat (first | with_reducible exact b010 | with_reducible refine Below.setCell ?_ (by first | (simp; done) | (simp; omega) | omega) _), RowAt.nil _, RowAt.nil _⟩
  rw [if_pos he] at hG
  rw [he]
  obtain ⟨nx, hnx⟩ : ∃ n, n = (wordF ts).1 := ⟨_, rfl⟩
  obtain ⟨xs, hxs⟩ : ∃ l, l = ts.drop (wordF ts).2.1 := ⟨_, rfl⟩
  have zx : ∀ x ∈ xs, 0 ≤ x ∧ x ≤ 255 := by rw [hxs]; exact byte_drop zt _
  have qx : xs.length ≤ 140737488351232 := by rw [hxs, List.length_drop]; omega
  rw [← hnx, ← hxs] at hG
  rw [← hxs] at R10
  rw [← hnx]
  clear hZ he hK hxs hnx
  go_wp2_with fail
  obtain ⟨w11, hw11⟩ : ∃ w11, w11 = w10.setCell ⟨D, 3, none⟩ (.int .u64 nx) := ⟨_, rfl⟩
  have R11 := RdAt.set R10 (⟨D, 3, none⟩ : Addr) hDp (D10.noByte (fun x => ⟨by simp, by simp, by simp, by simp, by simp⟩)) (.int .u64 nx)
  rw [← hw11] at R11
  have H11 : AckAt w11 b0 (.slice none 0 0) (.slice none 0 0) (.int .u64 0) (.int .u64 0) (.bool false) := by unfold AckAt; rw [hw11, kept_set _ _ _ _ hbD]; exact H10
  have D11 : AckAt w11 D (.slice xas s.length cas) (.slice xam m.length cam) (.int .u64 nt) (.int .u64 nx) (.bool false) := by rw [hw11]; exact heap_set_self _ _ _ _ _ _ _ D10
  have b011 : Below w.heap.size w w11 := by rw [hw11]; exact Below.setCell b010 (by simp; omega) _
  have Ss11 : SIn w11 Bs xas s := by rw [hw11]; exact Ss10.set hDs _ _
  have Sm11 : SIn w11 Bm xam m := by rw [hw11]; exact Sm10.set hDm _ _
  rw [← hw11]
  clear d0 d1 d2 d3 d4 dz a0 a1 a2 a3 a4 fz x0 x1 x2 x3 x4
  clear y3
  clear hw11 R10 H10 D10 b010 Ss10 Sm10
  rcases xs with _ | ⟨pb, us⟩
  · rw [getA5, Prod.mk.injEq] at hG
    obtain ⟨rfl, rfl⟩ := hG
    refine (takeShort [] 1 (by simp) _ p R11).mono ?_; rintro e' w' ⟨rfl, rfl⟩
    obtain ⟨⟨a0, a1, a2, a3, a4⟩, fz⟩ := H11.cells
    have z0 := fz 0
    have z1 := fz 1
    have z2 := fz 2
    have z3 := fz 3
    have z4 := fz 4
    rw [hb0] at a0 a1 a2 a3 a4 z0 z1 z2 z3 z4
    go_wp2_with fail
    refine bodyPost_ret (v := .tuple #[.agg #[.slice none 0 0, .slice none 0 0, .int .u64 0, .int .u64 0, .bool false], .int .i64 2]) (by simp [results, Try.results84, go_sem, a0, a1, a2, a3, a4]) rfl ⟨.slice none 0 0, .slice none 0 0, rfl, by repeat (first | with_reducible exact b011 | with_reducible refine Below.setCell ?_ (by first | (simp; done) | (simp; omega) | omega) _), RowAt.nil _, RowAt.nil _⟩
  have hpb8 := zx pb (by simp)
  simp only [List.length_cons] at qx
  refine (takeHere (pb :: us) 1 (by omega) (by simp) (by simp only [List.length_cons]; omega) _ p R11).mono ?_; rintro e' w12 ⟨q, qc, rfl, BQ, b12, R12, K12, _⟩
  have R12 : RdAt w12 p us := R12
  have H12 := H11.belowB hpb b12
  have D12 := D11.kept hDp K12
  have b012 : Below w.heap.size w w12 := b011.trans (b12.mono (by omega))
  have Ss12 := Ss11.kept hps K12 b12.size
  have Sm12 := Sm11.kept hpm K12 b12.size
  have ck : w12.cell? ⟨q, 0, none⟩ = some (.int .u8 pb) := by simpa using BQ.at 0 pb rfl
  have hqb : q ≠ w.heap.size := fun e => by
    rw [← hb0] at e
    subst e
    exact H12.noByte (fun x => ⟨by simp, by simp, by simp, by simp, by simp⟩) 0 _ ck
  have hqD : q ≠ D := fun e => by
    subst e
    exact D12.noByte (fun x => ⟨by simp, by simp, by simp, by simp, by simp⟩) 0 _ ck
  clear BQ b12 K12 R11 H11 D11 b011 Ss11 Sm11
  rw [getA5] at hG
  obtain ⟨⟨d0, d1, d2, d3, d4⟩, dz⟩ := D12.cells
  have y4 := dz 4
  obtain ⟨⟨a0, a1, a2, a3, a4⟩, fz⟩ := H12.cells
  have x0 := fz 0
  have x1 := fz 1
  have x2 := fz 2
  have x3 := fz 3
  have x4 := fz 4
  rw [hb0] at a0 a1 a2 a3 a4 x0 x1 x2 x3 x4
  by_cases hx : 1 < pb
  · rw [if_pos hx, Prod.mk.injEq] at hG
    obtain ⟨rfl, rfl⟩ := hG
    go_wp2_with fail
    refine bodyPost_ret (v := .tuple #[.agg #[.slice none 0 0, .slice none 0 0, .int .u64 0, .int .u64 0, .bool false], .int .i64 5]) (by simp [results, Try.results84, go_sem, a0, a1, a2, a3, a4]) rfl ⟨.slice none 0 0, .slice none 0 0, rfl, by repeat (first | with_reducible exact b012 | with_reducible refine Below.setCell ?_ (by first | (simp; done) | (simp; omega) | omega) _), RowAt.nil _, RowAt.nil _⟩
  rw [if_neg hx] at hG
  have hd : decide (1 < pb) = false := decide_eq_false hx
  go_wp2_with fail
  obtain ⟨w13, hw13⟩ : ∃ w13, w13 = w12.setCell ⟨D, 4, none⟩ (.bool (pb == 1)) := ⟨_, rfl⟩
  have R13 := RdAt.set R12 (⟨D, 4, none⟩ : Addr) hDp (D12.noByte (fun x => ⟨by simp, by simp, by simp, by simp, by simp⟩)) (.bool (pb == 1))
  rw [← hw13] at R13
  have H13 : AckAt w13 b0 (.slice none 0 0) (.slice none 0 0) (.int .u64 0) (.int .u64 0) (.bool false) := by unfold AckAt; rw [hw13, kept_set _ _ _ _ hbD]; exact H12
  have D13 : AckAt w13 D (.slice xas s.length cas) (.slice xam m.length cam) (.int .u64 nt) (.int .u64 nx) (.bool (pb == 1)) := by rw [hw13]; exact heap_set_self _ _ _ _ _ _ _ D12
  have b013 : Below w.heap.size w w13 := by rw [hw13]; exact Below.setCell b012 (by simp; omega) _
  have Ss13 : SIn w13 Bs xas s := by rw [hw13]; exact Ss12.set hDs _ _
  have Sm13 : SIn w13 Bm xam m := by rw [hw13]; exact Sm12.set hDm _ _
  rw [← hw13]
  clear d0 d1 d2 d3 d4 dz a0 a1 a2 a3 a4 fz x0 x1 x2 x3 x4
  clear y4
  clear hw13 R12 H12 D12 b012 Ss12 Sm12
  clear hd hx ck hqb hqD
  refine (leftHere _ _ p R13).mono ?_; rintro e' w' ⟨rfl, rfl⟩
  obtain ⟨⟨d0, d1, d2, d3, d4⟩, dz⟩ := D13.cells
  obtain ⟨⟨a0, a1, a2, a3, a4⟩, fz⟩ := H13.cells
  have x0 := fz 0
  have x1 := fz 1
  have x2 := fz 2
  have x3 := fz 3
  have x4 := fz 4
  rw [hb0] at a0 a1 a2 a3 a4 x0 x1 x2 x3 x4
  obtain ⟨L, hL⟩ : ∃ L, us.length = L := ⟨_, rfl⟩
  rw [hL] at hG ⊢
  by_cases hlong : 0 < L
  · rw [if_pos hlong, Prod.mk.injEq] at hG
    obtain ⟨rfl, rfl⟩ := hG
    have hL3 : (0 : Int) < (L : Int) := by omega
    go_wp2_with fail
    refine bodyPost_ret (v := .tuple #[.agg #[.slice none 0 0, .slice none 0 0, .int .u64 0, .int .u64 0, .bool false], .int .i64 3]) (by simp [results, Try.results84, go_sem, a0, a1, a2, a3, a4]) rfl ⟨.slice none 0 0, .slice none 0 0, rfl, by repeat (first | with_reducible exact b013 | with_reducible refine Below.setCell ?_ (by first | (simp; done) | (simp; omega) | omega) _), RowAt.nil _, RowAt.nil _⟩
  rw [if_neg hlong] at hG
  obtain rfl : L = 0 := by omega
  clear hlong hL
  obtain ⟨gam, gwm, _⟩ := goodL_all m 0 (by omega) Gm.out
  obtain ⟨gas, gws, _⟩ := goodL_all s 0 (by omega) Gs.out
  go_wp2_with fail
  refine (sWithin xam xas cam cas m s gwm gws (by omega) (by omega) (decide (insideAll m s)) (withinAll_of gam gas) _ Sm13.row Ss13.row).mono ?_; rintro e' w14 ⟨rfl, b14⟩
  have H14 := H13.belowB H13.lt b14
  have D14 := D13.belowB D13.lt b14
  have b014 : Below w.heap.size w w14 := b013.trans (b14.mono b013.size)
  have Ss14 := Ss13.below b14
  have Sm14 := Sm13.below b14
  clear d0 d1 d2 d3 d4 dz a0 a1 a2 a3 a4 fz x0 x1 x2 x3 x4
  clear gam gwm gas gws b14 R13 H13 D13 b013 Ss13 Sm13
  obtain ⟨⟨d0, d1, d2, d3, d4⟩, dz⟩ := D14.cells
  obtain ⟨⟨a0, a1, a2, a3, a4⟩, fz⟩ := H14.cells
  have x0 := fz 0
  have x1 := fz 1
  have x2 := fz 2
  have x3 := fz 3
  have x4 := fz 4
  rw [hb0] at a0 a1 a2 a3 a4 x0 x1 x2 x3 x4
  by_cases hi : insideAll m s
  case neg =>
    rw [if_neg hi, Prod.mk.injEq] at hG
    obtain ⟨rfl, rfl⟩ := hG
    rw [decide_eq_false hi]
    go_wp2_with fail
    refine bodyPost_ret (v := .tuple #[.agg #[.slice none 0 0, .slice none 0 0, .int .u64 0, .int .u64 0, .bool false], .int .i64 5]) (by simp [results, Try.results84, go_sem, a0, a1, a2, a3, a4]) rfl ⟨.slice none 0 0, .slice none 0 0, rfl, by repeat (first | with_reducible exact b014 | with_reducible refine Below.setCell ?_ (by first | (simp; done) | (simp; omega) | omega) _), RowAt.nil _, RowAt.nil _⟩
  rw [if_pos hi, Prod.mk.injEq] at hG
  obtain ⟨rfl, rfl⟩ := hG
  rw [decide_eq_true hi]
  go_wp2_with fail
  rw [← hb0]
  refine bodyPost_ret (v := .tuple #[.agg #[.slice xas s.length cas, .slice xam m.length cam, .int .u64 nt, .int .u64 nx, .bool (pb == 1)], .int .i64 0]) (by rw [hb0]; simp [results, Try.results84, go_sem, a0, a1, a2, a3, a4]) rfl ⟨.slice xas s.length cas, .slice xam m.length cam, rfl, by rw [hb0]; repeat (first | with_reducible exact b014 | with_reducible refine Below.setCell ?_ (by first | (simp; done) | (simp; omega) | omega) _), ⟨xas, cas, rfl, SIn.row (B := Bs) (by repeat (first | with_reducible exact Ss14 | with_reducible refine SIn.set ?_ hbs _ _))⟩, ⟨xam, cam, rfl, SIn.row (B := Bm) (by repeat (first | with_reducible exact Sm14 | with_reducible refine SIn.set ?_ hbm _ _))⟩⟩

end Go.Proofs.Ytikkmdbaekdolaa

/- package ack: row of any good row; the reference's putRow. -/
namespace Go.Proofs.Ytikkmdbaekdolaa
open Go.RowKit Go.Lib
set_option linter.unusedVariables false
set_option maxRecDepth 100000

theorem putA_16 (a b : Int) : (putA a).length + (putA b).length ≤ 16 := by
  have := putA_len1 a
  have := putA_len1 b
  omega
theorem rowL_len : ∀ (l : List (Int × Int)) (low : Int), (rowL low l).length ≤ 16 * l.length
  | [], _ => by simp [rowL]
  | (lo, hi) :: l, low => by
    have ih := rowL_len l (hi + 2)
    have := putA_16 (lo - low) (hi - lo)
    rw [rowL]
    simp only [List.length_append, List.length_cons]
    omega
theorem putRowL_len (l : List (Int × Int)) : (putRowL l).length ≤ 1 + 16 * l.length := by
  have := rowL_len l 0
  rw [putRowL, List.length_cons]
  omega
theorem getD_mid (ls l2 : List (Int × Int)) (s : Int × Int) (k : Nat) (hk : ls.length = k) : (ls ++ s :: l2).getD k (0, 0) = s := by
  subst hk
  rw [List.getD_eq_getElem?_getD, List.getElem?_append_right (Nat.le_refl _), Nat.sub_self]
  rfl

theorem grow_spanR {w4 w5 : World} {row : Option Nat} {B P q0 n : Nat} {v5 : Value} {xs ys : List Int} {lo hi : Int} (hgrow : w4.grownBy w5 row) (hown : w5.ownsRow B 5 1 v5 n (xs.map (.int .u8))) (hn : 0 < n) (hx : 0 < xs.length) (k0 : w4.cell? ⟨P, 0, none⟩ = some (.int .u64 lo)) (k1 : w4.cell? ⟨P, 1, none⟩ = some (.int .u64 hi)) (hP : row ≠ some P) (B4 : BytesAt w4 q0 0 ys) (hq : row ≠ some q0) (hs : w4.heap.size ≤ w5.heap.size) :
    ∃ g5 c5, v5 = .slice (some ⟨g5, 0, none⟩) n c5 ∧ w5.cell? ⟨P, 1, none⟩ = some (.int .u64 hi) ∧ g5 ≠ P ∧ BytesAt w5 q0 0 ys := by
  obtain ⟨g5, c5, rfl, hg5, hc5, hm5, B5⟩ := ownBytes hown hn
  have x0 := hgrow.cell k0 (fun e => hP e.symm)
  have x1 := hgrow.cell k1 (fun e => hP e.symm)
  have h5 : w5.cell? ⟨g5, 0, none⟩ = some (.int .u8 (xs.getD 0 0)) := B5.2 0 hx
  refine ⟨g5, c5, rfl, x1, fun e => ?_, Nat.lt_of_lt_of_le B4.1 hs, fun j hj => hgrow.cell (B4.2 j hj) (fun e => hq e.symm)⟩
  rw [e, x0] at h5
  simp at h5


/-- a row in blocks below -/
def SLow (w : World) (B : Nat) (x : Option Addr) (l : List (Int × Int)) : Prop := l = [] ∨ ∃ g o, x = some ⟨g, o, none⟩ ∧ g < B ∧ SpansAt w g o l
theorem SLow.below {w w' : World} {B : Nat} {x : Option Addr} {l : List (Int × Int)} (h : SLow w B x l) (hb : Below B w w') : SLow w' B x l := by
  rcases h with h | ⟨g, o, h1, h2, h3⟩
  · exact .inl h
  · exact .inr ⟨g, o, h1, h2, Nat.lt_of_lt_of_le h3.1 hb.size, fun i hi => by rw [hb.cell h2, hb.cell h2]; exact h3.2 i hi⟩
theorem SLow.row {w : World} {B : Nat} {x : Option Addr} {l : List (Int × Int)} (h : SLow w B x l) : SRow w x l := by
  rcases h with h | ⟨g, o, h1, h2, h3⟩
  · exact .inl h
  · exact .inr ⟨g, o, h1, h3⟩
theorem SRow.low {w : World} {x : Option Addr} {l : List (Int × Int)} (h : SRow w x l) {B : Nat} (hB : w.heap.size ≤ B) : SLow w B x l := by
  rcases h with h | ⟨g, o, h1, h2⟩
  · exact .inl h
  · exact .inr ⟨g, o, h1, Nat.lt_of_lt_of_le h2.1 hB, h2⟩

set_option maxHeartbeats 8000000 in
set_option maxRecDepth 100000 in
theorem rPutRow (B : Nat) (v0 : Value) (xs : List Int) (hxs : xs.length ≤ 100000) (x : Option Addr) (c : Nat) (l : List (Int × Int)) (hg : GoodL 0 l) (hl : l.length ≤ 32) (w : World) (hB : B ≤ w.heap.size) (hS : SLow w B x l) (hown : w.ownsRow B 5 1 v0 xs.length (xs.map (.int .u8))) :
    Calls Try.prog 86 #[v0, .slice x l.length c] w fun e w' => ∃ v, e = .returned v ∧ Below B w w' ∧ w'.ownsRow B 5 1 v (xs ++ putRowL l).length ((xs ++ putRowL l).map (.int .u8)) := by
  obtain ⟨i, hi', hz, hs, hbb⟩ := info_parts (P := Try.prog) (e := 5) (z := .int .u8 0) (size := 1) (bytes := 1) (by kernel_rfl)
  have HS := Lib.hid hS
  have HG := Lib.hid hg
  have OWN := Lib.hid hown
  obtain ⟨n, hn⟩ : ∃ n, l.length = n := ⟨_, rfl⟩
  have HN := Lib.hid hn
  rw [hn] at hl ⊢
  clear hS hg hn hown
  have hnI : (n : Int) ≤ 32 := by omega
  have hn0 : (0 : Int) ≤ (n : Int) := by omega
  have hcv : IntKind.u8.wrap (n : Int) = (n : Int) := by rw [IntKind.wrap_u8]; omega
  go_enter Try.func86, Try.ntmps86
  go_wp2_with (at_builtin; refine wpList_append_own _ rfl (.tmp 7) (.tmp 11) 44 rfl B 5 i (.int .u8 0) 1 1 Try.underlying44 hi' hz hs hbb rfl (by decide) _ xs.length _ rfl (OWN.out.alloc _) ⟨w.heap.size, 0, none⟩ 1 1 [.int .u8 (n : Int)] rfl rfl (news1 _ _ _) (one1 _) (by simp [maxLen]; omega) (by omega) (by simp; omega) ?_; intro v1 w1 own1 hgrow1 hnil1)
  have b01 : Below B w w1 := below_grownR ((Below.refl _ _).alloc hB _) hgrow1 (by simp; omega) (fun k hk => (OWN.out.lt k hk).1)
  rw [show [Value.int .u8 (n : Int)] = [(n : Int)].map (Value.int .u8) from rfl, ← List.map_append] at own1
  have OWN1 := Lib.hid own1
  clear own1 hgrow1 hnil1 OWN
  go_loopw [0, 5, 6] (fun bv lv iv wr => ∃ (k : Nat) (low : Int) (ls l' : List (Int × Int)) (bs : List Int), iv = .int .i64 (k : Int) ∧ lv = .int .u64 low ∧ k ≤ n ∧ ls.length = k ∧ ls ++ l' = l ∧ GoodL low l' ∧ (0 ≤ low ∧ low ≤ 4611686018427387905) ∧ bs.length ≤ 100001 + 16 * k ∧ bs ++ rowL low l' = xs ++ putRowL l ∧ wr.ownsRow B 5 1 bv bs.length (bs.map (.int .u8)) ∧ Below B w wr) (fun _ _ iv _ => (n - intOf iv).toNat)
  case atStart => exact ⟨0, 0, [], l, xs ++ [(n : Int)], rfl, rfl, by omega, rfl, rfl, HG.out, by omega, by simp; omega, by rw [putRowL, HN.out]; simp, by rw [List.length_append]; exact OWN1.out, b01⟩
  case round =>
    obtain ⟨k, low, ls, l', bs, rfl, rfl, hk, hlk, hll, hgood, hlow, hbl, hrest, own, bel⟩ := hrel
    have hk0 : (0 : Int) ≤ (k : Int) := by omega
    have HLK := Lib.hid hlk
    have HLL := Lib.hid hll
    have HRE := Lib.hid hrest
    have OWN := Lib.hid own
    have sb := bel.size
    clear hlk hll hrest own b01 OWN1
    by_cases hlt : k < n
    · have hlt' : (k : Int) < (n : Int) := by omega
      rcases l' with _ | ⟨⟨lo, hi⟩, l2⟩
      · have e1 := congrArg List.length HLL.out
        rw [List.append_nil, HLK.out, HN.out] at e1
        omega
      obtain ⟨g1, g2, g3, g4⟩ := hgood
      have HG4 := Lib.hid g4
      obtain ⟨ga, oa, hxa, hga, c0, c1⟩ : ∃ g o, x = some ⟨g, o, none⟩ ∧ g < B ∧ wr.cell? ⟨g, o + k * 2, none⟩ = some (.int .u64 lo) ∧ wr.cell? ⟨g, o + k * 2 + 1, none⟩ = some (.int .u64 hi) := by
        rcases HS.out.below bel with h | ⟨g, o, h1, h2, h3, h4⟩
        · have e1 := congrArg List.length h
          rw [HN.out] at e1
          simp at e1
          omega
        · obtain ⟨p, q⟩ := h4 k (by rw [HN.out]; exact hlt)
          rw [← HLL.out, getD_mid ls l2 (lo, hi) k HLK.out] at p q
          exact ⟨g, o, h1, h2, p, q⟩
      rw [hxa]
      clear hxa g4
      have pm : 0 ≤ lo - low ∧ lo - low ≤ 4611686018427387903 := by omega
      have ph : 0 ≤ hi - lo ∧ hi - lo ≤ 4611686018427387903 := by omega
      have K1 := putA_len1 (lo - low)
      have K2 := putA_len1 (hi - lo)
      have s0 : IntKind.u64.wrap (lo - low) = lo - low := by rw [IntKind.wrap_u64]; omega
      have s1 : IntKind.u64.wrap (hi - lo) = hi - lo := by rw [IntKind.wrap_u64]; omega
      have s2 : IntKind.u64.wrap (hi + 2) = hi + 2 := by rw [IntKind.wrap_u64]; omega
      go_wp2_with fail
      refine (rPutOn (lo - low) pm B bs.length u0 bs _ (Nat.le_trans hB sb) (by omega) OWN.out).mono ?_; rintro e' w3 ⟨v3, rfl, b23, own3⟩
      have b3 := bel.trans (b23.mono (Nat.le_refl _))
      have s3 := b23.size
      have f0 : w3.cell? ⟨ga, oa + k * 2, none⟩ = some (.int .u64 lo) := by rw [b23.cell hga]; exact c0
      have f1 : w3.cell? ⟨ga, oa + k * 2 + 1, none⟩ = some (.int .u64 hi) := by rw [b23.cell hga]; exact c1
      clear c0 c1 b23 OWN
      go_wp2_with fail
      refine wp_region_still_tail 12 (by kernel_rfl) (by kernel_rfl) ?_
      simp only [List.take_succ_cons, List.take_zero, List.drop_succ_cons, List.drop_zero]
      repeat still_step
      refine wpStill_nil ?_
      go_wp2_with fail
      refine (rPutOn (hi - lo) ph B (bs.length + (putA (lo - low)).length) v3 (bs ++ putA (lo - low)) w3.drew (by show B ≤ w3.heap.size; omega) (by omega) (own_below own3 (belDrew w3))).mono ?_; rintro e' w5 ⟨v5, rfl, b45, own5⟩
      have b5 := b3.trans (((belDrew w3).mono (by omega)).trans b45)
      have y1 : w5.cell? ⟨ga, oa + k * 2 + 1, none⟩ = some (.int .u64 hi) := by rw [b45.cell hga]; exact f1
      clear b45 own3 f0 f1 b3
      go_wp2_with fail
      go_roundw
      case rel =>
        have hr := HRE.out
        rw [rowL] at hr
        refine ⟨k + 1, hi + 2, ls ++ [(lo, hi)], l2, bs ++ putA (lo - low) ++ putA (hi - lo), by congr 1, rfl, by omega, by rw [List.length_append, HLK.out]; rfl, by rw [List.append_assoc]; exact HLL.out, HG4.out, by omega, by simp only [List.length_append]; omega, by rw [← hr]; simp only [List.append_assoc], ?_, b5⟩
        simp only [List.length_append]
        exact own5
      case measure => simp only [intOf]; omega
    · have hkn : k = n := by omega
      subst hkn
      have hd : decide ((k : Int) < (k : Int)) = false := by simp
      have hnil : l' = [] := by
        have e1 := congrArg List.length HLL.out
        rw [List.length_append, HLK.out, HN.out] at e1
        exact List.eq_nil_of_length_eq_zero (by omega)
      subst hnil
      have hr := HRE.out
      rw [rowL, List.append_nil] at hr
      have own := OWN.out
      rw [hr] at own
      go_wp2_with fail
      go_ret
      exact ⟨u0, rfl, bel, own⟩

end Go.Proofs.Ytikkmdbaekdolaa

/- the reference's AddSpan and LastSpans. -/
namespace Go.Proofs.Ytikkmdbaekdolaa
open Go.RowKit Go.Lib
set_option linter.unusedVariables false
set_option maxRecDepth 100000

/-- a row's value: nil, or in a block -/
def RowV (w : World) (v : Value) (l : List (Int × Int)) : Prop :=
  (v = .slice none 0 0 ∧ l = []) ∨ ∃ g o c, v = .slice (some ⟨g, o, none⟩) l.length c ∧ l.length ≤ c ∧ c ≤ 9223372036854775807 ∧ SpansAt w g o l
theorem RowV.below {w w' : World} {v : Value} {l : List (Int × Int)} (h : RowV w v l) (hb : Below w.heap.size w w') : RowV w' v l := by
  rcases h with h | ⟨g, o, c, h1, h2, h3, h4⟩
  · exact .inl h
  · exact .inr ⟨g, o, c, h1, h2, h3, h4.below hb⟩
theorem RowV.ofOwn {w : World} {B : Nat} {v : Value} {l : List (Int × Int)} (h : w.ownsRow B 80 2 v l.length (flatS l)) : RowV w v l := by
  obtain ⟨x, c0, hv, hS⟩ := rowAt_own h
  obtain ⟨_, ⟨h2, h3⟩ | ⟨g, c, cur, h2, h3, h4, h5, h6, _⟩⟩ := h
  · exact .inl ⟨h2, List.eq_nil_of_length_eq_zero h3⟩
  · rw [h2] at hv
    injection hv with e1 e2 e3
    subst e1 e3
    unfold maxLen at h6
    rcases hS with rfl | ⟨g', o', e4, hS⟩
    · exact .inr ⟨g, 0, c, h2, h5, by omega, (Array.getElem?_eq_some_iff.1 h4).1, fun i hi => absurd hi (by simp)⟩
    · injection e4 with e4
      injection e4 with e5 e6
      subst e5 e6
      exact .inr ⟨g, 0, c, h2, h5, by omega, hS⟩
theorem RowV.form {w : World} {v : Value} {l : List (Int × Int)} (h : RowV w v l) : ∃ x c, v = .slice x l.length c ∧ SRow w x l := by
  rcases h with ⟨h1, rfl⟩ | ⟨g, o, c, h1, _, _, h2⟩
  · exact ⟨none, 0, h1, .inl rfl⟩
  · exact ⟨_, c, h1, .inr ⟨g, o, rfl, h2⟩⟩

theorem flatS_len (l : List (Int × Int)) : (flatS l).length = l.length * 2 := by
  induction l with
  | nil => rfl
  | cons s l ih => rw [show flatS (s :: l) = .int .u64 s.1 :: .int .u64 s.2 :: flatS l from rfl]; simp only [List.length_cons, ih]; omega
theorem flatS_one (l : List (Int × Int)) : ∀ u ∈ flatS l, u.oneCell' = true := by
  intro u hu
  unfold flatS at hu
  obtain ⟨s, _, hs⟩ := List.mem_flatMap.1 hu
  simp at hs
  rcases hs with rfl | rfl <;> rfl
theorem SpansAt.drop {w : World} {g o : Nat} {l : List (Int × Int)} (h : SpansAt w g o l) (k : Nat) : SpansAt w g (o + k * 2) (l.drop k) :=
  ⟨h.1, fun i hi => by
    rw [List.length_drop] at hi
    obtain ⟨p, q⟩ := h.2 (k + i) (by omega)
    rw [List.getD_eq_getElem?_getD, List.getElem?_drop, ← List.getD_eq_getElem?_getD]
    rw [show o + k * 2 + i * 2 = o + (k + i) * 2 by omega]
    exact ⟨p, q⟩⟩
theorem SpansAt.news {w : World} : ∀ {l : List (Int × Int)} {g o : Nat}, SpansAt w g o l → ∀ (j : Nat) (u : Value), (flatS l)[j]? = some u → w.cell? ((⟨g, o, none⟩ : Addr).add j) = some u
  | [], g, o, _, j, u, hu => by simp [flatS] at hu
  | s :: l, g, o, h, j, u, hu => by
    rw [show flatS (s :: l) = .int .u64 s.1 :: .int .u64 s.2 :: flatS l from rfl] at hu
    obtain ⟨p, q⟩ := h.2 0 (by simp)
    rcases j with _ | _ | j
    · simp at hu
      subst hu
      simpa [addr_add] using p
    · simp at hu
      subst hu
      simpa [addr_add] using q
    · simp only [List.getElem?_cons_succ] at hu
      have := SpansAt.news (w := w) (l := l) (g := g) (o := o + 2) (by simpa using h.drop 1) j u hu
      rw [addr_add] at this ⊢
      rw [show o + (j + 1 + 1) = o + 2 + j by omega]
      exact this

theorem wpList_append_none {P : Program} {ops : Array Oper} {rest : List Oper} {o : Oper} {a : Act} {w : World} {Q : Exit → Act → World → Prop} (hgd : o.guard = none) (s x : Operand) (t : TypeId)
    (ho : o.op = .call { callee := .builtin .append, args := #[s, x], argTypes := #[t, t] })
    (base : Nat) (e : TypeId) (i : TypeInfo) (size : Nat) (ht : P.underlying t = some (.slice e)) (hi : P.info? e = some i) (hsize : i.size = size)
    (v : Value) (n : Nat) (xs : List Value) (hs : a.eval s = v) (hown : w.ownsRow base e size v n xs) (hx : a.eval x = .slice none 0 0)
    (h : wpList P ops Q rest (a.put o.dst v) w) : wpList P ops Q (o :: rest) a w :=
  wpList_plain hgd fun _ hK => by
    have hr := run_append_owned_none (w := w) (P := P) base t o.type e i size ht hi v n xs hown
    unfold Oper.wp execOp
    simp only [ho, resolve, invoke, builtin, Sem.run_bind, Sem.run_pure, Result.andThen_ok, List.map_toArray, List.map_cons, List.map_nil, hs, hx, hr]
    exact hK _ _ h

/-- a span's box -/
def BoxAt (w : World) (P : Nat) (a b : Int) : Prop := w.heap[P]? = some (.cells #[.int .u64 a, .int .u64 b] 80 (0, 0))
theorem BoxAt.lt {w : World} {P : Nat} {a b : Int} (h : BoxAt w P a b) : P < w.heap.size := (Array.getElem?_eq_some_iff.1 h).1
theorem BoxAt.cells {w : World} {P : Nat} {a b : Int} (h : BoxAt w P a b) : (w.cell? ⟨P, 0, none⟩ = some (.int .u64 a) ∧ w.cell? ⟨P, 1, none⟩ = some (.int .u64 b)) ∧ ∀ j, w.frozen? ⟨P, j, none⟩ = false := by
  refine ⟨?_, fun j => ?_⟩
  · unfold World.cell?
    rw [show w.heap[P]? = _ from h]
    exact ⟨rfl, rfl⟩
  · unfold World.frozen?
    rw [show w.heap[P]? = _ from h]
    simp
theorem BoxAt.below {w w' : World} {P B : Nat} {a b : Int} (h : BoxAt w P a b) (hP : P < B) (k : Below B w w') : BoxAt w' P a b := by
  unfold BoxAt
  rw [k.block P hP]
  exact h

structure Add1 (w1 : World) (P n : Nat) (l : List (Int × Int)) (a b : Int) (ov : Value) (k : Nat) (ls l' : List (Int × Int)) (wx : World) : Prop where
  hk : k ≤ n
  hls : ls.length = k
  hll : ls ++ l' = l
  good : ∃ low, 0 ≤ low ∧ GoodL low l'
  own : wx.ownsRow (P + 1) 80 2 ov k (flatS ls)
  bel : Below (P + 1) w1 wx

set_option maxHeartbeats 16000000 in
set_option maxRecDepth 100000 in
theorem rAddSpan (v : Value) (l : List (Int × Int)) (a b : Int) (hg : GoodL 0 l) (hlen : l.length ≤ 100000) (ha : 0 ≤ a) (hab : a ≤ b) (hb : b ≤ 4611686018427387903) (w : World) (hR : RowV w v l) :
    Calls Try.prog 119 #[v, .agg #[.int .u64 a, .int .u64 b]] w fun e w' => ∃ v', e = .returned v' ∧ Below w.heap.size w w' ∧ w'.ownsRow w.heap.size 80 2 v' (addS l a b).length (flatS (addS l a b)) := by
  obtain ⟨i, hi, hzz, hs, hbb⟩ := info_parts (P := Try.prog) (e := 80) (z := .agg #[.int .u64 0, .int .u64 0]) (size := 2) (bytes := 16) (by kernel_rfl)
  obtain ⟨x, c, hv, hS⟩ := hR.form
  have HR := Lib.hid hR
  subst hv
  have HS := Lib.hid hS
  have HG := Lib.hid hg
  obtain ⟨n, hn⟩ : ∃ n, l.length = n := ⟨_, rfl⟩
  have HN := Lib.hid hn
  rw [hn] at hlen HR ⊢
  clear hS hg hn hR
  have hnI : (n : Int) ≤ 100000 := by omega
  go_enter Try.func119, Try.ntmps119
  go_upto_block 0 with fail
  obtain ⟨P, hP⟩ : ∃ P, P = w.heap.size := ⟨_, rfl⟩
  obtain ⟨w1, hw1⟩ : ∃ w1, w1 = w.alloc (.cells #[.int .u64 a, .int .u64 b] 80 (0, 0)) := ⟨_, rfl⟩
  have x1 : BoxAt w1 P a b := by rw [hw1, hP]; exact heap_alloc_new w _
  have b01 : Below P w w1 := by rw [hw1, hP]; exact (Below.refl _ _).alloc (Nat.le_refl _) _
  have z1 : w1.heap.size = P + 1 := by rw [hw1, hP]; simp
  have hPw : P ≤ w.heap.size := by omega
  have HPW : Hid (P = w.heap.size) := Lib.hid hP
  have HS1 : Hid (SRow w1 x l) := Lib.hid (HS.out.below (by rw [hP] at b01; exact b01))
  rw [← hw1, ← hP]
  clear hw1 hP
  go_cut [5, 6] from 7 (fun ov iv wx => ∃ (k : Nat) (ls l' : List (Int × Int)), iv = .int .i64 (k : Int) ∧ Add1 w1 P n l a b ov k ls l' wx ∧ addS l a b = ls ++ absorbS l' a b)
  case first =>
    go_wp2_with fail
    go_loopw [5, 6] (fun ov iv wr => ∃ (k : Nat) (ls l' : List (Int × Int)), iv = .int .i64 (k : Int) ∧ Add1 w1 P n l a b ov k ls l' wr ∧ addS l a b = ls ++ addS l' a b) (fun _ iv _ => (n - intOf iv).toNat)
    case atStart => exact ⟨0, [], l, rfl, ⟨by omega, rfl, rfl, ⟨0, Int.le_refl _, HG.out⟩, World.ownsRow_nil _ _ _ _, Below.refl _ _⟩, rfl⟩
    case round =>
      obtain ⟨k, ls, l', rfl, ⟨hk, hls, hll, ⟨low, hlow, hgood⟩, own, bel⟩, hadd⟩ := hrel
      have hk0 : (0 : Int) ≤ (k : Int) := by omega
      have HLS := Lib.hid hls
      have HLL := Lib.hid hll
      have HADD := Lib.hid hadd
      have OWN := Lib.hid own
      have sb := bel.size
      have X := x1.below (Nat.lt_succ_self P) bel
      have lX := X.lt
      obtain ⟨⟨p0, p1⟩, _⟩ := X.cells
      clear hls hll hadd own
      rcases l' with _ | ⟨⟨lo, hi'⟩, l2⟩
      · have hkn : k = n := by
          have e1 := congrArg List.length HLL.out
          rw [List.append_nil, HLS.out, HN.out] at e1
          exact e1
        have hd : decide ((k : Int) < (n : Int)) = false := decide_eq_false (by omega)
        go_wp2_with fail
        go_quiet (fail)
        go_wp2_with fail
        go_meet
        have bd := belDrewN wr nq
        exact ⟨k, ls, [], rfl, ⟨hk, HLS.out, HLL.out, ⟨low, hlow, hgood⟩, own_below OWN.out bd, bel.trans (bd.mono (by omega))⟩, HADD.out⟩
      obtain ⟨g1, g2, g3, g4⟩ := hgood
      have hlt : k < n := by
        have e1 := congrArg List.length HLL.out
        rw [List.length_append, HLS.out, HN.out, List.length_cons] at e1
        omega
      have hlt' : (k : Int) < (n : Int) := by omega
      have hd0 : decide ((k : Int) < (n : Int)) = true := decide_eq_true hlt'
      obtain ⟨ga, oa, rfl, hga, c0, c1⟩ := (HS1.out.below (bel.mono (by omega))).at k (by rw [HN.out]; exact hlt)
      rw [← HLL.out, getD_mid ls l2 (lo, hi') k HLS.out] at c0 c1
      have c0 : wr.cell? ⟨ga, oa + k * 2, none⟩ = some (.int .u64 lo) := c0
      have c1 : wr.cell? ⟨ga, oa + k * 2 + 1, none⟩ = some (.int .u64 hi') := c1
      have hw1' : IntKind.u64.wrap (hi' + 1) = hi' + 1 := by rw [IntKind.wrap_u64]; omega
      by_cases hc : hi' + 1 < a
      · have hd : decide (hi' + 1 < a) = true := decide_eq_true hc
        go_wp2_with fail
        go_quiet (fail)
        have bd := belDrewN wr nq
        have f0 : (wr.drewN nq).cell? ⟨ga, oa + k * 2, none⟩ = some (.int .u64 lo) := by rw [bd.cell hga]; exact c0
        have f1 : (wr.drewN nq).cell? ⟨ga, oa + k * 2 + 1, none⟩ = some (.int .u64 hi') := by rw [bd.cell hga]; exact c1
        obtain ⟨w3, hw3⟩ : ∃ w3, w3 = wr.drewN nq := ⟨_, rfl⟩
        have own3 : w3.ownsRow (P + 1) 80 2 u5 k (flatS ls) := by rw [hw3]; exact own_below OWN.out bd
        have b3 : Below (P + 1) w1 w3 := by rw [hw3]; exact bel.trans (bd.mono (by omega))
        rw [← hw3] at f0 f1 ⊢
        clear hw3 bd c0 c1 p0 p1 X OWN
        have s3 := b3.size
        go_wp2_with (at_builtin; refine wpList_append_own _ rfl (.tmp 22) (.tmp 27) 72 rfl (P + 1) 80 i (.agg #[.int .u64 0, .int .u64 0]) 2 16 Try.underlying72 hi hzz hs hbb rfl (by decide) _ k _ rfl (own3.alloc _) ⟨w3.heap.size, 0, none⟩ 1 1 [.int .u64 lo, .int .u64 hi'] rfl rfl (news2 _ _ _ _) (two2 _ _) (by simp [maxLen]; omega) (by omega) (by simp; omega) ?_; intro v6 w6 own6 hgrow6 hnil6)
        have b56 : Below (P + 1) w3 w6 := below_grownR ((Below.refl _ _).alloc (by omega) _) hgrow6 (by simp; omega) (fun k hk => (own3.lt k hk).1)
        go_roundw
        case rel =>
          refine ⟨k + 1, ls ++ [(lo, hi')], l2, by congr 1, ⟨by omega, by rw [List.length_append, HLS.out]; rfl, by rw [List.append_assoc]; exact HLL.out, ⟨hi' + 2, by omega, g4⟩, ?_, b3.trans b56⟩, ?_⟩
          · rw [flatS_append]
            exact own6
          · rw [HADD.out, addS, if_pos hc, List.append_assoc]
            rfl
        case measure => simp only [intOf]; omega
      · have hd : decide (hi' + 1 < a) = false := decide_eq_false hc
        go_wp2_with fail
        go_quiet (fail)
        go_wp2_with fail
        go_meet
        have bd := belDrewN wr nq
        exact ⟨k, ls, (lo, hi') :: l2, rfl, ⟨hk, HLS.out, HLL.out, ⟨low, hlow, g1, g2, g3, g4⟩, own_below OWN.out bd, bel.trans (bd.mono (by omega))⟩, by rw [HADD.out, addS, if_neg (by omega)]⟩
  case rest =>
    obtain ⟨k, ls, l', rfl, ⟨hk, hls, hll, ⟨low, hlow, hgood⟩, own, bel⟩, hadd⟩ := hcut
    have HLS := Lib.hid hls
    have HLL := Lib.hid hll
    have HADD := Lib.hid hadd
    have OWN := Lib.hid own
    have HGO := Lib.hid hgood
    have sb := bel.size
    have X := x1.below (Nat.lt_succ_self P) bel
    clear hls hll hadd own hgood
    go_upto_block 2 with fail
    go_cut [6] from 7 (fun iv wx => ∃ (k2 : Nat) (a2 b2 : Int), iv = .int .i64 (k2 : Int) ∧ k2 ≤ n ∧ absorbS l' a b = (a2, b2) :: l.drop k2 ∧ BoxAt wx P a2 b2 ∧ wx.ownsRow (P + 1) 80 2 u5 k (flatS ls) ∧ Below P w wx)
    case first =>
      go_wp2_with fail
      go_loopw [6] (fun iv wr => ∃ (k2 : Nat) (a2 b2 low2 : Int), iv = .int .i64 (k2 : Int) ∧ k2 ≤ n ∧ (0 ≤ low2 ∧ GoodL low2 (l.drop k2)) ∧ (0 ≤ a2 ∧ a2 ≤ b2 ∧ b2 ≤ 4611686018427387903) ∧ absorbS l' a b = absorbS (l.drop k2) a2 b2 ∧ BoxAt wr P a2 b2 ∧ wr.ownsRow (P + 1) 80 2 u5 k (flatS ls) ∧ Below P w wr) (fun iv _ => (n - intOf iv).toNat)
      case atStart => exact ⟨k, a, b, low, rfl, hk, ⟨hlow, by rw [← HLL.out, ← HLS.out, List.drop_left]; exact HGO.out⟩, ⟨ha, hab, hb⟩, by rw [← HLL.out, ← HLS.out, List.drop_left], X, OWN.out, b01.trans (bel.mono (by omega))⟩
      case round =>
        obtain ⟨k2, a2, b2, low2, rfl, hk2, ⟨hlow2, hgood2⟩, ⟨q0, q1, q2⟩, habs, X2, own2, bel2⟩ := hrel
        have hk0 : (0 : Int) ≤ (k2 : Int) := by omega
        have HABS := Lib.hid habs
        have HGO2 := Lib.hid hgood2
        have OWN2 := Lib.hid own2
        have lX := X2.lt
        have sb2 := bel2.size
        obtain ⟨⟨p0, p1⟩, fz⟩ := X2.cells
        have y0 := fz 0
        have y1 := fz 1
        clear habs own2 hgood2 fz
        have hw1' : IntKind.u64.wrap (b2 + 1) = b2 + 1 := by rw [IntKind.wrap_u64]; omega
        rcases hdr : l.drop k2 with _ | ⟨⟨lo, hi'⟩, l2⟩
        · have hkn : k2 = n := by
            have e1 := congrArg List.length hdr
            rw [List.length_drop, HN.out] at e1
            simp at e1
            omega
          have HDR := Lib.hid hdr
          clear hdr
          have hd : decide ((k2 : Int) < (n : Int)) = false := decide_eq_false (by omega)
          go_wp2_with fail
          go_quiet (fail)
          go_wp2_with fail
          go_meet
          have bd := belDrewN wr nq
          exact ⟨k2, a2, b2, rfl, hk2, by rw [HABS.out, HDR.out, absorbS], X2.below (by omega) bd, own_below OWN2.out bd, bel2.trans (bd.mono (by omega))⟩
        have hlt : k2 < n := by
          have e1 := congrArg List.length hdr
          rw [List.length_drop, HN.out, List.length_cons] at e1
          omega
        have hlt' : (k2 : Int) < (n : Int) := by omega
        have hd0 : decide ((k2 : Int) < (n : Int)) = true := decide_eq_true hlt'
        obtain ⟨g1, g2, g3, g4⟩ : low2 ≤ lo ∧ lo ≤ hi' ∧ hi' ≤ 4611686018427387903 ∧ GoodL (hi' + 2) l2 := by have h := HGO2.out; rw [hdr] at h; exact h
        have hgd : l.getD k2 (0, 0) = (lo, hi') := by
          have e1 := congrArg (·.getD 0 (0, 0)) hdr
          simp only [List.getD_eq_getElem?_getD, List.getElem?_drop, Nat.add_zero] at e1
          rw [List.getD_eq_getElem?_getD, e1]
          rfl
        have hd2 : l.drop (k2 + 1) = l2 := by rw [← List.drop_drop, hdr]; rfl
        have HDR := Lib.hid hdr
        have HD2 := Lib.hid hd2
        have bw1 : Below w.heap.size w wr := bel2.mono (by have := HPW.out; omega)
        obtain ⟨ga, oa, rfl, hga, c0, c1⟩ : ∃ g o, x = some ⟨g, o, none⟩ ∧ g < P ∧ wr.cell? ⟨g, o + k2 * 2, none⟩ = some (.int .u64 lo) ∧ wr.cell? ⟨g, o + k2 * 2 + 1, none⟩ = some (.int .u64 hi') := by
          obtain ⟨g, o, h1, h2, h3, h4⟩ := HS.out.at k2 (by rw [HN.out]; exact hlt)
          rw [hgd] at h3 h4
          have h2 : g < P := by have := HPW.out; omega
          exact ⟨g, o, h1, h2, by rw [bel2.cell h2]; exact h3, by rw [bel2.cell h2]; exact h4⟩
        have hgaP : ga ≠ P := by omega
        have hPga : P ≠ ga := by omega
        clear hdr hgd hd2 bw1
        by_cases hc : lo ≤ b2 + 1
        · have hd : decide (lo ≤ b2 + 1) = true := decide_eq_true hc
          go_wp2_with fail
          go_quiet (fail)
          go_wp2_with fail
          obtain ⟨w3, hw3⟩ : ∃ w3, w3 = wr.drewN nq := ⟨_, rfl⟩
          have bd := belDrewN wr nq
          rw [← hw3] at bd
          have X3 : BoxAt w3 P a2 b2 := X2.below (by omega) bd
          have own3 := own_below OWN2.out bd
          have b3 : Below P w w3 := bel2.trans (bd.mono (by omega))
          have f0 : w3.cell? ⟨ga, oa + k2 * 2, none⟩ = some (.int .u64 lo) := by rw [bd.cell (by simp; omega)]; exact c0
          have f1 : w3.cell? ⟨ga, oa + k2 * 2 + 1, none⟩ = some (.int .u64 hi') := by rw [bd.cell (by simp; omega)]; exact c1
          rw [← hw3]
          clear hw3 bd c0 c1 p0 p1 y0 y1 X2 OWN2 bel2 lX sb2
          have s3 := b3.size
          have lX := X3.lt
          obtain ⟨⟨p0, p1⟩, fz⟩ := X3.cells
          have y0 := fz 0
          have y1 := fz 1
          clear fz
          refine wp_region_still_tail 9 (by kernel_rfl) (by kernel_rfl) ?_
          simp only [List.take_succ_cons, List.take_zero, List.drop_succ_cons, List.drop_zero]
          repeat still_step
          refine wpStill_nil ?_
          go_wp2_with fail
          obtain ⟨w4, hw4⟩ : ∃ w4, w4 = (w3.setCell ⟨P, 0, none⟩ (.int .u64 (min a2 lo))).drew := ⟨_, rfl⟩
          have X4 : BoxAt w4 P (min a2 lo) b2 := by rw [hw4]; exact BoxAt.below (heap_set_self w3 P 0 _ _ _ _ X3) (Nat.lt_succ_self P) ((belDrew _).mono (by simp; omega))
          have own4 : w4.ownsRow (P + 1) 80 2 u5 k (flatS ls) := by rw [hw4]; exact own_below (ownKept own3 (Nat.lt_succ_self P) (fun i hi hl => kept_set _ _ _ _ hi)) (belDrew _)
          have b4 : Below P w w4 := by rw [hw4]; exact (b3.setCell (by simp) _).trans ((belDrew _).mono (by simp; omega))
          have g0 : w4.cell? ⟨ga, oa + k2 * 2, none⟩ = some (.int .u64 lo) := by rw [hw4]; go_simp
          have g1' : w4.cell? ⟨ga, oa + k2 * 2 + 1, none⟩ = some (.int .u64 hi') := by rw [hw4]; go_simp
          rw [← hw4]
          clear hw4 f0 f1 p0 p1 y0 y1 X3 own3 b3 s3 lX
          have s4 := b4.size
          have lX := X4.lt
          obtain ⟨⟨p0, p1⟩, fz⟩ := X4.cells
          have y0 := fz 0
          have y1 := fz 1
          clear fz
          refine wp_region_still_tail 9 (by kernel_rfl) (by kernel_rfl) ?_
          simp only [List.take_succ_cons, List.take_zero, List.drop_succ_cons, List.drop_zero]
          repeat still_step
          refine wpStill_nil ?_
          go_wp2_with fail
          obtain ⟨w5, hw5⟩ : ∃ w5, w5 = (w4.setCell ⟨P, 1, none⟩ (.int .u64 (max b2 hi'))).drew := ⟨_, rfl⟩
          have X5 : BoxAt w5 P (min a2 lo) (max b2 hi') := by rw [hw5]; exact BoxAt.below (heap_set_self w4 P 1 _ _ _ _ X4) (Nat.lt_succ_self P) ((belDrew _).mono (by simp; omega))
          have own5 : w5.ownsRow (P + 1) 80 2 u5 k (flatS ls) := by rw [hw5]; exact own_below (ownKept own4 (Nat.lt_succ_self P) (fun i hi hl => kept_set _ _ _ _ hi)) (belDrew _)
          have b5 : Below P w w5 := by rw [hw5]; exact (b4.setCell (by simp) _).trans ((belDrew _).mono (by simp; omega))
          rw [← hw5]
          clear hw5 g0 g1' p0 p1 y0 y1 X4 own4 b4
          go_roundw
          case rel => exact ⟨k2 + 1, min a2 lo, max b2 hi', hi' + 2, by congr 1, by omega, ⟨by omega, by rw [HD2.out]; exact g4⟩, ⟨by omega, by omega, by omega⟩, by rw [HABS.out, HDR.out, absorbS, if_pos hc, HD2.out], X5, own5, b5⟩
          case measure => simp only [intOf]; omega
        · have hd : decide (lo ≤ b2 + 1) = false := decide_eq_false hc
          go_wp2_with fail
          go_quiet (fail)
          go_wp2_with fail
          go_meet
          have bd := belDrewN wr nq
          exact ⟨k2, a2, b2, rfl, hk2, by rw [HABS.out, HDR.out, absorbS, if_neg (by omega)], X2.below (by omega) bd, own_below OWN2.out bd, bel2.trans (bd.mono (by omega))⟩
    case rest =>
      obtain ⟨k2, a2, b2, rfl, hk2, habs, X2, own2, bel2⟩ := hcut
      have OWN2 := Lib.hid own2
      have HABS := Lib.hid habs
      have BEL := Lib.hid bel2
      have lX := X2.lt
      obtain ⟨⟨p0, p1⟩, _⟩ := X2.cells
      have hkk : k ≤ 100000 := by omega
      have hfin : addS l a b = (ls ++ [(a2, b2)]) ++ l.drop k2 := by rw [HADD.out, HABS.out, List.append_assoc]; rfl
      have hflat : flatS ls ++ [.int .u64 a2, .int .u64 b2] = flatS (ls ++ [(a2, b2)]) := by rw [flatS_append]; rfl
      have hlenf : (addS l a b).length = k + 1 + (n - k2) := by rw [hfin, List.length_append, List.length_append, HLS.out, List.length_drop, HN.out]; rfl
      have HFIN := Lib.hid hfin
      have HFLAT := Lib.hid hflat
      have HLENF := Lib.hid hlenf
      have hP9 : P = w.heap.size := HPW.out
      clear own2 habs bel2 X2 X hfin hflat hlenf
      have hk30 : (0 : Int) ≤ (k2 : Int) := by omega
      have hk31 : (k2 : Int) ≤ (n : Int) := by omega
      rcases HR.out with ⟨hnil, hl0⟩ | ⟨g, o, c', hv, hnc, hcm, hSp⟩
      · injection hnil with e1 e2 e3
        have hn0 : n = 0 := e2
        obtain rfl : k2 = 0 := by omega
        subst e1 e3 hn0
        have hz : ((0 : Nat) : Int) = 0 := rfl
        rw [hz]
        have HP9 := Lib.hid hP9
        have HL0 := Lib.hid hl0
        clear hP9 hl0 hz hk30 hk31
        go_wp2_with (first
          | (at_builtin; refine wpList_append_own _ rfl (.tmp 66) (.tmp 68) 72 rfl (P + 1) 80 i (.agg #[.int .u64 0, .int .u64 0]) 2 16 Try.underlying72 hi hzz hs hbb rfl (by decide) _ k _ rfl (OWN2.out.alloc _) ⟨wc.heap.size, 0, none⟩ 1 1 [.int .u64 a2, .int .u64 b2] rfl rfl (news2 _ _ _ _) (two2 _ _) (by simp [maxLen]; omega) (by omega) (by simp; omega) ?_; intro v6 w6 own6 hgrow6 hnil6; have b56 : Below (P + 1) wc w6 := below_grownR ((Below.refl _ _).alloc (by omega) _) hgrow6 (by simp; omega) (fun k hk => (OWN2.out.lt k hk).1); have b06 : Below P w w6 := BEL.out.trans (b56.mono (by omega)))
          | (at_builtin; refine wpList_append_none rfl (.tmp 70) (.tmp 73) 72 rfl (P + 1) 80 i 2 Try.underlying72 hi hs _ (k + 1) _ rfl own6 (by rfl) ?_))
        have own6 := own6
        rw [HFLAT.out] at own6
        go_ret
        refine ⟨v6, rfl, by rw [← HP9.out]; exact b06, ?_⟩
        rw [HLENF.out, HFIN.out, HL0.out, ← HP9.out]
        simpa using own_base own6 (Nat.le_succ _)
      · injection hv with e1 e2 e3
        subst e1 e3
        have HP9 := Lib.hid hP9
        have hSw : ∀ W, Below P w W → SpansAt W g o l := fun W hb => hSp.below (by rw [← HP9.out]; exact hb)
        have HSW := Lib.hid hSw
        have hncN : n ≤ c := by rw [← HN.out]; exact hnc
        clear hP9 hSp hSw hnc e2
        by_cases hkc : c = k2
        · have hkn : n = k2 := by omega
          subst hkc hkn
          have hdrop : l.drop n = [] := List.drop_eq_nil_of_le (by rw [HN.out]; omega)
          have HDROP := Lib.hid hdrop
          clear hdrop
          go_wp2_with (first
            | (at_builtin; refine wpList_append_own _ rfl (.tmp 66) (.tmp 68) 72 rfl (P + 1) 80 i (.agg #[.int .u64 0, .int .u64 0]) 2 16 Try.underlying72 hi hzz hs hbb rfl (by decide) _ k _ rfl (OWN2.out.alloc _) ⟨wc.heap.size, 0, none⟩ 1 1 [.int .u64 a2, .int .u64 b2] rfl rfl (news2 _ _ _ _) (two2 _ _) (by simp [maxLen]; omega) (by omega) (by simp; omega) ?_; intro v6 w6 own6 hgrow6 hnil6; have b56 : Below (P + 1) wc w6 := below_grownR ((Below.refl _ _).alloc (by omega) _) hgrow6 (by simp; omega) (fun k hk => (OWN2.out.lt k hk).1); have b06 : Below P w w6 := BEL.out.trans (b56.mono (by omega)))
            | (at_builtin; refine wpList_append_own _ rfl (.tmp 70) (.tmp 73) 72 rfl (P + 1) 80 i (.agg #[.int .u64 0, .int .u64 0]) 2 16 Try.underlying72 hi hzz hs hbb rfl (by decide) _ (k + 1) _ rfl own6 ⟨g, o, none⟩ 0 0 [] rfl rfl (fun j u h => by simp at h) (fun u h => by simp at h) (by simp [maxLen]; omega) (by omega) (by have := b56.size; omega) ?_; intro v7 w7 own7 hgrow7 hnil7))
          rw [HFLAT.out] at own7
          have b67 : Below (P + 1) w6 w7 := below_grownR (Below.refl _ _) hgrow7 (by have := b56.size; omega) (fun k hk => (own6.lt k hk).1)
          go_ret
          refine ⟨v7, rfl, by rw [← HP9.out]; exact b06.trans (b67.mono (by omega)), ?_⟩
          rw [HLENF.out, HFIN.out, HDROP.out, ← HP9.out]
          simpa using own_base own7 (Nat.le_succ _)
        · have hck : k2 ≠ c := fun e => hkc e.symm
          have hmm : n - k2 ≤ 100000 := by omega
          have hll2 : (l.drop k2).length = n - k2 := by rw [List.length_drop, HN.out]
          have HLL2 := Lib.hid hll2
          clear hll2
          go_wp2_with (first
            | (at_builtin; refine wpList_append_own _ rfl (.tmp 66) (.tmp 68) 72 rfl (P + 1) 80 i (.agg #[.int .u64 0, .int .u64 0]) 2 16 Try.underlying72 hi hzz hs hbb rfl (by decide) _ k _ rfl (OWN2.out.alloc _) ⟨wc.heap.size, 0, none⟩ 1 1 [.int .u64 a2, .int .u64 b2] rfl rfl (news2 _ _ _ _) (two2 _ _) (by simp [maxLen]; omega) (by omega) (by simp; omega) ?_; intro v6 w6 own6 hgrow6 hnil6; have b56 : Below (P + 1) wc w6 := below_grownR ((Below.refl _ _).alloc (by omega) _) hgrow6 (by simp; omega) (fun k hk => (OWN2.out.lt k hk).1); have b06 : Below P w w6 := BEL.out.trans (b56.mono (by omega)))
            | (at_builtin; refine wpList_append_own _ rfl (.tmp 70) (.tmp 73) 72 rfl (P + 1) 80 i (.agg #[.int .u64 0, .int .u64 0]) 2 16 Try.underlying72 hi hzz hs hbb rfl (by decide) _ (k + 1) _ rfl own6 ⟨g, o + k2 * 2, none⟩ (n - k2) (c - k2) (flatS (l.drop k2)) rfl (by rw [flatS_len, HLL2.out]) ((HSW.out _ b06).drop k2).news (flatS_one _) (by simp [maxLen]; omega) (by omega) (by have := b56.size; omega) ?_; intro v7 w7 own7 hgrow7 hnil7))
          rw [HFLAT.out, ← flatS_append] at own7
          have b67 : Below (P + 1) w6 w7 := below_grownR (Below.refl _ _) hgrow7 (by have := b56.size; omega) (fun k hk => (own6.lt k hk).1)
          go_ret
          refine ⟨v7, rfl, by rw [← HP9.out]; exact b06.trans (b67.mono (by omega)), ?_⟩
          rw [HLENF.out, HFIN.out, ← HP9.out]
          exact own_base own7 (Nat.le_succ _)

end Go.Proofs.Ytikkmdbaekdolaa

/- package span: Add of any good row. -/
namespace Go.Proofs.Ytikkmdbaekdolaa
open Go.RowKit Go.Lib
set_option linter.unusedVariables false
set_option maxRecDepth 100000

set_option maxHeartbeats 16000000 in
set_option maxRecDepth 100000 in
theorem spAdd (v : Value) (l : List (Int × Int)) (a b : Int) (hg : GoodL 0 l) (hlen : l.length ≤ 100000) (ha : 0 ≤ a) (hab : a ≤ b) (hb : b ≤ 4611686018427387903) (w : World) (hR : RowV w v l) :
    Calls Try.prog 78 #[v, .agg #[.int .u64 a, .int .u64 b]] w fun e w' => ∃ v', e = .returned (.tuple #[v', .bool true]) ∧ Below w.heap.size w w' ∧ w'.ownsRow w.heap.size 80 2 v' (addS l a b).length (flatS (addS l a b)) := by
  obtain ⟨i, hi, hzz, hs, hbb⟩ := info_parts (P := Try.prog) (e := 80) (z := .agg #[.int .u64 0, .int .u64 0]) (size := 2) (bytes := 16) (by kernel_rfl)
  obtain ⟨x, c, hv, hS⟩ := hR.form
  have HR := Lib.hid hR
  subst hv
  have HS := Lib.hid hS
  have HG := Lib.hid hg
  obtain ⟨n, hn⟩ : ∃ n, l.length = n := ⟨_, rfl⟩
  have HN := Lib.hid hn
  rw [hn] at hlen HR ⊢
  clear hS hg hn hR
  have hnI : (n : Int) ≤ 100000 := by omega
  go_enter Try.func78, Try.ntmps78
  obtain ⟨P, hP⟩ : ∃ P, P = w.heap.size := ⟨_, rfl⟩
  have HPW : Hid (P = w.heap.size) := Lib.hid hP
  have HGW := Lib.hid ((goodL_all l 0 (Int.le_refl _) HG.out).1)
  have HWW := Lib.hid ((goodL_all l 0 (Int.le_refl _) HG.out).2.1)
  have CG := fun W (h : SRow W x l) => sGoodRow x c l HWW.out (by rw [HN.out]; omega) true ⟨fun _ => HGW.out, fun _ => rfl⟩ W h
  rw [HN.out] at CG
  have HCG := Lib.hid CG
  clear CG
  go_wp2_with fail
  ((with_reducible refine (HCG.out _ (HS.out.below ((Below.refl _ _).alloc (Nat.le_refl _) _))).mono ?_); rintro e' w0 ⟨rfl, b00⟩)
  have x0 : BoxAt w0 P a b := by
    have h : BoxAt (w.alloc (.cells #[.int .u64 a, .int .u64 b] 80 (0, 0))) P a b := by rw [hP]; exact heap_alloc_new w _
    exact h.below h.lt b00
  have b0w : Below P w w0 := by
    rw [hP]
    exact ((Below.refl _ _).alloc (Nat.le_refl _) _).trans (b00.mono (by simp))
  have z0 : P + 1 ≤ w0.heap.size := x0.lt
  obtain ⟨⟨p0, p1⟩, hfz⟩ := x0.cells
  clear b00 HCG hP hfz
  rw [← HPW.out]
  go_wp2_with fail
  ((with_reducible refine (sRightAny a b _).mono ?_); rintro e' w1 ⟨rfl, g1⟩)
  rw [decide_eq_true (show rightS (a, b) from ⟨hab, hb⟩)]
  have x1 : BoxAt w1 P a b := x0.below x0.lt g1.below
  have b01 : Below P w w1 := b0w.trans (g1.below.mono (by omega))
  have z1 : P + 1 ≤ w1.heap.size := x1.lt
  have hPw : P ≤ w.heap.size := Nat.le_of_eq HPW.out
  have HS1 : Hid (SRow w1 x l) := Lib.hid (HS.out.below (by rw [HPW.out] at b01; exact b01))
  clear p0 p1 x0 b0w z0 g1
  go_upto_block 0 with fail
  go_cut [6, 7] from 8 (fun ov iv wx => ∃ (k : Nat) (ls l' : List (Int × Int)), iv = .int .i64 (k : Int) ∧ Add1 w1 P n l a b ov k ls l' wx ∧ addS l a b = ls ++ absorbS l' a b)
  case first =>
    go_wp2_with fail
    go_loopw [6, 7] (fun ov iv wr => ∃ (k : Nat) (ls l' : List (Int × Int)), iv = .int .i64 (k : Int) ∧ Add1 w1 P n l a b ov k ls l' wr ∧ addS l a b = ls ++ addS l' a b) (fun _ iv _ => (n - intOf iv).toNat)
    case atStart => exact ⟨0, [], l, rfl, ⟨by omega, rfl, rfl, ⟨0, Int.le_refl _, HG.out⟩, World.ownsRow_nil _ _ _ _, Below.refl _ _⟩, rfl⟩
    case round =>
      obtain ⟨k, ls, l', rfl, ⟨hk, hls, hll, ⟨low, hlow, hgood⟩, own, bel⟩, hadd⟩ := hrel
      have hk0 : (0 : Int) ≤ (k : Int) := by omega
      have HLS := Lib.hid hls
      have HLL := Lib.hid hll
      have HADD := Lib.hid hadd
      have OWN := Lib.hid own
      have sb := bel.size
      have X := x1.below (Nat.lt_succ_self P) bel
      have lX := X.lt
      obtain ⟨⟨p0, p1⟩, _⟩ := X.cells
      clear hls hll hadd own
      rcases l' with _ | ⟨⟨lo, hi'⟩, l2⟩
      · have hkn : k = n := by
          have e1 := congrArg List.length HLL.out
          rw [List.append_nil, HLS.out, HN.out] at e1
          exact e1
        have hd : decide ((k : Int) < (n : Int)) = false := decide_eq_false (by omega)
        go_wp2_with fail
        go_quiet (fail)
        go_wp2_with fail
        go_meet
        have bd := belDrewN wr nq
        exact ⟨k, ls, [], rfl, ⟨hk, HLS.out, HLL.out, ⟨low, hlow, hgood⟩, own_below OWN.out bd, bel.trans (bd.mono (by omega))⟩, HADD.out⟩
      obtain ⟨g1, g2, g3, g4⟩ := hgood
      have hlt : k < n := by
        have e1 := congrArg List.length HLL.out
        rw [List.length_append, HLS.out, HN.out, List.length_cons] at e1
        omega
      have hlt' : (k : Int) < (n : Int) := by omega
      have hd0 : decide ((k : Int) < (n : Int)) = true := decide_eq_true hlt'
      obtain ⟨ga, oa, rfl, hga, c0, c1⟩ := (HS.out.below (by have h := b01.trans (bel.mono (Nat.le_succ P)); rw [HPW.out] at h; exact h)).at k (by rw [HN.out]; exact hlt)
      rw [← HLL.out, getD_mid ls l2 (lo, hi') k HLS.out] at c0 c1
      have c0 : wr.cell? ⟨ga, oa + k * 2, none⟩ = some (.int .u64 lo) := c0
      have c1 : wr.cell? ⟨ga, oa + k * 2 + 1, none⟩ = some (.int .u64 hi') := c1
      have hw1' : IntKind.u64.wrap (hi' + 1) = hi' + 1 := by rw [IntKind.wrap_u64]; omega
      by_cases hc : hi' + 1 < a
      · have hd : decide (hi' + 1 < a) = true := decide_eq_true hc
        go_wp2_with fail
        go_quiet (fail)
        have bd := belDrewN wr nq
        have f0 : (wr.drewN nq).cell? ⟨ga, oa + k * 2, none⟩ = some (.int .u64 lo) := by rw [bd.cell hga]; exact c0
        have f1 : (wr.drewN nq).cell? ⟨ga, oa + k * 2 + 1, none⟩ = some (.int .u64 hi') := by rw [bd.cell hga]; exact c1
        obtain ⟨w3, hw3⟩ : ∃ w3, w3 = wr.drewN nq := ⟨_, rfl⟩
        have own3 : w3.ownsRow (P + 1) 80 2 u6 k (flatS ls) := by rw [hw3]; exact own_below OWN.out bd
        have b3 : Below (P + 1) w1 w3 := by rw [hw3]; exact bel.trans (bd.mono (by omega))
        rw [← hw3] at f0 f1 ⊢
        clear hw3 bd c0 c1 p0 p1 X OWN
        have s3 := b3.size
        go_wp2_with (at_builtin; refine wpList_append_own _ rfl (.tmp 33) (.tmp 38) 72 rfl (P + 1) 80 i (.agg #[.int .u64 0, .int .u64 0]) 2 16 Try.underlying72 hi hzz hs hbb rfl (by decide) _ k _ rfl (own3.alloc _) ⟨w3.heap.size, 0, none⟩ 1 1 [.int .u64 lo, .int .u64 hi'] rfl rfl (news2 _ _ _ _) (two2 _ _) (by simp [maxLen]; omega) (by omega) (by simp; omega) ?_; intro v6 w6 own6 hgrow6 hnil6)
        have b56 : Below (P + 1) w3 w6 := below_grownR ((Below.refl _ _).alloc (by omega) _) hgrow6 (by simp; omega) (fun k hk => (own3.lt k hk).1)
        go_roundw
        case rel =>
          refine ⟨k + 1, ls ++ [(lo, hi')], l2, by congr 1, ⟨by omega, by rw [List.length_append, HLS.out]; rfl, by rw [List.append_assoc]; exact HLL.out, ⟨hi' + 2, by omega, g4⟩, ?_, b3.trans b56⟩, ?_⟩
          · rw [flatS_append]
            exact own6
          · rw [HADD.out, addS, if_pos hc, List.append_assoc]
            rfl
        case measure => simp only [intOf]; omega
      · have hd : decide (hi' + 1 < a) = false := decide_eq_false hc
        go_wp2_with fail
        go_quiet (fail)
        go_wp2_with fail
        go_meet
        have bd := belDrewN wr nq
        exact ⟨k, ls, (lo, hi') :: l2, rfl, ⟨hk, HLS.out, HLL.out, ⟨low, hlow, g1, g2, g3, g4⟩, own_below OWN.out bd, bel.trans (bd.mono (by omega))⟩, by rw [HADD.out, addS, if_neg (by omega)]⟩
  case rest =>
    obtain ⟨k, ls, l', rfl, ⟨hk, hls, hll, ⟨low, hlow, hgood⟩, own, bel⟩, hadd⟩ := hcut
    have HLS := Lib.hid hls
    have HLL := Lib.hid hll
    have HADD := Lib.hid hadd
    have OWN := Lib.hid own
    have HGO := Lib.hid hgood
    have sb := bel.size
    have X := x1.below (Nat.lt_succ_self P) bel
    clear hls hll hadd own hgood
    go_upto_block 2 with fail
    go_cut [7] from 8 (fun iv wx => ∃ (k2 : Nat) (a2 b2 : Int), iv = .int .i64 (k2 : Int) ∧ k2 ≤ n ∧ absorbS l' a b = (a2, b2) :: l.drop k2 ∧ BoxAt wx P a2 b2 ∧ wx.ownsRow (P + 1) 80 2 u6 k (flatS ls) ∧ Below P w wx)
    case first =>
      go_wp2_with fail
      go_loopw [7] (fun iv wr => ∃ (k2 : Nat) (a2 b2 low2 : Int), iv = .int .i64 (k2 : Int) ∧ k2 ≤ n ∧ (0 ≤ low2 ∧ GoodL low2 (l.drop k2)) ∧ (0 ≤ a2 ∧ a2 ≤ b2 ∧ b2 ≤ 4611686018427387903) ∧ absorbS l' a b = absorbS (l.drop k2) a2 b2 ∧ BoxAt wr P a2 b2 ∧ wr.ownsRow (P + 1) 80 2 u6 k (flatS ls) ∧ Below P w wr) (fun iv _ => (n - intOf iv).toNat)
      case atStart => exact ⟨k, a, b, low, rfl, hk, ⟨hlow, by rw [← HLL.out, ← HLS.out, List.drop_left]; exact HGO.out⟩, ⟨ha, hab, hb⟩, by rw [← HLL.out, ← HLS.out, List.drop_left], X, OWN.out, b01.trans (bel.mono (by omega))⟩
      case round =>
        obtain ⟨k2, a2, b2, low2, rfl, hk2, ⟨hlow2, hgood2⟩, ⟨q0, q1, q2⟩, habs, X2, own2, bel2⟩ := hrel
        have hk0 : (0 : Int) ≤ (k2 : Int) := by omega
        have HABS := Lib.hid habs
        have HGO2 := Lib.hid hgood2
        have OWN2 := Lib.hid own2
        have lX := X2.lt
        have sb2 := bel2.size
        obtain ⟨⟨p0, p1⟩, fz⟩ := X2.cells
        have y0 := fz 0
        have y1 := fz 1
        clear habs own2 hgood2 fz
        have hw1' : IntKind.u64.wrap (b2 + 1) = b2 + 1 := by rw [IntKind.wrap_u64]; omega
        rcases hdr : l.drop k2 with _ | ⟨⟨lo, hi'⟩, l2⟩
        · have hkn : k2 = n := by
            have e1 := congrArg List.length hdr
            rw [List.length_drop, HN.out] at e1
            simp at e1
            omega
          have HDR := Lib.hid hdr
          clear hdr
          have hd : decide ((k2 : Int) < (n : Int)) = false := decide_eq_false (by omega)
          go_wp2_with fail
          go_quiet (fail)
          go_wp2_with fail
          go_meet
          have bd := belDrewN wr nq
          exact ⟨k2, a2, b2, rfl, hk2, by rw [HABS.out, HDR.out, absorbS], X2.below (by omega) bd, own_below OWN2.out bd, bel2.trans (bd.mono (by omega))⟩
        have hlt : k2 < n := by
          have e1 := congrArg List.length hdr
          rw [List.length_drop, HN.out, List.length_cons] at e1
          omega
        have hlt' : (k2 : Int) < (n : Int) := by omega
        have hd0 : decide ((k2 : Int) < (n : Int)) = true := decide_eq_true hlt'
        obtain ⟨g1, g2, g3, g4⟩ : low2 ≤ lo ∧ lo ≤ hi' ∧ hi' ≤ 4611686018427387903 ∧ GoodL (hi' + 2) l2 := by have h := HGO2.out; rw [hdr] at h; exact h
        have hgd : l.getD k2 (0, 0) = (lo, hi') := by
          have e1 := congrArg (·.getD 0 (0, 0)) hdr
          simp only [List.getD_eq_getElem?_getD, List.getElem?_drop, Nat.add_zero] at e1
          rw [List.getD_eq_getElem?_getD, e1]
          rfl
        have hd2 : l.drop (k2 + 1) = l2 := by rw [← List.drop_drop, hdr]; rfl
        have HDR := Lib.hid hdr
        have HD2 := Lib.hid hd2
        have bw1 : Below w.heap.size w wr := bel2.mono (by have := HPW.out; omega)
        obtain ⟨ga, oa, rfl, hga, c0, c1⟩ : ∃ g o, x = some ⟨g, o, none⟩ ∧ g < P ∧ wr.cell? ⟨g, o + k2 * 2, none⟩ = some (.int .u64 lo) ∧ wr.cell? ⟨g, o + k2 * 2 + 1, none⟩ = some (.int .u64 hi') := by
          obtain ⟨g, o, h1, h2, h3, h4⟩ := HS.out.at k2 (by rw [HN.out]; exact hlt)
          rw [hgd] at h3 h4
          have h2 : g < P := by have := HPW.out; omega
          exact ⟨g, o, h1, h2, by rw [bel2.cell h2]; exact h3, by rw [bel2.cell h2]; exact h4⟩
        have hgaP : ga ≠ P := by omega
        have hPga : P ≠ ga := by omega
        clear hdr hgd hd2 bw1
        by_cases hc : lo ≤ b2 + 1
        · have hd : decide (lo ≤ b2 + 1) = true := decide_eq_true hc
          go_wp2_with fail
          go_quiet (fail)
          go_wp2_with fail
          obtain ⟨w3, hw3⟩ : ∃ w3, w3 = wr.drewN nq := ⟨_, rfl⟩
          have bd := belDrewN wr nq
          rw [← hw3] at bd
          have X3 : BoxAt w3 P a2 b2 := X2.below (by omega) bd
          have own3 := own_below OWN2.out bd
          have b3 : Below P w w3 := bel2.trans (bd.mono (by omega))
          have f0 : w3.cell? ⟨ga, oa + k2 * 2, none⟩ = some (.int .u64 lo) := by rw [bd.cell (by simp; omega)]; exact c0
          have f1 : w3.cell? ⟨ga, oa + k2 * 2 + 1, none⟩ = some (.int .u64 hi') := by rw [bd.cell (by simp; omega)]; exact c1
          rw [← hw3]
          clear hw3 bd c0 c1 p0 p1 y0 y1 X2 OWN2 bel2 lX sb2
          have s3 := b3.size
          have lX := X3.lt
          obtain ⟨⟨p0, p1⟩, fz⟩ := X3.cells
          have y0 := fz 0
          have y1 := fz 1
          clear fz
          refine wp_region_still_tail 17 (by kernel_rfl) (by kernel_rfl) ?_
          simp only [List.take_succ_cons, List.take_zero, List.drop_succ_cons, List.drop_zero]
          repeat still_step
          refine wpStill_nil ?_
          go_wp2_with fail
          obtain ⟨w5, hw5⟩ : ∃ w5, w5 = ((w3.setCell ⟨P, 0, none⟩ (.int .u64 (min a2 lo))).setCell ⟨P, 1, none⟩ (.int .u64 (max b2 hi'))).drew := ⟨_, rfl⟩
          have X4 : BoxAt (w3.setCell ⟨P, 0, none⟩ (.int .u64 (min a2 lo))) P (min a2 lo) b2 := heap_set_self w3 P 0 _ _ _ _ X3
          have X5 : BoxAt w5 P (min a2 lo) (max b2 hi') := by rw [hw5]; exact BoxAt.below (heap_set_self _ P 1 _ _ _ _ X4) (Nat.lt_succ_self P) ((belDrew _).mono (by simp; omega))
          have own5 : w5.ownsRow (P + 1) 80 2 u6 k (flatS ls) := by rw [hw5]; exact own_below (ownKept (ownKept own3 (Nat.lt_succ_self P) (fun i hi hl => kept_set _ _ _ _ hi)) (Nat.lt_succ_self P) (fun i hi hl => kept_set _ _ _ _ hi)) (belDrew _)
          have b5 : Below P w w5 := by rw [hw5]; exact ((b3.setCell (by simp) _).setCell (by simp) _).trans ((belDrew _).mono (by simp; omega))
          rw [← hw5]
          clear hw5 f0 f1 p0 p1 y0 y1 X3 X4 own3 b3 s3 lX
          go_roundw
          case rel => exact ⟨k2 + 1, min a2 lo, max b2 hi', hi' + 2, by congr 1, by omega, ⟨by omega, by rw [HD2.out]; exact g4⟩, ⟨by omega, by omega, by omega⟩, by rw [HABS.out, HDR.out, absorbS, if_pos hc, HD2.out], X5, own5, b5⟩
          case measure => simp only [intOf]; omega
        · have hd : decide (lo ≤ b2 + 1) = false := decide_eq_false hc
          go_wp2_with fail
          go_quiet (fail)
          go_wp2_with fail
          go_meet
          have bd := belDrewN wr nq
          exact ⟨k2, a2, b2, rfl, hk2, by rw [HABS.out, HDR.out, absorbS, if_neg (by omega)], X2.below (by omega) bd, own_below OWN2.out bd, bel2.trans (bd.mono (by omega))⟩
    case rest =>
      obtain ⟨k2, a2, b2, rfl, hk2, habs, X2, own2, bel2⟩ := hcut
      have OWN2 := Lib.hid own2
      have HABS := Lib.hid habs
      have BEL := Lib.hid bel2
      have lX := X2.lt
      obtain ⟨⟨p0, p1⟩, _⟩ := X2.cells
      have hkk : k ≤ 100000 := by omega
      have hfin : addS l a b = (ls ++ [(a2, b2)]) ++ l.drop k2 := by rw [HADD.out, HABS.out, List.append_assoc]; rfl
      have hflat : flatS ls ++ [.int .u64 a2, .int .u64 b2] = flatS (ls ++ [(a2, b2)]) := by rw [flatS_append]; rfl
      have hlenf : (addS l a b).length = k + 1 + (n - k2) := by rw [hfin, List.length_append, List.length_append, HLS.out, List.length_drop, HN.out]; rfl
      have HFIN := Lib.hid hfin
      have HFLAT := Lib.hid hflat
      have HLENF := Lib.hid hlenf
      have hP9 : P = w.heap.size := HPW.out
      clear own2 habs bel2 X2 X hfin hflat hlenf
      have hk30 : (0 : Int) ≤ (k2 : Int) := by omega
      have hk31 : (k2 : Int) ≤ (n : Int) := by omega
      rcases HR.out with ⟨hnil, hl0⟩ | ⟨g, o, c', hv, hnc, hcm, hSp⟩
      · injection hnil with e1 e2 e3
        have hn0 : n = 0 := e2
        obtain rfl : k2 = 0 := by omega
        subst e1 e3 hn0
        have hz : ((0 : Nat) : Int) = 0 := rfl
        rw [hz]
        have HP9 := Lib.hid hP9
        have HL0 := Lib.hid hl0
        clear hP9 hl0 hz hk30 hk31
        go_wp2_with (first
          | (at_builtin; refine wpList_append_own _ rfl (.tmp 74) (.tmp 76) 72 rfl (P + 1) 80 i (.agg #[.int .u64 0, .int .u64 0]) 2 16 Try.underlying72 hi hzz hs hbb rfl (by decide) _ k _ rfl (OWN2.out.alloc _) ⟨wc.heap.size, 0, none⟩ 1 1 [.int .u64 a2, .int .u64 b2] rfl rfl (news2 _ _ _ _) (two2 _ _) (by simp [maxLen]; omega) (by omega) (by simp; omega) ?_; intro v6 w6 own6 hgrow6 hnil6; have b56 : Below (P + 1) wc w6 := below_grownR ((Below.refl _ _).alloc (by omega) _) hgrow6 (by simp; omega) (fun k hk => (OWN2.out.lt k hk).1); have b06 : Below P w w6 := BEL.out.trans (b56.mono (by omega)))
          | (at_builtin; refine wpList_append_none rfl (.tmp 78) (.tmp 81) 72 rfl (P + 1) 80 i 2 Try.underlying72 hi hs _ (k + 1) _ rfl own6 (by rfl) ?_))
        have own6 := own6
        rw [HFLAT.out] at own6
        go_ret2
        refine ⟨v6, rfl, by rw [← HP9.out]; exact b06, ?_⟩
        rw [HLENF.out, HFIN.out, HL0.out, ← HP9.out]
        simpa using own_base own6 (Nat.le_succ _)
      · injection hv with e1 e2 e3
        subst e1 e3
        have HP9 := Lib.hid hP9
        have hSw : ∀ W, Below P w W → SpansAt W g o l := fun W hb => hSp.below (by rw [← HP9.out]; exact hb)
        have HSW := Lib.hid hSw
        have hncN : n ≤ c := by rw [← HN.out]; exact hnc
        clear hP9 hSp hSw hnc e2
        by_cases hkc : c = k2
        · have hkn : n = k2 := by omega
          subst hkc hkn
          have hdrop : l.drop n = [] := List.drop_eq_nil_of_le (by rw [HN.out]; omega)
          have HDROP := Lib.hid hdrop
          clear hdrop
          go_wp2_with (first
            | (at_builtin; refine wpList_append_own _ rfl (.tmp 74) (.tmp 76) 72 rfl (P + 1) 80 i (.agg #[.int .u64 0, .int .u64 0]) 2 16 Try.underlying72 hi hzz hs hbb rfl (by decide) _ k _ rfl (OWN2.out.alloc _) ⟨wc.heap.size, 0, none⟩ 1 1 [.int .u64 a2, .int .u64 b2] rfl rfl (news2 _ _ _ _) (two2 _ _) (by simp [maxLen]; omega) (by omega) (by simp; omega) ?_; intro v6 w6 own6 hgrow6 hnil6; have b56 : Below (P + 1) wc w6 := below_grownR ((Below.refl _ _).alloc (by omega) _) hgrow6 (by simp; omega) (fun k hk => (OWN2.out.lt k hk).1); have b06 : Below P w w6 := BEL.out.trans (b56.mono (by omega)))
            | (at_builtin; refine wpList_append_own _ rfl (.tmp 78) (.tmp 81) 72 rfl (P + 1) 80 i (.agg #[.int .u64 0, .int .u64 0]) 2 16 Try.underlying72 hi hzz hs hbb rfl (by decide) _ (k + 1) _ rfl own6 ⟨g, o, none⟩ 0 0 [] rfl rfl (fun j u h => by simp at h) (fun u h => by simp at h) (by simp [maxLen]; omega) (by omega) (by have := b56.size; omega) ?_; intro v7 w7 own7 hgrow7 hnil7))
          rw [HFLAT.out] at own7
          have b67 : Below (P + 1) w6 w7 := below_grownR (Below.refl _ _) hgrow7 (by have := b56.size; omega) (fun k hk => (own6.lt k hk).1)
          go_ret2
          refine ⟨v7, rfl, by rw [← HP9.out]; exact b06.trans (b67.mono (by omega)), ?_⟩
          rw [HLENF.out, HFIN.out, HDROP.out, ← HP9.out]
          simpa using own_base own7 (Nat.le_succ _)
        · have hck : k2 ≠ c := fun e => hkc e.symm
          have hmm : n - k2 ≤ 100000 := by omega
          have hll2 : (l.drop k2).length = n - k2 := by rw [List.length_drop, HN.out]
          have HLL2 := Lib.hid hll2
          clear hll2
          go_wp2_with (first
            | (at_builtin; refine wpList_append_own _ rfl (.tmp 74) (.tmp 76) 72 rfl (P + 1) 80 i (.agg #[.int .u64 0, .int .u64 0]) 2 16 Try.underlying72 hi hzz hs hbb rfl (by decide) _ k _ rfl (OWN2.out.alloc _) ⟨wc.heap.size, 0, none⟩ 1 1 [.int .u64 a2, .int .u64 b2] rfl rfl (news2 _ _ _ _) (two2 _ _) (by simp [maxLen]; omega) (by omega) (by simp; omega) ?_; intro v6 w6 own6 hgrow6 hnil6; have b56 : Below (P + 1) wc w6 := below_grownR ((Below.refl _ _).alloc (by omega) _) hgrow6 (by simp; omega) (fun k hk => (OWN2.out.lt k hk).1); have b06 : Below P w w6 := BEL.out.trans (b56.mono (by omega)))
            | (at_builtin; refine wpList_append_own _ rfl (.tmp 78) (.tmp 81) 72 rfl (P + 1) 80 i (.agg #[.int .u64 0, .int .u64 0]) 2 16 Try.underlying72 hi hzz hs hbb rfl (by decide) _ (k + 1) _ rfl own6 ⟨g, o + k2 * 2, none⟩ (n - k2) (c - k2) (flatS (l.drop k2)) rfl (by rw [flatS_len, HLL2.out]) ((HSW.out _ b06).drop k2).news (flatS_one _) (by simp [maxLen]; omega) (by omega) (by have := b56.size; omega) ?_; intro v7 w7 own7 hgrow7 hnil7))
          rw [HFLAT.out, ← flatS_append] at own7
          have b67 : Below (P + 1) w6 w7 := below_grownR (Below.refl _ _) hgrow7 (by have := b56.size; omega) (fun k hk => (own6.lt k hk).1)
          go_ret2
          refine ⟨v7, rfl, by rw [← HP9.out]; exact b06.trans (b67.mono (by omega)), ?_⟩
          rw [HLENF.out, HFIN.out, ← HP9.out]
          exact own_base own7 (Nat.le_succ _)

end Go.Proofs.Ytikkmdbaekdolaa

/- rows of what was sent, as they lie in memory. -/
namespace Go.Proofs.Ytikkmdbaekdolaa
open Go.RowKit Go.Lib
set_option linter.unusedVariables false
set_option maxRecDepth 100000

structure SentP where
  pn : Int
  off : Int
  len : Int
  nonce : Int
  at_ : Int
  coin : Bool
  used : Bool
  state : Int
def zS : SentP := ⟨0, 0, 0, 0, 0, false, false, 0⟩
/-- the row lies there -/
def SentAt (w : World) (g o : Nat) (l : List SentP) : Prop := g < w.heap.size ∧ ∀ i, i < l.length →
  w.cell? ⟨g, o + i * 8, none⟩ = some (.int .u64 (l.getD i zS).pn) ∧ w.cell? ⟨g, o + i * 8 + 1, none⟩ = some (.int .u64 (l.getD i zS).off) ∧ w.cell? ⟨g, o + i * 8 + 2, none⟩ = some (.int .u64 (l.getD i zS).len) ∧ w.cell? ⟨g, o + i * 8 + 3, none⟩ = some (.int .u64 (l.getD i zS).nonce) ∧ w.cell? ⟨g, o + i * 8 + 4, none⟩ = some (.int .u64 (l.getD i zS).at_) ∧ w.cell? ⟨g, o + i * 8 + 5, none⟩ = some (.bool (l.getD i zS).coin) ∧ w.cell? ⟨g, o + i * 8 + 6, none⟩ = some (.bool (l.getD i zS).used) ∧ w.cell? ⟨g, o + i * 8 + 7, none⟩ = some (.int .i64 (l.getD i zS).state)
theorem SentAt.below {w w' : World} {g o : Nat} {l : List SentP} (h : SentAt w g o l) (hb : Below w.heap.size w w') : SentAt w' g o l := by
  refine ⟨Nat.lt_of_lt_of_le h.1 hb.size, fun i hi => ?_⟩
  obtain ⟨h0, h1, h2, h3, h4, h5, h6, h7⟩ := h.2 i hi
  exact ⟨(hb.cell (p := ⟨g, o + i * 8, none⟩) h.1).trans h0, (hb.cell (p := ⟨g, o + i * 8 + 1, none⟩) h.1).trans h1, (hb.cell (p := ⟨g, o + i * 8 + 2, none⟩) h.1).trans h2, (hb.cell (p := ⟨g, o + i * 8 + 3, none⟩) h.1).trans h3, (hb.cell (p := ⟨g, o + i * 8 + 4, none⟩) h.1).trans h4, (hb.cell (p := ⟨g, o + i * 8 + 5, none⟩) h.1).trans h5, (hb.cell (p := ⟨g, o + i * 8 + 6, none⟩) h.1).trans h6, (hb.cell (p := ⟨g, o + i * 8 + 7, none⟩) h.1).trans h7⟩
def SentRow (w : World) (x : Option Addr) (l : List SentP) : Prop := l = [] ∨ ∃ g o, x = some ⟨g, o, none⟩ ∧ SentAt w g o l
theorem SentRow.below {w w' : World} {x : Option Addr} {l : List SentP} (h : SentRow w x l) (hb : Below w.heap.size w w') : SentRow w' x l := by
  rcases h with h | ⟨g, o, h, k⟩
  · exact .inl h
  · exact .inr ⟨g, o, h, k.below hb⟩
theorem SentRow.at {w : World} {x : Option Addr} {l : List SentP} (h : SentRow w x l) (k : Nat) (hk : k < l.length) : ∃ g o, x = some ⟨g, o, none⟩ ∧ SentAt w g o l := by
  rcases h with rfl | h
  · simp at hk
  · exact h
/-- a frame with that nonce would do harm -/
def badS (t : Int) (d : SentP) : Prop := d.state ≠ 4 ∧ d.used = false ∧ d.nonce = t
def harmP (l : List SentP) (t : Int) : Prop := ∀ i, i < l.length → ¬ badS t (l.getD i zS)

end Go.Proofs.Ytikkmdbaekdolaa

/- package judge: Harmless, of any row and any bytes. -/
namespace Go.Proofs.Ytikkmdbaekdolaa
open Go.RowKit Go.Lib
set_option linter.unusedVariables false
set_option maxRecDepth 100000

/-- an acknowledgment's block, at its third cell -/
def TrigjHarm (w : World) (D : Nat) (t : Int) : Prop := D < w.heap.size ∧ w.cell? ⟨D, 2, none⟩ = some (.int .u64 t)
theorem TrigjHarm.cellsIn {w w' : World} {D : Nat} {t : Int} (h : TrigjHarm w D t) (hb : Below w.heap.size w w') : TrigjHarm w' D t := ⟨Nat.lt_of_lt_of_le h.1 hb.size, (hb.cell (p := ⟨D, 2, none⟩) h.1).trans h.2⟩

set_option maxHeartbeats 2000000 in
theorem jHarmErr (v0 : Value) (bv : Value) (bs : List Int) (hb : ∀ x ∈ bs, 0 ≤ x ∧ x ≤ 255) (hlen : bs.length ≤ 140737488351232) (w : World) (hB : BodyAt w bv bs) (E : Int) (d : AckD) (hG : getA bs = (E, d)) (hE : (E != 0) = true) :
    Calls Try.prog 44 #[v0, bv] w fun e w' => e = .returned (.bool true) ∧ Below w.heap.size w w' := by
  have HD := Lib.hid (fun W (h : BodyAt W bv bs) => aDecode bv bs hb hlen W h E d hG)
  have HBB := Lib.hid hB
  clear hB hG hb hlen
  go_enter Try.func44, Try.ntmps44
  go_wp2_with fail
  ((with_reducible refine (HD.out _ (HBB.out.below (by repeat (first | with_reducible exact Below.refl _ _ | with_reducible apply below_drewN | with_reducible apply Below.drew | with_reducible refine Below.alloc ?_ (by first | exact Nat.le_refl _ | (simp; done) | (simp; omega)) _ | with_reducible refine Below.setCell ?_ (by first | exact Nat.le_refl _ | (simp; done) | (simp; omega)) _)))).mono ?_); rintro e' w1 ⟨v, u, rfl, b1, r1, r2⟩)
  have b2 : Below w.heap.size w w1 := (show Below w.heap.size w _ from (by repeat (first | with_reducible exact Below.refl _ _ | with_reducible apply below_drewN | with_reducible apply Below.drew | with_reducible refine Below.alloc ?_ (by first | exact Nat.le_refl _ | (simp; done) | (simp; omega)) _ | with_reducible refine Below.setCell ?_ (by first | exact Nat.le_refl _ | (simp; done) | (simp; omega)) _))).trans (b1.mono (by first | exact Nat.le_refl _ | (simp; done) | (simp; omega)))
  obtain ⟨x1, c1, rfl, _⟩ := r1
  obtain ⟨x2, c2, rfl, _⟩ := r2
  have hE2 : (E == 0) = false := by
    cases h : (E == 0)
    · rfl
    · rw [bne, h] at hE; cases hE
  unfold ackV
  go_wp2_with fail
  go_ret
  exact ⟨rfl, by repeat (first | with_reducible exact b2 | with_reducible apply below_drewN | with_reducible apply Below.drew | with_reducible refine Below.alloc ?_ (by have := b2.size; first | exact this | (simp; omega)) _ | with_reducible refine Below.setCell ?_ (by have := b2.size; first | exact this | (simp; omega)) _)⟩

set_option maxHeartbeats 8000000 in
set_option maxRecDepth 100000 in
theorem jHarmOk (x : Option Addr) (c : Nat) (l : List SentP) (hl : l.length ≤ 9223372036854775807) (bv : Value) (bs : List Int) (hb : ∀ x ∈ bs, 0 ≤ x ∧ x ≤ 255) (hlen : bs.length ≤ 140737488351232) (w : World) (hB : BodyAt w bv bs) (hS : SentRow w x l) (d : AckD) (hG : getA bs = (0, d)) (B : Bool) (hQ : B = true ↔ harmP l d.trig) :
    Calls Try.prog 44 #[.slice x l.length c, bv] w fun e w' => e = .returned (.bool B) ∧ Below w.heap.size w w' := by
  have HD := Lib.hid (fun W (h : BodyAt W bv bs) => aDecode bv bs hb hlen W h 0 d hG)
  have HBB := Lib.hid hB
  have HSS := Lib.hid hS
  have HQ := Lib.hid hQ
  clear hB hG hb hlen hS hQ
  obtain ⟨n, hn⟩ : ∃ n, l.length = n := ⟨_, rfl⟩
  have HN := Lib.hid hn
  rw [hn] at hl ⊢
  clear hn
  have hnI : (n : Int) ≤ 9223372036854775807 := by omega
  go_enter Try.func44, Try.ntmps44
  go_wp2_with fail
  ((with_reducible refine (HD.out _ (HBB.out.below (by repeat (first | with_reducible exact Below.refl _ _ | with_reducible apply below_drewN | with_reducible apply Below.drew | with_reducible refine Below.alloc ?_ (by first | exact Nat.le_refl _ | (simp; done) | (simp; omega)) _ | with_reducible refine Below.setCell ?_ (by first | exact Nat.le_refl _ | (simp; done) | (simp; omega)) _)))).mono ?_); rintro e' w1 ⟨v, u, rfl, b1, r1, r2⟩)
  have B1 : Below w.heap.size w w1 := (show Below w.heap.size w _ from (by repeat (first | with_reducible exact Below.refl _ _ | with_reducible apply below_drewN | with_reducible apply Below.drew | with_reducible refine Below.alloc ?_ (by first | exact Nat.le_refl _ | (simp; done) | (simp; omega)) _ | with_reducible refine Below.setCell ?_ (by first | exact Nat.le_refl _ | (simp; done) | (simp; omega)) _))).trans (b1.mono (by first | exact Nat.le_refl _ | (simp; done) | (simp; omega)))
  obtain ⟨x1, c1, rfl, _⟩ := r1
  obtain ⟨x2, c2, rfl, _⟩ := r2
  clear b1
  unfold ackV
  generalize d.spans.length = n1
  generalize d.marked.length = n2
  have sb := B1.size
  go_wp2_with fail
  go_loopw [18] (fun i wr => ∃ k : Nat, i = .int .i64 (k : Int) ∧ k ≤ n ∧ (∀ j, j < k → ¬ badS d.trig (l.getD j zS)) ∧ TrigjHarm wr w1.heap.size d.trig ∧ Below w.heap.size w wr) (fun i _ => (n - intOf i).toNat)
  case atStart => exact ⟨0, by first | rfl | simp, by omega, fun j hj => absurd hj (by omega), ⟨by simp; try omega, by simp⟩, by repeat (first | with_reducible exact B1 | with_reducible apply below_drewN | with_reducible apply Below.drew | with_reducible refine Below.alloc ?_ (by first | exact sb | (simp; omega)) _ | with_reducible refine Below.setCell ?_ (by first | exact sb | (simp; omega)) _)⟩
  case round =>
    clear B1 sb
    obtain ⟨k, rfl, hk, hno, rA, hbel⟩ := hrel
    have HNO := Lib.hid hno
    have HBEL := Lib.hid hbel
    have hD := rA.1
    have hDc := rA.2
    clear hno hbel
    by_cases hlt : k < n
    · have hltI : (k : Int) < (n : Int) := by omega
      obtain ⟨g, o, rfl, hSA⟩ := SentRow.at HSS.out k (by rw [HN.out]; exact hlt)
      obtain ⟨hg, hSA⟩ := hSA.below (HBEL.out.mono (Nat.le_refl _))
      obtain ⟨q0, q1, q2, q3, q4, q5, q6, q7⟩ := hSA k (by rw [HN.out]; exact hlt)
      have HNX := Lib.hid (fun (h : ¬ badS d.trig (l.getD k zS)) => (fun j hj => by
        rcases (by omega : j < k ∨ j = k) with h3 | rfl
        · exact HNO.out j h3
        · exact h : ∀ j, j < k + 1 → ¬ badS d.trig (l.getD j zS)))
      have HFB := Lib.hid (fun (h : badS d.trig (l.getD k zS)) => (by
        show B = false
        cases hb : B
        · rfl
        · exact absurd h (HQ.out.1 hb k (by rw [HN.out]; exact hlt)) : B = false))
      clear HNO hSA
      generalize l.getD k zS = s at *
      obtain ⟨s0, s1, s2, s3, s4, s5, s6, s7⟩ := s
      simp only at q0 q1 q2 q3 q4 q5 q6 q7
      by_cases h7 : s7 = 4
      case pos =>
        have e7 : (s7 != 4) = false := by rw [h7]; rfl
        have HW := Lib.hid (show ¬ badS d.trig ⟨s0, s1, s2, s3, s4, s5, s6, s7⟩ from fun h => h.1 h7)
        clear h7
        go_wp2_with fail
        go_roundw
        case rel => exact ⟨k + 1, by congr 1, by omega, HNX.out HW.out, rA.cellsIn (by first | exact Below.refl _ _ | (repeat (first | with_reducible exact Below.refl _ _ | with_reducible apply below_drewN | with_reducible apply Below.drew | with_reducible refine Below.alloc ?_ (by first | exact Nat.le_refl _ | (simp; done) | (simp; omega)) _ | with_reducible refine Below.setCell ?_ (by first | exact Nat.le_refl _ | (simp; done) | (simp; omega)) _))), by repeat (first | with_reducible exact HBEL.out | with_reducible apply below_drewN | with_reducible apply Below.drew | with_reducible refine Below.alloc ?_ (by have := HBEL.out.size; first | exact this | (simp; done) | (simp; omega)) _ | with_reducible refine Below.setCell ?_ (by have := HBEL.out.size; first | exact this | (simp; done) | (simp; omega)) _)⟩
        case measure => simp only [intOf]; omega
      have e7 : (s7 != 4) = true := by rw [bne_iff_ne]; exact h7
      have HNE := Lib.hid h7
      clear h7
      cases s6
      case true =>
        have HW := Lib.hid (show ¬ badS d.trig ⟨s0, s1, s2, s3, s4, s5, true, s7⟩ from fun h => by have h2 : true = false := h.2.1; cases h2)
        go_wp2_with fail
        go_roundw
        case rel => exact ⟨k + 1, by congr 1, by omega, HNX.out HW.out, rA.cellsIn (by first | exact Below.refl _ _ | (repeat (first | with_reducible exact Below.refl _ _ | with_reducible apply below_drewN | with_reducible apply Below.drew | with_reducible refine Below.alloc ?_ (by first | exact Nat.le_refl _ | (simp; done) | (simp; omega)) _ | with_reducible refine Below.setCell ?_ (by first | exact Nat.le_refl _ | (simp; done) | (simp; omega)) _))), by repeat (first | with_reducible exact HBEL.out | with_reducible apply below_drewN | with_reducible apply Below.drew | with_reducible refine Below.alloc ?_ (by have := HBEL.out.size; first | exact this | (simp; done) | (simp; omega)) _ | with_reducible refine Below.setCell ?_ (by have := HBEL.out.size; first | exact this | (simp; done) | (simp; omega)) _)⟩
        case measure => simp only [intOf]; omega
      by_cases h3 : s3 = d.trig
      case neg =>
        have e3 : (s3 == d.trig) = false := by rw [beq_eq_false_iff_ne]; exact h3
        have HW := Lib.hid (show ¬ badS d.trig ⟨s0, s1, s2, s3, s4, s5, false, s7⟩ from fun h => h3 h.2.2)
        clear h3
        go_wp2_with fail
        go_roundw
        case rel => exact ⟨k + 1, by congr 1, by omega, HNX.out HW.out, rA.cellsIn (by first | exact Below.refl _ _ | (repeat (first | with_reducible exact Below.refl _ _ | with_reducible apply below_drewN | with_reducible apply Below.drew | with_reducible refine Below.alloc ?_ (by first | exact Nat.le_refl _ | (simp; done) | (simp; omega)) _ | with_reducible refine Below.setCell ?_ (by first | exact Nat.le_refl _ | (simp; done) | (simp; omega)) _))), by repeat (first | with_reducible exact HBEL.out | with_reducible apply below_drewN | with_reducible apply Below.drew | with_reducible refine Below.alloc ?_ (by have := HBEL.out.size; first | exact this | (simp; done) | (simp; omega)) _ | with_reducible refine Below.setCell ?_ (by have := HBEL.out.size; first | exact this | (simp; done) | (simp; omega)) _)⟩
        case measure => simp only [intOf]; omega
      have e3 : (s3 == d.trig) = true := by rw [beq_iff_eq]; exact h3
      have FB := Lib.hid (HFB.out ⟨HNE.out, rfl, h3⟩)
      clear h3
      go_wp2_with fail
      go_ret
      exact ⟨ret_bool FB.out.symm, by repeat (first | with_reducible exact HBEL.out | with_reducible apply below_drewN | with_reducible apply Below.drew | with_reducible refine Below.alloc ?_ (by have := HBEL.out.size; first | exact this | (simp; done) | (simp; omega)) _ | with_reducible refine Below.setCell ?_ (by have := HBEL.out.size; first | exact this | (simp; done) | (simp; omega)) _)⟩
    · have hdd : decide ((k : Int) < (n : Int)) = false := by rw [decide_eq_false_iff_not]; omega
      have TB : Hid (B = true) := HQ.out.2 fun i hi => HNO.out i (by rw [HN.out] at hi; omega)
      go_wp2_with fail
      go_ret
      exact ⟨ret_bool TB.out.symm, HBEL.out⟩

theorem jHarm (x : Option Addr) (c : Nat) (l : List SentP) (hl : l.length ≤ 9223372036854775807) (bv : Value) (bs : List Int) (hb : ∀ x ∈ bs, 0 ≤ x ∧ x ≤ 255) (hlen : bs.length ≤ 140737488351232) (w : World) (hB : BodyAt w bv bs) (hS : SentRow w x l) (E : Int) (d : AckD) (hG : getA bs = (E, d)) (B : Bool) (hQ : B = true ↔ (E ≠ 0 ∨ harmP l d.trig)) :
    Calls Try.prog 44 #[.slice x l.length c, bv] w fun e w' => e = .returned (.bool B) ∧ Below w.heap.size w w' := by
  by_cases h0 : E = 0
  · subst h0
    exact jHarmOk x c l hl bv bs hb hlen w hB hS d hG B (hQ.trans ⟨fun h => h.resolve_left (fun k => k rfl), .inr⟩)
  · have hb' : B = true := hQ.2 (.inl h0)
    subst hb'
    exact jHarmErr _ bv bs hb hlen w hB E d hG (by rw [bne_iff_ne]; exact h0)

end Go.Proofs.Ytikkmdbaekdolaa

/- package judge: Honest, of any packets that came and any acknowledgment. -/
namespace Go.Proofs.Ytikkmdbaekdolaa
open Go.RowKit Go.Lib
set_option linter.unusedVariables false
set_option maxRecDepth 100000

theorem allC_len (l : List DatP) : ∀ n, (allC l n).length ≤ n
  | 0 => Nat.le_refl _
  | n + 1 => by
    have h := allC_len l n
    unfold allC
    split
    · have := (addS_len (allC l n) (l.getD n zD).pn (l.getD n zD).pn).2
      omega
    · omega
/-- none that is bad among the first n -/
def fineC (l : List DatP) (S M : List (Int × Int)) (n : Nat) : Prop := ∀ j, j < n → (l.getD j zD).pn ≤ 4611686018427387903 → seenB l j (l.getD j zD).pn = false → ¬ badC S M (l.getD j zD)
theorem fineC.step {l : List DatP} {S M : List (Int × Int)} {n : Nat} (h : fineC l S M n) (k : (l.getD n zD).pn ≤ 4611686018427387903 → seenB l n (l.getD n zD).pn = false → ¬ badC S M (l.getD n zD)) : fineC l S M (n + 1) := fun j hj h1 h2 => by
  rcases (by omega : j < n ∨ j = n) with h3 | rfl
  · exact h j h3 h1 h2
  · exact k h1 h2
theorem RowV.slice {w : World} {v : Value} {l : List (Int × Int)} (h : RowV w v l) : ∃ x c, v = .slice x l.length c ∧ SRow w x l := h.form

set_option maxHeartbeats 4000000 in
theorem jHonNo (xc : Option Addr) (cc : Nat) (l : List DatP) (hf : CFit l) (hl : l.length ≤ 100000) (xs xm : Option Addr) (cs cm : Nat) (S M : List (Int × Int)) (hwS : ∀ s ∈ S, W64 s.1 ∧ W64 s.2) (hwM : ∀ s ∈ M, W64 s.1 ∧ W64 s.2) (hlS : S.length ≤ 1000000) (hlM : M.length ≤ 1000000) (t r : Int) (p : Bool) (w : World)
    (hC : CRow w xc l) (hS : SRow w xs S) (hM : SRow w xm M) (hmay : ¬ mayRows S M) :
    Calls Try.prog 40 #[.slice xc l.length cc, .agg #[.slice xs S.length cs, .slice xm M.length cm, .int .u64 t, .int .u64 r, .bool p]] w fun e w' => e = .returned (.bool false) ∧ Below w.heap.size w w' := by
  have HMAYC := Lib.hid (fun W (h1 : SRow W xs S) (h2 : SRow W xm M) => aMay xs xm cs cm S M hwS hwM (by omega) (by omega) t r p false ⟨fun h => (by cases h), fun h => absurd h hmay⟩ W h1 h2)
  have HSS := Lib.hid hS
  have HSM := Lib.hid hM
  clear hS hM hC hwS hwM hmay hf
  have hlI : (l.length : Int) ≤ 100000 := by omega
  go_enter Try.func40, Try.ntmps40
  go_wp2_with fail
  ((with_reducible refine (HMAYC.out _ (HSS.out.below ((Below.refl _ _).alloc (Nat.le_refl _) _)) (HSM.out.below ((Below.refl _ _).alloc (Nat.le_refl _) _))).mono ?_); rintro e' w1 ⟨rfl, b1⟩)
  have B1 : Below w.heap.size w w1 := ((Below.refl _ _).alloc (Nat.le_refl _) _).trans (b1.mono (by simp))
  clear b1
  go_wp2_with fail
  go_ret
  exact ⟨rfl, B1⟩

set_option maxHeartbeats 16000000 in
set_option maxRecDepth 100000 in
theorem jHonSome (g o : Nat) (cc : Nat) (l : List DatP) (hf : CFit l) (hl : l.length ≤ 100000) (xs xm : Option Addr) (cs cm : Nat) (S M : List (Int × Int)) (hwS : ∀ s ∈ S, W64 s.1 ∧ W64 s.2) (hwM : ∀ s ∈ M, W64 s.1 ∧ W64 s.2) (hlS : S.length ≤ 1000000) (hlM : M.length ≤ 1000000) (t r : Int) (p : Bool) (w : World)
    (hC : CameAt w g o l) (hS : SRow w xs S) (hM : SRow w xm M) (hmay : mayRows S M) (B : Bool) (hB : B = true ↔ honP l S M) :
    Calls Try.prog 40 #[.slice (some ⟨g, o, none⟩) l.length cc, .agg #[.slice xs S.length cs, .slice xm M.length cm, .int .u64 t, .int .u64 r, .bool p]] w fun e w' => e = .returned (.bool B) ∧ Below w.heap.size w w' := by
  have HMAYC := Lib.hid (fun W (h1 : SRow W xs S) (h2 : SRow W xm M) => aMay xs xm cs cm S M hwS hwM (by omega) (by omega) t r p true ⟨fun _ => hmay, fun _ => rfl⟩ W h1 h2)
  have HHS := Lib.hid (fun (q : Int) (Bq : Bool) (hq : Bq = true ↔ hasP S q) W (h : SRow W xs S) => sHas xs cs S hmay.2.2.2.1 hwS hlS q Bq hq W h)
  have HHM := Lib.hid (fun (q : Int) (Bq : Bool) (hq : Bq = true ↔ hasP M q) W (h : SRow W xm M) => sHas xm cm M hmay.2.2.2.2.1 hwM hlM q Bq hq W h)
  have HWI := Lib.hid (fun (A : List (Int × Int)) (xa : Option Addr) (ca : Nat) (hwA : ∀ s ∈ A, W64 s.1 ∧ W64 s.2) (hlA : A.length ≤ 9223372036854775807) (Bq : Bool) (hq : Bq = true ↔ withinAll S A) W (h1 : SRow W xs S) (h2 : SRow W xa A) => sWithin xs xa cs ca S A hwS hwA (by omega) hlA Bq hq W h1 h2)
  have HSS := Lib.hid hS
  have HSM := Lib.hid hM
  have HCC := Lib.hid hC
  have HF := Lib.hid hf
  have HMAY := Lib.hid hmay
  have HB := Lib.hid hB
  have hgw := hC.1
  clear hS hM hC hwS hwM hmay hf hB
  have hlI : (l.length : Int) ≤ 100000 := by omega
  go_enter Try.func40, Try.ntmps40
  go_wp2_with fail
  ((with_reducible refine (HMAYC.out _ (HSS.out.below ((Below.refl _ _).alloc (Nat.le_refl _) _)) (HSM.out.below ((Below.refl _ _).alloc (Nat.le_refl _) _))).mono ?_); rintro e' w1 ⟨rfl, b1⟩)
  have B1 : Below w.heap.size w w1 := ((Below.refl _ _).alloc (Nat.le_refl _) _).trans (b1.mono (by simp))
  have rA : RowIs w1 w.heap.size 74 #[.slice xs S.length cs, .slice xm M.length cm, .int .u64 t, .int .u64 r, .bool p] := RowIs.below (RowIs.mk (heap_alloc_new w _)) (by simp) b1
  clear b1 HMAYC
  go_wp2_with fail
  go_loopw [5, 13] (fun v i wr => ∃ k : Nat, i = .int .i64 (k : Int) ∧ k ≤ l.length ∧ RowV wr v (allC l k) ∧ fineC l S M k ∧ RowIs wr w.heap.size 74 #[.slice xs S.length cs, .slice xm M.length cm, .int .u64 t, .int .u64 r, .bool p] ∧ Below w.heap.size w wr) (fun _ i _ => (l.length - intOf i).toNat)
  case atStart => exact ⟨0, by first | rfl | simp, by omega, .inl ⟨rfl, rfl⟩, fun j hj => absurd hj (by omega), rA, B1⟩
  case round =>
    clear rA B1
    obtain ⟨k, rfl, hk, hv, hfine, rA, hbel⟩ := hrel
    have HV := Lib.hid hv
    have HFI := Lib.hid hfine
    have HBEL := Lib.hid hbel
    clear hv hfine hbel
    have lA := rA.lt
    have hgA := allC_good l HF.out k (by omega)
    have hAl := allC_len l k
    have hHA := allC_has l HF.out k (by omega)
    obtain ⟨hAall, hAw, _⟩ := goodL_all _ 0 (Int.le_refl _) hgA
    by_cases hlt : k < l.length
    · have hltI : (k : Int) < (l.length : Int) := by omega
      obtain ⟨q0, q1, q2, q3, q4, q5⟩ := (HCC.out.below HBEL.out).2 k hlt
      have hg2 : g < wr.heap.size := Nat.lt_of_lt_of_le hgw HBEL.out.size
      have hwd := HF.out k hlt
      have HST := Lib.hid (show allC l (k + 1) = if (l.getD k zD).pn ≤ 4611686018427387903 ∧ seenB l k (l.getD k zD).pn = false then addS (allC l k) (l.getD k zD).pn (l.getD k zD).pn else allC l k from rfl)
      have HFS := Lib.hid (fun h => HFI.out.step h)
      generalize hd : l.getD k zD = d at *
      have HP0 : Hid (0 ≤ d.pn) := (show 0 ≤ d.pn ∧ _ from hwd.1).1
      have HD := Lib.hid hd
      clear hd hwd HFI
      by_cases hmax : d.pn ≤ 4611686018427387903
      case neg =>
        have hE : Hid (allC l (k + 1) = allC l k) := HST.out.trans (if_neg (fun h => hmax h.1))
        have hF2 : Hid (fineC l S M (k + 1)) := HFS.out (fun h => absurd h hmax)
        have hmx : 4611686018427387903 < d.pn := by omega
        have hm1 := decide_eq_true hmx
        clear hmax
        go_wp2_with fail
        go_roundw
        case rel => exact ⟨k + 1, by congr 1, by omega, by rw [hE.out]; exact HV.out.below ((Below.refl _ _).alloc (Nat.le_refl _) _), hF2.out, (show RowIs _ (w.heap.size) 74 #[.slice xs S.length cs, .slice xm M.length cm, .int .u64 t, .int .u64 r, .bool p] from by refine RowIs.mk ?_; repeat (first | (with_reducible exact RowIs.un rA) | (with_reducible exact RowIs.un rD) | (with_reducible refine heap_newS _ _ _ ?_; (first | (simp; done) | (simp; omega))) | with_reducible apply heap_gwS | with_reducible apply heap_drewNS | with_reducible apply heap_drewS | with_reducible apply heap_allocS)), HBEL.out.alloc HBEL.out.size _⟩
        case measure => simp only [intOf]; omega
      have hm1 : decide (4611686018427387903 < d.pn) = false := decide_eq_false (by omega)
      obtain ⟨xa, ca, rfl, hSA⟩ := RowV.slice HV.out
      have HSA := Lib.hid hSA
      have HHA := Lib.hid (fun (Bq : Bool) (hq : Bq = true ↔ hasP (allC l k) d.pn) W (h : SRow W xa (allC l k)) => sHas xa ca (allC l k) hAall hAw (by omega) d.pn Bq hq W h)
      have HIFF : Hid (hasP (allC l k) d.pn ↔ seenB l k d.pn = true) := ⟨fun h => ((hHA d.pn).1 ((has_iff _ _).1 h)).2, fun h => (has_iff _ _).2 ((hHA d.pn).2 ⟨hmax, h⟩)⟩
      have HGA := Lib.hid hgA
      clear hSA hAall hAw hHA hgA
      generalize hAA : allC l k = A at *
      have HAA := Lib.hid hAA
      clear hAA
      cases hs : seenB l k d.pn
      case true =>
        have hE : Hid (allC l (k + 1) = A) := HST.out.trans (if_neg (fun h => by rw [hs] at h; exact absurd h.2 (by decide)))
        have hF2 : Hid (fineC l S M (k + 1)) := HFS.out (fun _ h => absurd h (by rw [hs]; decide))
        have HQ := Lib.hid (HHA.out true ⟨fun _ => HIFF.out.2 hs, fun _ => rfl⟩)
        clear hs hmax
        go_wp2_with fail
        ((with_reducible refine (HQ.out _ (HSA.out.below (by repeat (first | exact Below.refl _ _ | with_reducible apply below_drewN | with_reducible apply Below.drew | with_reducible refine Below.alloc ?_ (by simp) _)))).mono ?_); rintro e' w3 ⟨rfl, bb⟩)
        have bw : Below wr.heap.size wr w3 := ((Below.refl _ _).alloc (Nat.le_refl _) _).trans (bb.mono (by simp))
        clear bb
        go_wp2_with fail
        go_roundw
        case rel => exact ⟨k + 1, by congr 1, by omega, by rw [hE.out]; exact HV.out.below bw, hF2.out, RowIs.below rA lA bw, HBEL.out.trans (bw.mono HBEL.out.size)⟩
        case measure => simp only [intOf]; omega
      have hE : Hid (allC l (k + 1) = addS A d.pn d.pn) := HST.out.trans (if_pos ⟨hmax, hs⟩)
      have HQ := Lib.hid (HHA.out false ⟨fun h => (by cases h), fun h => (by rw [HIFF.out.1 h] at hs; cases hs)⟩)
      have HSN := Lib.hid hs
      have HMX := Lib.hid hmax
      clear hs hmax
      go_wp2_with fail
      ((with_reducible refine (HQ.out _ (HSA.out.below (by repeat (first | exact Below.refl _ _ | with_reducible apply below_drewN | with_reducible apply Below.drew | with_reducible refine Below.alloc ?_ (by simp) _)))).mono ?_); rintro e' w3 ⟨rfl, bb⟩)
      have bw : Below wr.heap.size wr w3 := ((Below.refl _ _).alloc (Nat.le_refl _) _).trans (bb.mono (by simp))
      have rD : RowIs w3 wr.heap.size 82 #[.int .u64 d.pn, .int .u64 d.least, .int .u64 d.off, .int .u64 d.x, .int .i64 d.ecn, .slice d.a d.L d.c] := RowIs.below (RowIs.mk (heap_alloc_new wr _)) (by simp) bb
      have rA3 := RowIs.below rA lA bw
      have HV3 := Lib.hid (HV.out.below bw)
      have HB3 := Lib.hid (HBEL.out.trans (bw.mono HBEL.out.size))
      clear bb bw rA HV HBEL HSA HHA q0 q1 q2 q3 q4 q5 hg2
      have d0 := rD.cell 0
      have d4 := rD.cell 4
      simp at d0 d4
      have lD := rD.lt
      go_wp2_with fail
      ((with_reducible refine (spAdd (.slice xa A.length ca) A d.pn d.pn HGA.out (by omega) HP0.out (Int.le_refl _) HMX.out _ HV3.out).mono ?_); rintro e' w4 ⟨v4, rfl, b4, own4⟩)
      have HV4 := Lib.hid (RowV.ofOwn own4)
      have rA4 := RowIs.below rA3 rA3.lt b4
      have rD4 := RowIs.below rD rD.lt b4
      have HB4 := Lib.hid (HB3.out.trans (b4.mono HB3.out.size))
      clear own4 b4 rA3 rD HV3 HB3 d0 d4 lD lA
      have d0 := rD4.cell 0
      have d4 := rD4.cell 4
      simp at d0 d4
      have a0 := rA4.cell 0
      have a1 := rA4.cell 1
      simp at a0 a1
      have lD := rD4.lt
      have lA := rA4.lt
      by_cases he : d.ecn = 3
      case neg =>
        have hF2 : Hid (fineC l S M (k + 1)) := HFS.out (fun _ _ h => he h.1)
        have he1 : (d.ecn == 3) = false := by rw [beq_eq_false_iff_ne]; exact he
        clear he
        go_wp2_with fail
        go_roundw
        case rel => exact ⟨k + 1, by congr 1, by omega, by rw [hE.out]; exact HV4.out, hF2.out, rA4, HB4.out⟩
        case measure => simp only [intOf]; omega
      have he1 : (d.ecn == 3) = true := by rw [he]; rfl
      have HE3 := Lib.hid he
      clear he
      by_cases hhS : hasP S d.pn
      case neg =>
        have hF2 : Hid (fineC l S M (k + 1)) := HFS.out (fun _ _ h => hhS h.2.1)
        have HQS := Lib.hid (HHS.out d.pn false ⟨fun h => (by cases h), fun h => absurd h hhS⟩)
        clear hhS
        go_wp2_with fail
        ((with_reducible refine (HQS.out _ (HSS.out.below HB4.out)).mono ?_); rintro e' w5 ⟨rfl, b5⟩)
        go_wp2_with fail
        go_roundw
        case rel => exact ⟨k + 1, by congr 1, by omega, by rw [hE.out]; exact HV4.out.below b5, hF2.out, RowIs.below rA4 lA b5, HB4.out.trans (b5.mono HB4.out.size)⟩
        case measure => simp only [intOf]; omega
      have HQS := Lib.hid (HHS.out d.pn true ⟨fun _ => hhS, fun _ => rfl⟩)
      have HHIN := Lib.hid hhS
      clear hhS
      by_cases hhM : hasP M d.pn
      case pos =>
        have hF2 : Hid (fineC l S M (k + 1)) := HFS.out (fun _ _ h => h.2.2 hhM)
        have HQM := Lib.hid (HHM.out d.pn true ⟨fun _ => hhM, fun _ => rfl⟩)
        clear hhM
        go_wp2_with fail
        ((with_reducible refine (HQS.out _ (HSS.out.below HB4.out)).mono ?_); rintro e' w5 ⟨rfl, b5⟩)
        have rA5 := RowIs.below rA4 lA b5
        have rD5 := RowIs.below rD4 lD b5
        have HB5 := Lib.hid (HB4.out.trans (b5.mono HB4.out.size))
        have HV5 := Lib.hid (HV4.out.below b5)
        clear b5 rA4 rD4 HB4 HV4 d0 d4 a0 a1 lD lA
        have d0 := rD5.cell 0
        have d4 := rD5.cell 4
        simp at d0 d4
        have a0 := rA5.cell 0
        have a1 := rA5.cell 1
        simp at a0 a1
        go_wp2_with fail
        ((with_reducible refine (HQM.out _ (HSM.out.below HB5.out)).mono ?_); rintro e' w6 ⟨rfl, b6⟩)
        go_wp2_with fail
        go_roundw
        case rel => exact ⟨k + 1, by congr 1, by omega, by rw [hE.out]; exact HV5.out.below b6, hF2.out, RowIs.below rA5 rA5.lt b6, HB5.out.trans (b6.mono HB5.out.size)⟩
        case measure => simp only [intOf]; omega
      have HQM := Lib.hid (HHM.out d.pn false ⟨fun h => (by cases h), fun h => absurd h hhM⟩)
      have FB : Hid (B = false) := by
        show B = false
        cases hb : B
        · rfl
        · exact absurd (show badC S M d from ⟨HE3.out, HHIN.out, hhM⟩) (by have h := (HB.out.1 hb).2.1 k hlt; rw [HD.out] at h; exact h HMX.out HSN.out)
      clear hhM
      go_wp2_with fail
      ((with_reducible refine (HQS.out _ (HSS.out.below HB4.out)).mono ?_); rintro e' w5 ⟨rfl, b5⟩)
      have rA5 := RowIs.below rA4 lA b5
      have rD5 := RowIs.below rD4 lD b5
      have HB5 := Lib.hid (HB4.out.trans (b5.mono HB4.out.size))
      clear b5 rA4 rD4 HB4 HV4 d0 d4 a0 a1 lD lA
      have d0 := rD5.cell 0
      have d4 := rD5.cell 4
      simp at d0 d4
      have a0 := rA5.cell 0
      have a1 := rA5.cell 1
      simp at a0 a1
      go_wp2_with fail
      ((with_reducible refine (HQM.out _ (HSM.out.below HB5.out)).mono ?_); rintro e' w6 ⟨rfl, b6⟩)
      go_wp2_with fail
      go_ret
      exact ⟨ret_bool FB.out.symm, HB5.out.trans (b6.mono HB5.out.size)⟩
    · have hdd : decide ((k : Int) < (l.length : Int)) = false := by rw [decide_eq_false_iff_not]; omega
      have e : k = l.length := by omega
      obtain ⟨xa, ca, rfl, hSA⟩ := RowV.slice HV.out
      have HQ : Hid (B = true ↔ withinAll S (allC l k)) := by
        show B = true ↔ _
        rw [HB.out]
        constructor
        · intro h
          rw [e]
          exact h.2.2
        · intro h
          rw [e] at h
          exact ⟨HMAY.out, fun j hj => HFI.out j (by omega), h⟩
      have HWW := Lib.hid (HWI.out (allC l k) xa ca hAw (by omega) B HQ.out wr (HSS.out.below HBEL.out) hSA)
      have a0 := rA.cell 0
      have a1 := rA.cell 1
      simp at a0 a1
      clear e hSA hAw hAall hHA hgA
      go_wp2_with fail
      ((with_reducible refine HWW.out.mono ?_); rintro e' w6 ⟨rfl, b6⟩)
      go_wp2_with fail
      go_ret
      exact ⟨rfl, HBEL.out.trans (b6.mono HBEL.out.size)⟩

end Go.Proofs.Ytikkmdbaekdolaa

/- the reference's Honest, of any packets that came and any acknowledgment. -/
namespace Go.Proofs.Ytikkmdbaekdolaa
open Go.RowKit Go.Lib
set_option linter.unusedVariables false
set_option maxRecDepth 100000

/-- a packet of that number came, and if it is marked the acknowledgment tells so -/
def numOk (l : List DatP) (M : List (Int × Int)) (q : Int) : Prop := seenB l l.length q = true ∧ ¬ ((firstD l l.length q).ecn = 3 ∧ ¬ hasP M q)
def spanOk (l : List DatP) (M : List (Int × Int)) (s : Int × Int) : Prop := s.2 - s.1 < l.length ∧ ∀ q, s.1 ≤ q → q ≤ s.2 → numOk l M q
theorem honR_of (l : List DatP) (S M : List (Int × Int)) : honR l S M ↔ mayRows S M ∧ ∀ i, i < S.length → spanOk l M (S.getD i (0, 0)) := Iff.rfl

set_option maxHeartbeats 4000000 in
theorem rHonNo (x : Option Addr) (cc : Nat) (l : List DatP) (hf : CFit l) (hl : l.length ≤ 100000) (xs xm : Option Addr) (cs cm : Nat) (S M : List (Int × Int)) (hwS : ∀ s ∈ S, W64 s.1 ∧ W64 s.2) (hwM : ∀ s ∈ M, W64 s.1 ∧ W64 s.2) (hlS : S.length ≤ 1000000) (hlM : M.length ≤ 1000000) (t r : Int) (p : Bool) (w : World)
    (hC : CRow w x l) (hS : SRow w xs S) (hM : SRow w xm M) (hmay : ¬ mayRows S M) :
    Calls Try.prog 41 #[.slice x l.length cc, .agg #[.slice xs S.length cs, .slice xm M.length cm, .int .u64 t, .int .u64 r, .bool p]] w fun e w' => e = .returned (.bool false) ∧ Below w.heap.size w w' := by
  have HMAYC := Lib.hid (fun W (h1 : SRow W xs S) (h2 : SRow W xm M) => rMayAck xs xm cs cm S M hwS hwM (by omega) (by omega) t r p false ⟨fun h => (by cases h), fun h => absurd h hmay⟩ W h1 h2)
  have HSS := Lib.hid hS
  have HSM := Lib.hid hM
  clear hS hM hC hwS hwM hmay hf
  have hlI : (l.length : Int) ≤ 100000 := by omega
  go_enter Try.func41, Try.ntmps41
  go_wp2_with fail
  ((with_reducible refine (HMAYC.out _ (HSS.out.below ((Below.refl _ _).alloc (Nat.le_refl _) _)) (HSM.out.below ((Below.refl _ _).alloc (Nat.le_refl _) _))).mono ?_); rintro e' w1 ⟨rfl, b1⟩)
  have B1 : Below w.heap.size w w1 := ((Below.refl _ _).alloc (Nat.le_refl _) _).trans (b1.mono (by simp))
  clear b1
  go_wp2_with fail
  go_ret
  exact ⟨rfl, B1⟩

set_option maxHeartbeats 16000000 in
set_option maxRecDepth 100000 in
theorem rHonYes (x : Option Addr) (cc : Nat) (l : List DatP) (hf : CFit l) (hl : l.length ≤ 100000) (xs xm : Option Addr) (cs cm : Nat) (S M : List (Int × Int)) (hwS : ∀ s ∈ S, W64 s.1 ∧ W64 s.2) (hwM : ∀ s ∈ M, W64 s.1 ∧ W64 s.2) (hlS : S.length ≤ 1000000) (hlM : M.length ≤ 1000000) (t r : Int) (p : Bool) (w : World)
    (hC : CRow w x l) (hS : SRow w xs S) (hM : SRow w xm M) (hmay : mayRows S M) (B : Bool) (hB : B = true ↔ honR l S M) :
    Calls Try.prog 41 #[.slice x l.length cc, .agg #[.slice xs S.length cs, .slice xm M.length cm, .int .u64 t, .int .u64 r, .bool p]] w fun e w' => e = .returned (.bool B) ∧ Below w.heap.size w w' := by
  have HMAYC := Lib.hid (fun W (h1 : SRow W xs S) (h2 : SRow W xm M) => rMayAck xs xm cs cm S M hwS hwM (by omega) (by omega) t r p true ⟨fun _ => hmay, fun _ => rfl⟩ W h1 h2)
  have HHM := Lib.hid (fun (q : Int) (Bq : Bool) (hq : Bq = true ↔ hasP M q) W (h : SRow W xm M) => rHasNum xm cm M hlM q Bq hq W h)
  have HSS := Lib.hid hS
  have HSM := Lib.hid hM
  have HCC := Lib.hid hC
  have HMAY := Lib.hid hmay
  have HB := Lib.hid hB
  have HGS := Lib.hid (fun i (hi : i < S.length) => (hmay.2.2.2.1 i hi).1)
  have HWS := Lib.hid hwS
  have hn32 : S.length ≤ 32 := hmay.2.1
  clear hS hM hC hwS hwM hmay hf hB
  have hlI : (l.length : Int) ≤ 100000 := by omega
  have hwl : IntKind.u64.wrap (l.length : Int) = (l.length : Int) := by rw [IntKind.wrap_u64]; omega
  obtain ⟨n, hn⟩ : ∃ n, S.length = n := ⟨_, rfl⟩
  have HN := Lib.hid hn
  rw [hn] at hlS hn32 HMAYC ⊢
  clear hn
  have hnI : (n : Int) ≤ 32 := by omega
  go_enter Try.func41, Try.ntmps41
  go_wp2_with fail
  ((with_reducible refine (HMAYC.out _ (HSS.out.below ((Below.refl _ _).alloc (Nat.le_refl _) _)) (HSM.out.below ((Below.refl _ _).alloc (Nat.le_refl _) _))).mono ?_); rintro e' w1 ⟨rfl, b1⟩)
  have B1 : Below w.heap.size w w1 := ((Below.refl _ _).alloc (Nat.le_refl _) _).trans (b1.mono (by simp))
  have rA : RowIs w1 w.heap.size 74 #[.slice xs n cs, .slice xm M.length cm, .int .u64 t, .int .u64 r, .bool p] := RowIs.below (RowIs.mk (heap_alloc_new w _)) (by simp) b1
  clear b1 HMAYC
  go_wp2_with fail
  go_loopw [5] (fun i wr => ∃ k : Nat, i = .int .i64 (k : Int) ∧ k ≤ n ∧ (∀ j, j < k → spanOk l M (S.getD j (0, 0))) ∧ RowIs wr w.heap.size 74 #[.slice xs n cs, .slice xm M.length cm, .int .u64 t, .int .u64 r, .bool p] ∧ Below w.heap.size w wr) (fun i _ => (n - intOf i).toNat)
  case atStart => exact ⟨0, by first | rfl | simp, by omega, fun j hj => absurd hj (by omega), rA, B1⟩
  case round =>
    clear rA B1
    obtain ⟨k, rfl, hk, hfine, rA, hbel⟩ := hrel
    have HFI := Lib.hid hfine
    have HBEL := Lib.hid hbel
    clear hfine hbel
    have lA := rA.lt
    by_cases hlt : k < n
    · have hltI : (k : Int) < (n : Int) := by omega
      obtain ⟨gs, os, rfl, hgs, c0, c1⟩ := (HSS.out.below HBEL.out).at k (by rw [HN.out]; exact hlt)
      have a0 := rA.cell 0
      have a1 := rA.cell 1
      simp at a0 a1
      have hr := HGS.out k (by rw [HN.out]; exact hlt)
      have hlo0 : 0 ≤ (S.getD k (0, 0)).1 := (HWS.out _ (by rw [List.getD_eq_getElem?_getD, List.getElem?_eq_getElem (by rw [HN.out]; exact hlt)]; exact List.getElem_mem _)).1.1
      have HSP := Lib.hid (fun (h : spanOk l M (S.getD k (0, 0))) => (fun j hj => by
        rcases (by omega : j < k ∨ j = k) with h3 | rfl
        · exact HFI.out j h3
        · exact h : ∀ j, j < k + 1 → spanOk l M (S.getD j (0, 0))))
      have HNO := Lib.hid (fun (h : ¬ spanOk l M (S.getD k (0, 0))) => (by
        show B = false
        cases hb : B
        · rfl
        · exact absurd ((HB.out.1 hb).2 k (by rw [HN.out]; exact hlt)) h : B = false))
      generalize hs : S.getD k (0, 0) = s at *
      obtain ⟨lo, hi⟩ := s
      have hr1 : lo ≤ hi := hr.1
      have hr2 : hi ≤ 4611686018427387903 := hr.2
      have hlo0 : 0 ≤ lo := hlo0
      simp only at c0 c1
      clear hs hr HFI
      have hw1 : IntKind.u64.wrap (hi - lo) = hi - lo := by rw [IntKind.wrap_u64]; omega
      by_cases hlen : hi - lo < (l.length : Int)
      case neg =>
        have FB : Hid (B = false) := HNO.out (fun h => hlen h.1)
        have hd : decide ((l.length : Int) ≤ hi - lo) = true := decide_eq_true (by omega)
        clear HNO HSP hlen
        go_wp2_with fail
        go_quiet (fail)
        go_wp2_with fail
        go_ret
        exact ⟨ret_bool FB.out.symm, below_drewN HBEL.out _⟩
      have hd : decide ((l.length : Int) ≤ hi - lo) = false := decide_eq_false (by omega)
      go_wp2_with fail
      go_quiet (fail)
      have bd := belDrewN wr nq
      obtain ⟨g, o, rfl, hCA⟩ := CRow.at HCC.out 0 (by omega)
      have HCA := Lib.hid (hCA.below HBEL.out)
      obtain ⟨w2, hw2⟩ : ∃ w2, w2 = wr.drewN nq := ⟨_, rfl⟩
      rw [← hw2] at bd ⊢
      have rA2 := rA.below lA bd
      have HB2 := Lib.hid (HBEL.out.trans (bd.mono HBEL.out.size))
      have HCA2 := Lib.hid (HCA.out.below bd)
      have e0 : w2.cell? ⟨gs, os + k * 2, none⟩ = some (.int .u64 lo) := (bd.cell hgs).trans c0
      have e1 : w2.cell? ⟨gs, os + k * 2 + 1, none⟩ = some (.int .u64 hi) := (bd.cell hgs).trans c1
      have hgs2 : gs < w2.heap.size := Nat.lt_of_lt_of_le hgs bd.size
      have HSM2 := Lib.hid (HSM.out.below HB2.out)
      clear rA HBEL a0 a1 c0 c1 lA bd hw2 HCA hCA hgs
      have a0 := rA2.cell 0
      have a1 := rA2.cell 1
      simp at a0 a1
      go_wp2_with fail
      go_loopw [6] (fun i wi => ∃ q : Int, i = .int .u64 q ∧ lo ≤ q ∧ q ≤ hi + 1 ∧ (∀ q', lo ≤ q' → q' < q → numOk l M q') ∧ Below w2.heap.size w2 wi) (fun i _ => (hi + 1 - intOf i).toNat)
      case atStart => exact ⟨lo, by first | rfl | simp, by omega, by omega, fun q' h1 h2 => absurd h2 (by omega), Below.refl _ _⟩
      case round =>
        clear a0 a1
        obtain ⟨q, rfl, hq1, hq2, hno, hbel⟩ := hrel
        have HQN := Lib.hid hno
        have HBL := Lib.hid hbel
        have rA := rA2.below rA2.lt hbel
        have c0 : wr.cell? ⟨gs, os + k * 2, none⟩ = some (.int .u64 lo) := (hbel.cell hgs2).trans e0
        have c1 : wr.cell? ⟨gs, os + k * 2 + 1, none⟩ = some (.int .u64 hi) := (hbel.cell hgs2).trans e1
        have hs2 := hbel.size
        clear hno hbel
        have a0 := rA.cell 0
        have a1 := rA.cell 1
        simp at a0 a1
        by_cases hq : q ≤ hi
        case neg =>
          have hd1 : decide (q ≤ hi) = false := decide_eq_false hq
          have HR := Lib.hid (HSP.out ⟨hlen, fun q' h1 h2 => HQN.out q' h1 (by omega)⟩)
          clear hq
          go_wp2_with fail
          go_roundw
          case rel => exact ⟨k + 1, by congr 1, by omega, HR.out, rA, HB2.out.trans (HBL.out.mono HB2.out.size)⟩
          case measure => simp only [intOf]; omega
        have hd1 : decide (q ≤ hi) = true := decide_eq_true hq
        have hwq : IntKind.u64.wrap (q + 1) = q + 1 := by rw [IntKind.wrap_u64]; omega
        have HQS := Lib.hid (fun (h : numOk l M q) => (fun q' h1 h2 => by
          rcases (by omega : q' < q ∨ q' = q) with h3 | rfl
          · exact HQN.out q' h1 h3
          · exact h : ∀ q', lo ≤ q' → q' < q + 1 → numOk l M q'))
        have HQB := Lib.hid (fun (h : ¬ numOk l M q) => HNO.out (fun h2 => h (h2.2 q hq1 hq)))
        clear HQN
        obtain ⟨bs, hbs⟩ : ∃ bs, seenB l l.length q = bs := ⟨_, rfl⟩
        obtain ⟨d, hd0⟩ : ∃ d, firstD l l.length q = d := ⟨_, rfl⟩
        have HBS := Lib.hid hbs
        have HD := Lib.hid hd0
        clear hbs hd0
        have CFI := Lib.hid (fun W (h : CameAt W g o l) => qFirstSome g o cc l.length l (by omega) (Nat.le_refl _) q W h bs d HBS.out HD.out)
        go_wp2_with fail
        ((with_reducible refine (CFI.out _ (HCA2.out.below HBL.out)).mono ?_); rintro e' w3 ⟨rfl, g3⟩)
        have b3 := g3.below
        have rA3 := rA.below rA.lt b3
        have HB3 := Lib.hid (HBL.out.trans (b3.mono HBL.out.size))
        clear CFI g3 b3 rA a0 a1 c0 c1 HBL
        have lA3 := rA3.lt
        have a0 := rA3.cell 0
        have a1 := rA3.cell 1
        simp at a0 a1
        cases bs
        case false =>
          have FB := Lib.hid (HQB.out (fun h => by have h1 := h.1; rw [HBS.out] at h1; cases h1))
          go_wp2_with fail
          go_ret
          exact ⟨ret_bool FB.out.symm, HB2.out.trans ((show Below w2.heap.size w2 _ from by repeat (first | with_reducible exact HB3.out | with_reducible apply below_drewN | with_reducible apply Below.drew | with_reducible refine Below.alloc ?_ (by have := HB3.out.size; first | exact this | (simp; omega)) _ | with_reducible refine Below.setCell ?_ (by have := HB3.out.size; first | exact this | (simp; omega)) _)).mono HB2.out.size)⟩
        by_cases he : d.ecn = 3
        case neg =>
          have HR := Lib.hid (HQS.out ⟨HBS.out, fun h => he (by rw [← HD.out]; exact h.1)⟩)
          have he1 : (d.ecn == 3) = false := by rw [beq_eq_false_iff_ne]; exact he
          clear he
          go_wp2_with fail
          go_roundw
          case rel => exact ⟨q + 1, by congr 1, by omega, by omega, HR.out, by repeat (first | with_reducible exact HB3.out | with_reducible apply below_drewN | with_reducible apply Below.drew | with_reducible refine Below.alloc ?_ (by have := HB3.out.size; first | exact this | (simp; omega)) _ | with_reducible refine Below.setCell ?_ (by have := HB3.out.size; first | exact this | (simp; omega)) _)⟩
          case measure => simp only [intOf]; omega
        have he1 : (d.ecn == 3) = true := by rw [he]; rfl
        by_cases hM : hasP M q
        · have HR := Lib.hid (HQS.out ⟨HBS.out, fun h => h.2 hM⟩)
          have HQM := Lib.hid (HHM.out q true ⟨fun _ => hM, fun _ => rfl⟩)
          clear he hM
          go_wp2_with fail
          ((with_reducible refine (HQM.out _ (HSM2.out.below (by repeat (first | with_reducible exact HB3.out | with_reducible apply below_drewN | with_reducible apply Below.drew | with_reducible refine Below.alloc ?_ (by have := HB3.out.size; first | exact this | (simp; omega)) _ | with_reducible refine Below.setCell ?_ (by have := HB3.out.size; first | exact this | (simp; omega)) _)))).mono ?_); rintro e' w5 ⟨rfl, b5⟩)
          have HB5 := Lib.hid ((show Below w2.heap.size w2 _ from by repeat (first | with_reducible exact HB3.out | with_reducible apply below_drewN | with_reducible apply Below.drew | with_reducible refine Below.alloc ?_ (by have := HB3.out.size; first | exact this | (simp; omega)) _ | with_reducible refine Below.setCell ?_ (by have := HB3.out.size; first | exact this | (simp; omega)) _)).trans (b5.mono (by have := HB3.out.size; simp; omega)))
          go_wp2_with fail
          go_roundw
          case rel => exact ⟨q + 1, by congr 1, by omega, by omega, HR.out, HB5.out⟩
          case measure => simp only [intOf]; omega
        · have FB := Lib.hid (HQB.out (fun h => h.2 ⟨by rw [HD.out]; exact he, hM⟩))
          have HQM := Lib.hid (HHM.out q false ⟨fun h => (by cases h), fun h => absurd h hM⟩)
          clear he hM
          go_wp2_with fail
          ((with_reducible refine (HQM.out _ (HSM2.out.below (by repeat (first | with_reducible exact HB3.out | with_reducible apply below_drewN | with_reducible apply Below.drew | with_reducible refine Below.alloc ?_ (by have := HB3.out.size; first | exact this | (simp; omega)) _ | with_reducible refine Below.setCell ?_ (by have := HB3.out.size; first | exact this | (simp; omega)) _)))).mono ?_); rintro e' w5 ⟨rfl, b5⟩)
          have HB5 := Lib.hid ((show Below w2.heap.size w2 _ from by repeat (first | with_reducible exact HB3.out | with_reducible apply below_drewN | with_reducible apply Below.drew | with_reducible refine Below.alloc ?_ (by have := HB3.out.size; first | exact this | (simp; omega)) _ | with_reducible refine Below.setCell ?_ (by have := HB3.out.size; first | exact this | (simp; omega)) _)).trans (b5.mono (by have := HB3.out.size; simp; omega)))
          go_wp2_with fail
          go_ret
          exact ⟨ret_bool FB.out.symm, HB2.out.trans (HB5.out.mono HB2.out.size)⟩
    · have hdd : decide ((k : Int) < (n : Int)) = false := by rw [decide_eq_false_iff_not]; omega
      have e : k = n := by omega
      have TB : Hid (B = true) := HB.out.2 ⟨HMAY.out, fun i hi => HFI.out i (by rw [HN.out] at hi; omega)⟩
      have a0 := rA.cell 0
      have a1 := rA.cell 1
      simp at a0 a1
      clear e
      go_wp2_with fail
      go_ret
      exact ⟨ret_bool TB.out.symm, HBEL.out⟩

end Go.Proofs.Ytikkmdbaekdolaa

/- Honest, of any packets and any acknowledgment: the program's and the reference's, one contract each; both agree. -/
namespace Go.Proofs.Ytikkmdbaekdolaa
open Go.RowKit Go.Lib
set_option linter.unusedVariables false
set_option maxRecDepth 100000

theorem honP_nil (S M : List (Int × Int)) : ¬ honP [] S M := fun h => by
  have hm := h.1
  obtain ⟨_, _, hin⟩ := h.2.2
  obtain ⟨j, hj, _⟩ := hin 0 hm.1
  simp [allC] at hj

set_option maxHeartbeats 4000000 in
theorem jHon0 (x : Option Addr) (cc : Nat) (xs xm : Option Addr) (cs cm : Nat) (S M : List (Int × Int)) (hwS : ∀ s ∈ S, W64 s.1 ∧ W64 s.2) (hwM : ∀ s ∈ M, W64 s.1 ∧ W64 s.2) (hlS : S.length ≤ 1000000) (hlM : M.length ≤ 1000000) (t r : Int) (p : Bool) (w : World)
    (hS : SRow w xs S) (hM : SRow w xm M) (hmay : mayRows S M) :
    Calls Try.prog 40 #[.slice x 0 cc, .agg #[.slice xs S.length cs, .slice xm M.length cm, .int .u64 t, .int .u64 r, .bool p]] w fun e w' => e = .returned (.bool false) ∧ Below w.heap.size w w' := by
  have HMAYC := Lib.hid (fun W (h1 : SRow W xs S) (h2 : SRow W xm M) => aMay xs xm cs cm S M hwS hwM (by omega) (by omega) t r p true ⟨fun _ => hmay, fun _ => rfl⟩ W h1 h2)
  have hno : ¬ withinAll S [] := fun h => honP_nil S M ⟨hmay, fun j hj => absurd hj (by simp), h⟩
  have HWI : Hid (∀ W, SRow W xs S → Calls Try.prog 79 #[.slice xs S.length cs, .slice none 0 0] W fun e w' => e = .returned (.bool false) ∧ Below W.heap.size W w') := fun W h1 => sWithin xs none cs 0 S [] hwS (fun s hs => absurd hs (by simp)) (by omega) (by simp) false ⟨fun h => (by cases h), fun h => absurd h hno⟩ W h1 (.inl rfl)
  have HSS := Lib.hid hS
  have HSM := Lib.hid hM
  clear hS hM hwS hwM hmay hno
  go_enter Try.func40, Try.ntmps40
  go_wp2_with fail
  ((with_reducible refine (HMAYC.out _ (HSS.out.below ((Below.refl _ _).alloc (Nat.le_refl _) _)) (HSM.out.below ((Below.refl _ _).alloc (Nat.le_refl _) _))).mono ?_); rintro e' w1 ⟨rfl, b1⟩)
  have B1 : Below w.heap.size w w1 := ((Below.refl _ _).alloc (Nat.le_refl _) _).trans (b1.mono (by simp))
  have rA : RowIs w1 w.heap.size 74 #[.slice xs S.length cs, .slice xm M.length cm, .int .u64 t, .int .u64 r, .bool p] := RowIs.below (RowIs.mk (heap_alloc_new w _)) (by simp) b1
  have a0 := rA.cell 0
  have a1 := rA.cell 1
  simp at a0 a1
  clear b1 HMAYC
  go_wp2_with fail
  refine wp_loop_rounds 1 ?_; rw [rounds_succ]
  go_wp2_with fail
  ((with_reducible refine (HWI.out _ (HSS.out.below B1)).mono ?_); rintro e' w6 ⟨rfl, b6⟩)
  go_wp2_with fail
  go_ret
  exact ⟨rfl, B1.trans (b6.mono B1.size)⟩

theorem jHon (x : Option Addr) (cc : Nat) (l : List DatP) (hf : CFit l) (hl : l.length ≤ 100000) (xs xm : Option Addr) (cs cm : Nat) (S M : List (Int × Int)) (hwS : ∀ s ∈ S, W64 s.1 ∧ W64 s.2) (hwM : ∀ s ∈ M, W64 s.1 ∧ W64 s.2) (hlS : S.length ≤ 1000000) (hlM : M.length ≤ 1000000) (t r : Int) (p : Bool) (w : World)
    (hC : CRow w x l) (hS : SRow w xs S) (hM : SRow w xm M) (B : Bool) (hB : B = true ↔ honP l S M) :
    Calls Try.prog 40 #[.slice x l.length cc, .agg #[.slice xs S.length cs, .slice xm M.length cm, .int .u64 t, .int .u64 r, .bool p]] w fun e w' => e = .returned (.bool B) ∧ Below w.heap.size w w' := by
  by_cases hmay : mayRows S M
  · rcases hC with rfl | ⟨g, o, rfl, hC⟩
    · have hb : B = false := by
        cases B
        · rfl
        · exact absurd (hB.1 rfl) (honP_nil S M)
      subst hb
      exact jHon0 x cc xs xm cs cm S M hwS hwM hlS hlM t r p w hS hM hmay
    · exact jHonSome g o cc l hf hl xs xm cs cm S M hwS hwM hlS hlM t r p w hC hS hM hmay B hB
  · have hb : B = false := by
      cases B
      · rfl
      · exact absurd (hB.1 rfl).1 hmay
    subst hb
    exact jHonNo x cc l hf hl xs xm cs cm S M hwS hwM hlS hlM t r p w hC hS hM hmay

theorem rHon (x : Option Addr) (cc : Nat) (l : List DatP) (hf : CFit l) (hl : l.length ≤ 100000) (xs xm : Option Addr) (cs cm : Nat) (S M : List (Int × Int)) (hwS : ∀ s ∈ S, W64 s.1 ∧ W64 s.2) (hwM : ∀ s ∈ M, W64 s.1 ∧ W64 s.2) (hlS : S.length ≤ 1000000) (hlM : M.length ≤ 1000000) (t r : Int) (p : Bool) (w : World)
    (hC : CRow w x l) (hS : SRow w xs S) (hM : SRow w xm M) (B : Bool) (hB : B = true ↔ honP l S M) :
    Calls Try.prog 41 #[.slice x l.length cc, .agg #[.slice xs S.length cs, .slice xm M.length cm, .int .u64 t, .int .u64 r, .bool p]] w fun e w' => e = .returned (.bool B) ∧ Below w.heap.size w w' := by
  by_cases hmay : mayRows S M
  · exact rHonYes x cc l hf hl xs xm cs cm S M hwS hwM hlS hlM t r p w hC hS hM hmay B (hB.trans (hon_same l S M hf))
  · have hb : B = false := by
      cases B
      · rfl
      · exact absurd (hB.1 rfl).1 hmay
    subst hb
    exact rHonNo x cc l hf hl xs xm cs cm S M hwS hwM hlS hlM t r p w hC hS hM hmay

end Go.Proofs.Ytikkmdbaekdolaa

