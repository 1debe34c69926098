/- the plain law of rows: adding a span; the last ones. -/
import Derived.Test.YtofggpmllfhgaaaAckPlain
namespace Go.Proofs.Ytofggpmllfhgaaa
open Go.RowKit Go.Lib
set_option linter.unusedVariables false
set_option maxRecDepth 100000

def absorbS : List (Int × Int) → Int → Int → List (Int × Int)
  | [], a, b => [(a, b)]
  | (lo, hi) :: l, a, b => if lo ≤ b + 1 then absorbS l (min a lo) (max b hi) else (a, b) :: (lo, hi) :: l
def addS : List (Int × Int) → Int → Int → List (Int × Int)
  | [], a, b => [(a, b)]
  | (lo, hi) :: l, a, b => if hi + 1 < a then (lo, hi) :: addS l a b else absorbS ((lo, hi) :: l) a b
def lastS (l : List (Int × Int)) : List (Int × Int) := l.drop (l.length - 32)

theorem absorbS_good : ∀ (l : List (Int × Int)) (a b low low' : Int), GoodL low' l → low ≤ low' → low ≤ a → a ≤ b → b ≤ 4611686018427387903 → GoodL low (absorbS l a b)
  | [], a, b, low, low', _, _, h1, h2, h3 => ⟨h1, h2, h3, trivial⟩
  | (lo, hi) :: l, a, b, low, low', ⟨g1, g2, g3, g4⟩, h0, h1, h2, h3 => by
    rw [absorbS]
    split
    · exact absorbS_good l _ _ low (hi + 2) g4 (by omega) (by omega) (by omega) (by omega)
    · exact ⟨h1, h2, h3, by omega, g2, g3, g4⟩
theorem addS_good : ∀ (l : List (Int × Int)) (a b low : Int), GoodL low l → low ≤ a → a ≤ b → b ≤ 4611686018427387903 → GoodL low (addS l a b)
  | [], a, b, low, _, h1, h2, h3 => ⟨h1, h2, h3, trivial⟩
  | (lo, hi) :: l, a, b, low, ⟨g1, g2, g3, g4⟩, h1, h2, h3 => by
    rw [addS]
    split
    · exact ⟨g1, g2, g3, addS_good l a b (hi + 2) g4 (by omega) h2 h3⟩
    · exact absorbS_good _ a b low low ⟨g1, g2, g3, g4⟩ (by omega) h1 h2 h3

theorem absorbS_len : ∀ (l : List (Int × Int)) (a b : Int), 1 ≤ (absorbS l a b).length ∧ (absorbS l a b).length ≤ l.length + 1
  | [], a, b => by simp [absorbS]
  | (lo, hi) :: l, a, b => by
    have ih := absorbS_len l (min a lo) (max b hi)
    rw [absorbS]
    split
    · simp only [List.length_cons]; omega
    · simp
theorem addS_len : ∀ (l : List (Int × Int)) (a b : Int), 1 ≤ (addS l a b).length ∧ (addS l a b).length ≤ l.length + 1
  | [], a, b => by simp [addS]
  | (lo, hi) :: l, a, b => by
    have ih := addS_len l a b
    have ia := absorbS_len ((lo, hi) :: l) a b
    rw [addS]
    split
    · simp only [List.length_cons]; omega
    · exact ia

/-- inside one span of a row -/
def InR (R : List (Int × Int)) (a b : Int) : Prop := insideAt R (a, b)
theorem InR.meet {R : List (Int × Int)} (hR : goodAll R) {a b c d : Int} (h : InR R a b) (k : InR R c d) (h1 : a ≤ b) (h2 : c ≤ d) (h3 : c ≤ b + 1) (h4 : a ≤ d + 1) : InR R (min a c) (max b d) := by
  obtain ⟨i, hi, p1, p2⟩ := h
  obtain ⟨j, hj, q1, q2⟩ := k
  simp only at p1 p2 q1 q2
  rcases Nat.lt_trichotomy i j with e | e | e
  · have := goodAll_lt hR i j e hj
    omega
  · subst e
    exact ⟨i, hi, by simp only; omega, by simp only; omega⟩
  · have := goodAll_lt hR j i e hi
    omega

theorem absorbS_in (R : List (Int × Int)) (hR : goodAll R) : ∀ (l : List (Int × Int)) (a b low' : Int), GoodL low' l → (∀ s ∈ l, InR R s.1 s.2) → InR R a b → a ≤ b → (∀ s ∈ l, a ≤ s.2 + 1) → ∀ s ∈ absorbS l a b, InR R s.1 s.2
  | [], a, b, _, _, _, hab, _, _ => fun s hs => by
    simp only [absorbS, List.mem_singleton] at hs
    subst hs
    exact hab
  | (lo, hi) :: l, a, b, low', ⟨g1, g2, g3, g4⟩, hl, hab, h1, h2 => by
    have hd := hl (lo, hi) (by simp)
    have h3 := h2 (lo, hi) (by simp)
    simp only at hd h3
    rw [absorbS]
    split
    next hx =>
      exact absorbS_in R hR l _ _ (hi + 2) g4 (fun s hs => hl s (by simp [hs])) (hab.meet hR hd h1 g2 hx h3) (by omega) (fun s hs => by have := h2 s (by simp [hs]); omega)
    · intro s hs
      simp only [List.mem_cons] at hs
      rcases hs with rfl | rfl | hs
      · exact hab
      · exact hd
      · exact hl s (by simp [hs])
theorem good_tail : ∀ (l : List (Int × Int)) (low : Int), GoodL low l → ∀ s ∈ l, low ≤ s.1 ∧ s.1 ≤ s.2 ∧ s.2 ≤ 4611686018427387903
  | [], _, _ => fun s hs => absurd hs (by simp)
  | (lo, hi) :: l, low, ⟨g1, g2, g3, g4⟩ => fun s hs => by
    simp only [List.mem_cons] at hs
    rcases hs with rfl | hs
    · exact ⟨g1, g2, g3⟩
    · have := good_tail l (hi + 2) g4 s hs
      omega
theorem addS_in (R : List (Int × Int)) (hR : goodAll R) : ∀ (l : List (Int × Int)) (a b low : Int), GoodL low l → (∀ s ∈ l, InR R s.1 s.2) → InR R a b → a ≤ b → ∀ s ∈ addS l a b, InR R s.1 s.2
  | [], a, b, _, _, _, hab, _ => fun s hs => by
    simp only [addS, List.mem_singleton] at hs
    subst hs
    exact hab
  | (lo, hi) :: l, a, b, low, ⟨g1, g2, g3, g4⟩, hl, hab, h1 => by
    rw [addS]
    split
    · intro s hs
      simp only [List.mem_cons] at hs
      rcases hs with rfl | hs
      · exact hl _ (by simp)
      · exact addS_in R hR l a b (hi + 2) g4 (fun s hs => hl s (by simp [hs])) hab h1 s hs
    next hx =>
      refine absorbS_in R hR _ a b low ⟨g1, g2, g3, g4⟩ hl hab h1 (fun s hs => ?_)
      simp only [List.mem_cons] at hs
      rcases hs with rfl | hs
      · simp only; omega
      · have := good_tail l (hi + 2) g4 s hs
        omega

theorem good_mono : ∀ (l : List (Int × Int)) (low low' : Int), GoodL low l → low' ≤ low → GoodL low' l
  | [], _, _, _, _ => trivial
  | (lo, hi) :: l, low, low', ⟨g1, g2, g3, g4⟩, h => ⟨by omega, g2, g3, g4⟩
theorem good_drop : ∀ (k : Nat) (l : List (Int × Int)) (low : Int), GoodL low l → GoodL low (l.drop k)
  | 0, l, low, h => by simpa using h
  | k + 1, [], low, h => by simpa using h
  | k + 1, (lo, hi) :: l, low, ⟨g1, g2, g3, g4⟩ => by
    rw [List.drop_succ_cons]
    exact good_drop k l low (good_mono l _ low g4 (by omega))
theorem lastS_good {l : List (Int × Int)} {low : Int} (h : GoodL low l) : GoodL low (lastS l) := good_drop _ l low h
theorem lastS_len (l : List (Int × Int)) : (lastS l).length ≤ 32 ∧ (lastS l).length ≤ l.length := by
  unfold lastS
  rw [List.length_drop]
  omega
theorem lastS_pos {l : List (Int × Int)} (h : 1 ≤ l.length) : 1 ≤ (lastS l).length := by
  unfold lastS
  rw [List.length_drop]
  omega
theorem lastS_mem {l : List (Int × Int)} {s : Int × Int} (h : s ∈ lastS l) : s ∈ l := List.mem_of_mem_drop h

theorem insideAll_of {m R : List (Int × Int)} (h : ∀ s ∈ m, InR R s.1 s.2) : insideAll m R := fun i hi => by
  have := h (m.getD i (0, 0)) (by rw [List.getD_eq_getElem?_getD, List.getElem?_eq_getElem hi]; exact List.getElem_mem _)
  exact this

end Go.Proofs.Ytofggpmllfhgaaa
