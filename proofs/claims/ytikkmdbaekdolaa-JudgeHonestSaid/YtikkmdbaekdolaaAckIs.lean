/- The plain law of acknowledgments as bytes: rows of spans, and what is read of bytes. -/
import Derived.Test.YtikkmdbaekdolaaHeadIs
namespace Go.Proofs.Ytikkmdbaekdolaa
open Go.RowKit Go.Lib
set_option linter.unusedVariables false
set_option maxRecDepth 100000

/-- spans behind 'low', each beyond the one ahead of it -/
def GoodL : Int → List (Int × Int) → Prop
  | _, [] => True
  | low, (lo, hi) :: l => low ≤ lo ∧ lo ≤ hi ∧ hi ≤ 4611686018427387903 ∧ GoodL (hi + 2) l

/-- their bytes -/
def rowL : Int → List (Int × Int) → List Int
  | _, [] => []
  | low, (lo, hi) :: l => putA (lo - low) ++ (putA (hi - lo) ++ rowL (hi + 2) l)
def putRowL (l : List (Int × Int)) : List Int := (l.length : Int) :: rowL 0 l

/-- so many spans of bytes: the error, the spans, what is left -/
def rowF : Int → Nat → List Int → Int × List (Int × Int) × List Int
  | _, 0, zs => (0, [], zs)
  | low, n + 1, zs =>
    if (numF zs).2.2 = 0 then
      if 4611686018427387903 < low ∨ 4611686018427387903 - low < (numF zs).1 then (5, [], [])
      else if (numF (zs.drop (numF zs).2.1)).2.2 = 0 then
        if 4611686018427387903 - (low + (numF zs).1) < (numF (zs.drop (numF zs).2.1)).1 then (5, [], [])
        else
          if (rowF (low + (numF zs).1 + (numF (zs.drop (numF zs).2.1)).1 + 2) n ((zs.drop (numF zs).2.1).drop (numF (zs.drop (numF zs).2.1)).2.1)).1 = 0 then
            (0, (low + (numF zs).1, low + (numF zs).1 + (numF (zs.drop (numF zs).2.1)).1) :: (rowF (low + (numF zs).1 + (numF (zs.drop (numF zs).2.1)).1 + 2) n ((zs.drop (numF zs).2.1).drop (numF (zs.drop (numF zs).2.1)).2.1)).2.1,
              (rowF (low + (numF zs).1 + (numF (zs.drop (numF zs).2.1)).1 + 2) n ((zs.drop (numF zs).2.1).drop (numF (zs.drop (numF zs).2.1)).2.1)).2.2)
          else ((rowF (low + (numF zs).1 + (numF (zs.drop (numF zs).2.1)).1 + 2) n ((zs.drop (numF zs).2.1).drop (numF (zs.drop (numF zs).2.1)).2.1)).1, [], [])
      else ((numF (zs.drop (numF zs).2.1)).2.2, [], [])
    else ((numF zs).2.2, [], [])

/-- one span: what is read of it, or the error -/
def oneF (low : Int) (zs : List Int) : Int × (Int × Int) × List Int :=
  if (numF zs).2.2 = 0 then
    if 4611686018427387903 < low ∨ 4611686018427387903 - low < (numF zs).1 then (5, (0, 0), [])
    else if (numF (zs.drop (numF zs).2.1)).2.2 = 0 then
      if 4611686018427387903 - (low + (numF zs).1) < (numF (zs.drop (numF zs).2.1)).1 then (5, (0, 0), [])
      else (0, (low + (numF zs).1, low + (numF zs).1 + (numF (zs.drop (numF zs).2.1)).1), (zs.drop (numF zs).2.1).drop (numF (zs.drop (numF zs).2.1)).2.1)
    else ((numF (zs.drop (numF zs).2.1)).2.2, (0, 0), [])
  else ((numF zs).2.2, (0, 0), [])

theorem rowF_succ (low : Int) (n : Nat) (zs : List Int) : rowF low (n + 1) zs = if (oneF low zs).1 = 0 then (if (rowF ((oneF low zs).2.1.2 + 2) n (oneF low zs).2.2).1 = 0 then (0, (oneF low zs).2.1 :: (rowF ((oneF low zs).2.1.2 + 2) n (oneF low zs).2.2).2.1, (rowF ((oneF low zs).2.1.2 + 2) n (oneF low zs).2.2).2.2) else ((rowF ((oneF low zs).2.1.2 + 2) n (oneF low zs).2.2).1, [], [])) else ((oneF low zs).1, [], []) := by
  rw [rowF, oneF]
  by_cases h1 : (numF zs).2.2 = 0
  · simp only [if_pos h1]
    by_cases h2 : 4611686018427387903 < low ∨ 4611686018427387903 - low < (numF zs).1
    · simp only [if_pos h2]
      rfl
    · simp only [if_neg h2]
      by_cases h3 : (numF (zs.drop (numF zs).2.1)).2.2 = 0
      · simp only [if_pos h3]
        by_cases h4 : 4611686018427387903 - (low + (numF zs).1) < (numF (zs.drop (numF zs).2.1)).1
        · simp only [if_pos h4]
          rfl
        · simp only [if_neg h4, if_true]
      · simp only [if_neg h3]
  · simp only [if_neg h1]

theorem oneF_put (low lo hi : Int) (more : List Int) (h1 : low ≤ lo) (h2 : lo ≤ hi) (h3 : hi ≤ 4611686018427387903) (h0 : 0 ≤ low) : oneF low (putA (lo - low) ++ (putA (hi - lo) ++ more)) = (0, (lo, hi), more) := by
  rw [oneF, numF_put _ (by omega), if_pos rfl, if_neg (by simp only; omega)]
  simp only [List.drop_left]
  rw [numF_put _ (by omega), if_pos rfl, if_neg (by simp only; omega)]
  simp only [List.drop_left]
  rw [show low + (lo - low) = lo by omega, show lo + (hi - lo) = hi by omega]

theorem rowF_put : ∀ (l : List (Int × Int)) (low : Int) (more : List Int), 0 ≤ low → GoodL low l → rowF low l.length (rowL low l ++ more) = (0, l, more)
  | [], _, _, _, _ => rfl
  | (lo, hi) :: l, low, more, h0, ⟨h1, h2, h3, h4⟩ => by
    have ih := rowF_put l (hi + 2) more (by omega) h4
    rw [List.length_cons, rowF_succ, rowL]
    simp only [List.append_assoc]
    rw [oneF_put low lo hi _ h1 h2 h3 h0]
    simp only [if_true]
    rw [ih]
    simp only [if_true]

theorem oneF_ok (low : Int) (zs rest : List Int) (s : Int × Int) (hz : ∀ x ∈ zs, 0 ≤ x ∧ x ≤ 255) (h : oneF low zs = (0, s, rest)) : low ≤ s.1 ∧ s.1 ≤ s.2 ∧ s.2 ≤ 4611686018427387903 ∧ putA (s.1 - low) ++ (putA (s.2 - s.1) ++ rest) = zs ∧ ∀ x ∈ rest, 0 ≤ x ∧ x ≤ 255 := by
  rw [oneF] at h
  split at h
  case isFalse e => exact absurd (congrArg Prod.fst h) e
  case isTrue e1 =>
  obtain ⟨p1, _, a1⟩ := numF_zero zs hz e1
  have z2 := byte_drop hz (numF zs).2.1
  generalize (numF zs).1 = a at *
  generalize zs.drop (numF zs).2.1 = zs2 at *
  split at h
  · simp at h
  next g1 =>
  split at h
  case isFalse e => exact absurd (congrArg Prod.fst h) e
  case isTrue e2 =>
  obtain ⟨p2, _, a2⟩ := numF_zero zs2 z2 e2
  have z3 := byte_drop z2 (numF zs2).2.1
  generalize (numF zs2).1 = c at *
  generalize zs2.drop (numF zs2).2.1 = zs3 at *
  split at h
  · simp at h
  next g2 =>
  obtain ⟨_, hs, hr⟩ : True ∧ (low + a, low + a + c) = s ∧ zs3 = rest := ⟨trivial, congrArg (fun t => t.2.1) h, congrArg (fun t => t.2.2) h⟩
  subst hs hr
  refine ⟨by simp only; omega, by simp only; omega, by simp only; omega, ?_, z3⟩
  simp only
  rw [show low + a - low = a by omega, show low + a + c - (low + a) = c by omega, a2, a1]

theorem rowF_ok : ∀ (n : Nat) (low : Int) (zs rest : List Int) (l : List (Int × Int)), (∀ x ∈ zs, 0 ≤ x ∧ x ≤ 255) → rowF low n zs = (0, l, rest) → GoodL low l ∧ l.length = n ∧ rowL low l ++ rest = zs ∧ ∀ x ∈ rest, 0 ≤ x ∧ x ≤ 255
  | 0, low, zs, rest, l, hz, h => by
    rw [rowF] at h
    obtain ⟨h1, h2⟩ : [] = l ∧ zs = rest := ⟨congrArg (fun t => t.2.1) h, congrArg (fun t => t.2.2) h⟩
    subst h1 h2
    exact ⟨trivial, rfl, rfl, hz⟩
  | n + 1, low, zs, rest, l, hz, h => by
    rw [rowF_succ] at h
    obtain ⟨e, s, zs2, hO⟩ : ∃ e s r, oneF low zs = (e, s, r) := ⟨_, _, _, rfl⟩
    rw [hO] at h
    simp only at h
    split at h
    case isFalse he => exact absurd (congrArg Prod.fst h) he
    case isTrue he =>
    subst he
    obtain ⟨o1, o2, o3, o4, o5⟩ := oneF_ok low zs zs2 s hz hO
    obtain ⟨e, l2, r2, hR⟩ : ∃ e l r, rowF (s.2 + 2) n zs2 = (e, l, r) := ⟨_, _, _, rfl⟩
    rw [hR] at h
    simp only at h
    split at h
    case isFalse he => exact absurd (congrArg Prod.fst h) he
    case isTrue he =>
    subst he
    obtain ⟨q1, q2, q3, q4⟩ := rowF_ok n (s.2 + 2) zs2 r2 l2 o5 hR
    obtain ⟨h1, h2⟩ : s :: l2 = l ∧ r2 = rest := ⟨congrArg (fun t => t.2.1) h, congrArg (fun t => t.2.2) h⟩
    subst h1 h2
    refine ⟨⟨o1, o2, o3, q1⟩, by rw [List.length_cons, q2], ?_, q4⟩
    show (putA (s.1 - low) ++ (putA (s.2 - s.1) ++ rowL (s.2 + 2) l2)) ++ r2 = zs
    rw [List.append_assoc, List.append_assoc, q3, o4]

theorem rowF_cut : ∀ (l : List (Int × Int)) (low : Int) (j : Nat), 0 ≤ low → GoodL low l → j < (rowL low l).length → rowF low l.length ((rowL low l).take j) = (2, [], [])
  | [], _, _, _, _, h => by simp [rowL] at h
  | (lo, hi) :: l, low, j, h0, ⟨h1, h2, h3, h4⟩, hj => by
    rw [List.length_cons, rowF_succ, rowL]
    rw [rowL, List.length_append, List.length_append] at hj
    rw [take_app]
    split
    next hl =>
      rw [show oneF low ((putA (lo - low)).take j) = (2, (0, 0), []) by rw [oneF, numF_cut _ (by omega) _ hl, if_neg (by simp)]]
      rfl
    next hl =>
    rw [take_app]
    split
    next hl2 =>
      rw [show ∀ k, k < (putA (hi - lo)).length → oneF low (putA (lo - low) ++ (putA (hi - lo)).take k) = (2, (0, 0), []) from fun k hk => by
        rw [oneF, numF_put _ (by omega), if_pos rfl, if_neg (by simp only; omega)]
        simp only [List.drop_left]
        rw [numF_cut _ (by omega) _ hk, if_neg (by simp)]]
      · rfl
      · exact hl2
    next hl2 =>
      rw [oneF_put low lo hi _ h1 h2 h3 h0]
      simp only [if_true]
      rw [rowF_cut l (hi + 2) _ (by omega) h4 (by omega)]
      rfl

end Go.Proofs.Ytikkmdbaekdolaa
