/- The plain law of packets as bytes: what is read of bytes is what was put there, and nothing else. -/
import Derived.Test.YtikkmdbaekdolaaNumIs
namespace Go.Proofs.Ytikkmdbaekdolaa
open Go.RowKit Go.Lib
set_option linter.unusedVariables false
set_option maxRecDepth 100000

structure Dat where
  pn : Int
  least : Int
  off : Int
  x : Int
  ecn : Int
  body : List Int

def zeroD : Dat := ⟨0, 0, 0, 0, 0, []⟩

def tailD (d : Dat) : List Int := putA d.body.length ++ d.body
def putD (d : Dat) : List Int := 1 :: d.ecn :: (putA d.pn ++ (putA d.least ++ (putA d.off ++ (eightL d.x ++ (putA d.body.length ++ d.body)))))

structure MayD (d : Dat) : Prop where
  pn : 0 ≤ d.pn ∧ d.pn ≤ 4611686018427387903
  least : 0 ≤ d.least ∧ d.least ≤ d.pn
  ecn : 1 ≤ d.ecn ∧ d.ecn ≤ 3
  len : 1 ≤ d.body.length ∧ d.body.length ≤ 1500
  off : 0 ≤ d.off ∧ d.off ≤ 4611686018427387903 - d.body.length
  x : 0 ≤ d.x ∧ d.x ≤ 18446744073709551615

def get6 (c pn least off x n : Int) (zs : List Int) : Int × Dat :=
  if (zs.length : Int) < n then (2, zeroD) else if n < zs.length then (3, zeroD) else (0, ⟨pn, least, off, x, c, zs⟩)
def get5 (c pn least off x : Int) (zs : List Int) : Int × Dat :=
  if (numF zs).2.2 = 0 then (if 1 ≤ (numF zs).1 ∧ (numF zs).1 ≤ 1500 ∧ off ≤ 4611686018427387903 - (numF zs).1 then get6 c pn least off x (numF zs).1 (zs.drop (numF zs).2.1) else (5, zeroD)) else ((numF zs).2.2, zeroD)
def get4 (c pn least off : Int) (zs : List Int) : Int × Dat :=
  if (wordF zs).2.2 = 0 then get5 c pn least off (wordF zs).1 (zs.drop (wordF zs).2.1) else ((wordF zs).2.2, zeroD)
def get3 (c pn least : Int) (zs : List Int) : Int × Dat :=
  if (numF zs).2.2 = 0 then get4 c pn least (numF zs).1 (zs.drop (numF zs).2.1) else ((numF zs).2.2, zeroD)
def get2 (c pn : Int) (zs : List Int) : Int × Dat :=
  if (numF zs).2.2 = 0 then (if (numF zs).1 ≤ pn then get3 c pn (numF zs).1 (zs.drop (numF zs).2.1) else (5, zeroD)) else ((numF zs).2.2, zeroD)
def get1 (c : Int) (zs : List Int) : Int × Dat :=
  if (numF zs).2.2 = 0 then get2 c (numF zs).1 (zs.drop (numF zs).2.1) else ((numF zs).2.2, zeroD)
def get0 : List Int → Int × Dat
  | [] => (2, zeroD)
  | c :: zs => if 1 ≤ c ∧ c ≤ 3 then get1 c zs else (5, zeroD)
def getF : List Int → Int × Dat
  | [] => (2, zeroD)
  | k :: bs => if k = 1 then get0 bs else (4, zeroD)

theorem putA_len1 (n : Int) : 1 ≤ (putA n).length ∧ (putA n).length ≤ 8 := by
  unfold putA
  repeat' split
  all_goals simp

theorem eightL_len (x : Int) : (eightL x).length = 8 := rfl

theorem get1_put (c n : Int) (hn : 0 ≤ n ∧ n ≤ 4611686018427387903) (more : List Int) : get1 c (putA n ++ more) = get2 c n more := by
  rw [get1, numF_put n hn more, if_pos rfl, List.drop_left]
theorem get2_put (c pn n : Int) (hn : 0 ≤ n ∧ n ≤ 4611686018427387903) (hl : n ≤ pn) (more : List Int) : get2 c pn (putA n ++ more) = get3 c pn n more := by
  rw [get2, numF_put n hn more, if_pos rfl, if_pos hl, List.drop_left]
theorem get3_put (c pn least n : Int) (hn : 0 ≤ n ∧ n ≤ 4611686018427387903) (more : List Int) : get3 c pn least (putA n ++ more) = get4 c pn least n more := by
  rw [get3, numF_put n hn more, if_pos rfl, List.drop_left]
theorem get4_put (c pn least off x : Int) (hx : 0 ≤ x ∧ x ≤ 18446744073709551615) (more : List Int) : get4 c pn least off (eightL x ++ more) = get5 c pn least off x more := by
  rw [get4, wordF_put x hx more, if_pos rfl, show (8 : Nat) = (eightL x).length from rfl, List.drop_left]
theorem get5_put (c pn least off x n : Int) (hn : 0 ≤ n ∧ n ≤ 4611686018427387903) (hl : 1 ≤ n ∧ n ≤ 1500 ∧ off ≤ 4611686018427387903 - n) (more : List Int) : get5 c pn least off x (putA n ++ more) = get6 c pn least off x n more := by
  rw [get5, numF_put n hn more, if_pos rfl, if_pos hl, List.drop_left]

theorem getF_any (d : Dat) (h : MayD d) (body : List Int) : getF (1 :: d.ecn :: (putA d.pn ++ (putA d.least ++ (putA d.off ++ (eightL d.x ++ (putA d.body.length ++ body)))))) = get6 d.ecn d.pn d.least d.off d.x d.body.length body := by
  obtain ⟨h1, h2, h3, h4, h5, h6⟩ := h
  rw [getF, if_pos rfl, get0, if_pos h3, get1_put _ _ h1, get2_put _ _ _ ⟨h2.1, by omega⟩ h2.2, get3_put _ _ _ _ ⟨h5.1, by omega⟩, get4_put _ _ _ _ _ h6, get5_put _ _ _ _ _ _ (by omega) (by omega)]
theorem getF_put (d : Dat) (h : MayD d) : getF (putD d) = (0, d) := by
  rw [putD, getF_any d h, get6, if_neg (by omega), if_neg (by omega)]
theorem getF_more (d : Dat) (h : MayD d) (y : Int) : getF (putD d ++ [y]) = (3, zeroD) := by
  rw [putD]
  simp only [List.cons_append, List.append_assoc]
  rw [getF_any d h, get6, if_neg (by rw [List.length_append]; omega), if_pos (by rw [List.length_append, List.length_singleton]; omega)]

theorem take_app {α : Type} (a b : List α) (j : Nat) : (a ++ b).take j = if j < a.length then a.take j else a ++ b.take (j - a.length) := by
  rw [List.take_append]
  split
  · rw [show j - a.length = 0 by omega, List.take_zero, List.append_nil]
  · rw [List.take_of_length_le (by omega)]

theorem getF_cut (d : Dat) (h : MayD d) (j : Nat) (hj : j < (putD d).length) : getF ((putD d).take j) = (2, zeroD) := by
  obtain ⟨h1, h2, h3, h4, h5, h6⟩ := h
  rw [putD] at hj ⊢
  rcases j with _ | j
  · rfl
  rw [List.take_succ_cons, getF, if_pos rfl]
  rcases j with _ | j
  · rfl
  rw [List.take_succ_cons, get0]
  simp only [List.length_cons, List.length_append] at hj
  rw [if_pos h3, take_app]
  split
  next hl => rw [get1, numF_cut _ h1 _ hl, if_neg (by decide)]
  rw [get1_put _ _ h1, take_app]
  split
  next hl => rw [get2, numF_cut _ ⟨h2.1, by omega⟩ _ hl, if_neg (by decide)]
  rw [get2_put _ _ _ ⟨h2.1, by omega⟩ h2.2, take_app]
  split
  next hl => rw [get3, numF_cut _ ⟨h5.1, by omega⟩ _ hl, if_neg (by decide)]
  rw [get3_put _ _ _ _ ⟨h5.1, by omega⟩, take_app]
  split
  next hl => rw [get4, wordF_cut _ _ hl, if_neg (by decide)]
  rw [get4_put _ _ _ _ _ h6, take_app]
  split
  next hl => rw [get5, numF_cut _ (by omega) _ hl, if_neg (by decide)]
  rw [get5_put _ _ _ _ _ _ (by omega) (by omega), get6, if_pos (by rw [List.length_take]; have := eightL_len d.x; omega)]

theorem numF_zero (zs : List Int) (hz : ∀ x ∈ zs, 0 ≤ x ∧ x ≤ 255) (h : (numF zs).2.2 = 0) : (0 ≤ (numF zs).1 ∧ (numF zs).1 ≤ 4611686018427387903) ∧ (numF zs).2.1 ≤ zs.length ∧ putA (numF zs).1 ++ zs.drop (numF zs).2.1 = zs := by
  obtain ⟨N, K, e, hF⟩ : ∃ N K e, numF zs = (N, K, e) := ⟨_, _, _, rfl⟩
  rw [hF] at h ⊢
  simp only at h ⊢
  subst h
  obtain ⟨a, b, c⟩ := numF_ok zs hz N K hF
  exact ⟨a, b, by rw [c, List.take_append_drop]⟩
theorem numF_err (zs : List Int) : (numF zs).2.2 = 0 ∨ ((numF zs).2.2 ≠ 0 ∧ (numF zs).1 = 0 ∧ (numF zs).2.1 = 0) := by
  obtain ⟨N, K, e, hF⟩ : ∃ N K e, numF zs = (N, K, e) := ⟨_, _, _, rfl⟩
  rw [hF]
  rcases numF_bad zs N e K hF with h | h
  · exact .inl h
  · exact .inr (by simp only; omega)
theorem wordF_zero (zs : List Int) (hz : ∀ x ∈ zs, 0 ≤ x ∧ x ≤ 255) (h : (wordF zs).2.2 = 0) : (0 ≤ (wordF zs).1 ∧ (wordF zs).1 ≤ 18446744073709551615) ∧ eightL (wordF zs).1 ++ zs.drop (wordF zs).2.1 = zs := by
  obtain ⟨N, K, e, hF⟩ : ∃ N K e, wordF zs = (N, K, e) := ⟨_, _, _, rfl⟩
  rw [hF] at h ⊢
  simp only at h ⊢
  subst h
  rcases wordF_ok zs hz N 0 K hF with h | ⟨_, rfl, _, a, c⟩
  · omega
  · exact ⟨a, by rw [c, List.take_append_drop]⟩

theorem byte_drop {zs : List Int} (hz : ∀ x ∈ zs, 0 ≤ x ∧ x ≤ 255) (k : Nat) : ∀ x ∈ zs.drop k, 0 ≤ x ∧ x ≤ 255 := fun x hx => hz x (List.mem_of_mem_drop hx)

theorem getF_ok (bs : List Int) (hb : ∀ x ∈ bs, 0 ≤ x ∧ x ≤ 255) (d : Dat) (h : getF bs = (0, d)) : MayD d ∧ putD d = bs := by
  rcases bs with _ | ⟨k, _ | ⟨c, zs⟩⟩
  · simp [getF] at h
  · rw [getF, get0] at h
    split at h <;> simp at h
  rw [getF] at h
  split at h
  case isFalse => simp at h
  case isTrue hk =>
  subst hk
  rw [get0] at h
  split at h
  case isFalse => simp at h
  case isTrue hc =>
  have z1 : ∀ x ∈ zs, 0 ≤ x ∧ x ≤ 255 := fun x hx => hb x (by simp [hx])
  rw [get1] at h
  split at h
  case isFalse e1 => exact absurd (congrArg Prod.fst h) e1
  case isTrue e1 =>
  obtain ⟨p1, _, a1⟩ := numF_zero zs z1 e1
  have z2 := byte_drop z1 (numF zs).2.1
  generalize (numF zs).1 = pn at *
  generalize zs.drop (numF zs).2.1 = zs2 at *
  rw [get2] at h
  split at h
  case isFalse e2 => exact absurd (congrArg Prod.fst h) e2
  case isTrue e2 =>
  split at h
  case isFalse => simp at h
  case isTrue l2 =>
  obtain ⟨p2, _, a2⟩ := numF_zero zs2 z2 e2
  have z3 := byte_drop z2 (numF zs2).2.1
  generalize (numF zs2).1 = least at *
  generalize zs2.drop (numF zs2).2.1 = zs3 at *
  rw [get3] at h
  split at h
  case isFalse e3 => exact absurd (congrArg Prod.fst h) e3
  case isTrue e3 =>
  obtain ⟨p3, _, a3⟩ := numF_zero zs3 z3 e3
  have z4 := byte_drop z3 (numF zs3).2.1
  generalize (numF zs3).1 = off at *
  generalize zs3.drop (numF zs3).2.1 = zs4 at *
  rw [get4] at h
  split at h
  case isFalse e4 => exact absurd (congrArg Prod.fst h) e4
  case isTrue e4 =>
  obtain ⟨p4, a4⟩ := wordF_zero zs4 z4 e4
  have z5 := byte_drop z4 (wordF zs4).2.1
  generalize (wordF zs4).1 = x at *
  generalize zs4.drop (wordF zs4).2.1 = zs5 at *
  rw [get5] at h
  split at h
  case isFalse e5 => exact absurd (congrArg Prod.fst h) e5
  case isTrue e5 =>
  split at h
  case isFalse => simp at h
  case isTrue l5 =>
  obtain ⟨p5, _, a5⟩ := numF_zero zs5 z5 e5
  generalize (numF zs5).1 = n at *
  generalize zs5.drop (numF zs5).2.1 = zs6 at *
  rw [get6] at h
  split at h
  · simp at h
  split at h
  · simp at h
  next g1 g2 =>
  have hn : n = (zs6.length : Int) := by omega
  obtain rfl : (⟨pn, least, off, x, c, zs6⟩ : Dat) = d := congrArg Prod.snd h
  refine ⟨⟨p1, ⟨p2.1, l2⟩, hc, by simp only; omega, ⟨p3.1, by simp only; omega⟩, p4⟩, ?_⟩
  simp only [putD]
  rw [← hn, a5, a4, a3, a2, a1]

end Go.Proofs.Ytikkmdbaekdolaa
