/- The plain law of numbers as bytes: what numF and wordF find is what was put there, and nothing else. -/
import Derived.Test.YtikkmdbaekdolaaWordSame
import Derived.Test.YtikkmdbaekdolaaNumAny
namespace Go.Proofs.Ytikkmdbaekdolaa
open Go.RowKit Go.Lib
set_option linter.unusedVariables false
set_option maxRecDepth 100000

theorem len_at {l : List Int} {k : Nat} (h : ¬ l.length < k) : ∃ a b, l = a ++ b ∧ a.length = k :=
  ⟨l.take k, l.drop k, (List.take_append_drop k l).symm, by rw [List.length_take]; omega⟩

theorem numF_ok (zs : List Int) (hz : ∀ x ∈ zs, 0 ≤ x ∧ x ≤ 255) (N : Int) (K : Nat) (h : numF zs = (N, K, 0)) : (0 ≤ N ∧ N ≤ 4611686018427387903) ∧ K ≤ zs.length ∧ putA N = zs.take K := by
  rcases zs with _ | ⟨b0, zs⟩
  · simp [numF] at h
  have r0 := hz b0 (by simp)
  rw [numF] at h
  by_cases k1 : b0 < 64
  · rw [if_pos k1] at h
    simp only [Prod.mk.injEq] at h
    obtain ⟨rfl, rfl, _⟩ := h
    have ev : b0 % 64 = b0 := by omega
    rw [ev]
    refine ⟨by omega, by simp, ?_⟩
    unfold putA; rw [if_pos k1]; rfl
  rw [if_neg k1] at h
  by_cases k2 : b0 < 128
  · rw [if_pos k2] at h
    by_cases l2 : (b0 :: zs).length < 2
    · rw [if_pos l2] at h; simp at h
    rw [if_neg l2] at h
    rcases zs with _ | ⟨b1, zs⟩
    · simp at l2
    have r1 := hz b1 (by simp)
    simp only [valF, List.take_succ_cons, List.take_zero, List.foldl_cons, List.foldl_nil] at h
    rw [numG] at h
    split at h
    next hs =>
      simp only [Prod.mk.injEq] at h
      obtain ⟨rfl, rfl, _⟩ := h
      refine ⟨by omega, by simp, ?_⟩
      rcases size_cases (b0 % 64 * 256 + b1) with hs | hs | hs | hs | hs
      case inr.inl =>
        unfold putA
        rw [if_neg (by omega), if_pos (by omega), show (b0 % 64 * 256 + b1) / 256 + 64 = b0 by omega, show (b0 % 64 * 256 + b1) % 256 = b1 by omega]
        rfl
      all_goals omega
    next => simp at h
  rw [if_neg k2] at h
  by_cases k4 : b0 < 192
  · rw [if_pos k4] at h
    by_cases l4 : (b0 :: zs).length < 4
    · rw [if_pos l4] at h; simp at h
    rw [if_neg l4] at h
    rcases zs with _ | ⟨b1, _ | ⟨b2, _ | ⟨b3, zs⟩⟩⟩
    · simp at l4
    · simp at l4
    · simp at l4
    have r1 := hz b1 (by simp)
    have r2 := hz b2 (by simp)
    have r3 := hz b3 (by simp)
    simp only [valF, List.take_succ_cons, List.take_zero, List.foldl_cons, List.foldl_nil] at h
    obtain ⟨v, hv⟩ : ∃ v, v = ((b0 % 64 * 256 + b1) * 256 + b2) * 256 + b3 := ⟨_, rfl⟩
    rw [← hv, numG] at h
    split at h
    next hs =>
      simp only [Prod.mk.injEq] at h
      obtain ⟨rfl, rfl, _⟩ := h
      refine ⟨by omega, by simp, ?_⟩
      rcases size_cases v with hs | hs | hs | hs | hs
      case inr.inr.inl =>
        unfold putA
        rw [if_neg (by omega), if_neg (by omega), if_pos (by omega), show v / 16777216 + 128 = b0 by omega, show v / 65536 % 256 = b1 by omega, show v / 256 % 256 = b2 by omega, show v % 256 = b3 by omega]
        rfl
      all_goals omega
    next => simp at h
  rw [if_neg k4] at h
  by_cases l8 : (b0 :: zs).length < 8
  · rw [if_pos l8] at h; simp at h
  rw [if_neg l8] at h
  rcases zs with _ | ⟨b1, _ | ⟨b2, _ | ⟨b3, _ | ⟨b4, _ | ⟨b5, _ | ⟨b6, _ | ⟨b7, zs⟩⟩⟩⟩⟩⟩⟩
  iterate 7 (· simp at l8)
  have r1 := hz b1 (by simp)
  have r2 := hz b2 (by simp)
  have r3 := hz b3 (by simp)
  have r4 := hz b4 (by simp)
  have r5 := hz b5 (by simp)
  have r6 := hz b6 (by simp)
  have r7 := hz b7 (by simp)
  simp only [valF, List.take_succ_cons, List.take_zero, List.foldl_cons, List.foldl_nil] at h
  obtain ⟨v, hv⟩ : ∃ v, v = (((((((b0 % 64 * 256 + b1) * 256 + b2) * 256 + b3) * 256 + b4) * 256 + b5) * 256 + b6) * 256 + b7) := ⟨_, rfl⟩
  rw [← hv, numG] at h
  split at h
  next hs =>
    simp only [Prod.mk.injEq] at h
    obtain ⟨rfl, rfl, _⟩ := h
    have hv' : v = (b0 % 64) * 72057594037927936 + b1 * 281474976710656 + b2 * 1099511627776 + b3 * 4294967296 + b4 * 16777216 + b5 * 65536 + b6 * 256 + b7 := by omega
    clear hv
    refine ⟨by omega, by simp, ?_⟩
    rcases size_cases v with hs | hs | hs | hs | hs
    case inr.inr.inr.inl =>
      unfold putA
      rw [if_neg (by omega), if_neg (by omega), if_neg (by omega), show v / 72057594037927936 + 192 = b0 by omega, show v / 281474976710656 % 256 = b1 by omega, show v / 1099511627776 % 256 = b2 by omega, show v / 4294967296 % 256 = b3 by omega,
        show v / 16777216 % 256 = b4 by omega, show v / 65536 % 256 = b5 by omega, show v / 256 % 256 = b6 by omega, show v % 256 = b7 by omega]
      rfl
    all_goals omega
  next => simp at h

theorem numF_bad (zs : List Int) (N e : Int) (K : Nat) (h : numF zs = (N, K, e)) : e = 0 ∨ (N = 0 ∧ K = 0 ∧ (e = 2 ∨ e = 5)) := by
  rcases zs with _ | ⟨b0, zs⟩
  · simp [numF] at h
    omega
  rw [numF] at h
  split at h
  · simp at h; omega
  split at h
  · split at h
    · simp at h; omega
    · rw [numG] at h
      split at h <;> simp at h <;> omega
  split at h
  · split at h
    · simp at h; omega
    · rw [numG] at h
      split at h <;> simp at h <;> omega
  split at h
  · simp at h; omega
  · rw [numG] at h
    split at h <;> simp at h <;> omega

theorem numF_put (n : Int) (hn : 0 ≤ n ∧ n ≤ 4611686018427387903) (more : List Int) : numF (putA n ++ more) = (n, (putA n).length, 0) := by
  unfold putA
  split
  next h1 =>
    simp only [List.cons_append, List.nil_append, numF, if_pos h1, show n % 64 = n by omega, List.length_cons, List.length_nil]
  next h1 =>
  split
  next h2 =>
    simp only [List.cons_append, List.nil_append, numF]
    rw [if_neg (by omega), if_pos (by omega), if_neg (by simp)]
    simp only [valF, List.take_succ_cons, List.take_zero, List.foldl_cons, List.foldl_nil]
    rw [show (n / 256 + 64) % 64 * 256 + n % 256 = n by omega, numG, if_pos (by unfold sizeI; rw [if_neg h1, if_pos h2])]
    rfl
  next h2 =>
  split
  next h3 =>
    simp only [List.cons_append, List.nil_append, numF]
    rw [if_neg (by omega), if_neg (by omega), if_pos (by omega), if_neg (by simp only [List.length_cons]; omega)]
    simp only [valF, List.take_succ_cons, List.take_zero, List.foldl_cons, List.foldl_nil]
    rw [show (((n / 16777216 + 128) % 64 * 256 + n / 65536 % 256) * 256 + n / 256 % 256) * 256 + n % 256 = n by omega, numG, if_pos (by unfold sizeI; rw [if_neg h1, if_neg h2, if_pos h3])]
    rfl
  next h3 =>
    simp only [List.cons_append, List.nil_append, numF]
    rw [if_neg (by omega), if_neg (by omega), if_neg (by omega), if_neg (by simp only [List.length_cons]; omega)]
    simp only [valF, List.take_succ_cons, List.take_zero, List.foldl_cons, List.foldl_nil]
    rw [show ((((((((n / 72057594037927936 + 192) % 64 * 256 + n / 281474976710656 % 256) * 256 + n / 1099511627776 % 256) * 256 + n / 4294967296 % 256) * 256 + n / 16777216 % 256) * 256 + n / 65536 % 256) * 256 + n / 256 % 256) * 256 + n % 256) = n by omega,
      numG, if_pos (by unfold sizeI; rw [if_neg h1, if_neg h2, if_neg h3, if_pos (by omega)])]
    rfl

theorem numF_cut (n : Int) (hn : 0 ≤ n ∧ n ≤ 4611686018427387903) (j : Nat) (hj : j < (putA n).length) : numF ((putA n).take j) = (0, 0, 2) := by
  rcases j with _ | j
  · rfl
  unfold putA at hj ⊢
  split
  next h1 => rw [if_pos h1] at hj; simp at hj
  next h1 =>
  rw [if_neg h1] at hj
  split
  next h2 => rw [if_pos h2] at hj; simp only [List.take_succ_cons, numF]; rw [if_neg (by omega), if_pos (by omega), if_pos (by simp at hj ⊢; omega)]
  next h2 =>
  rw [if_neg h2] at hj
  split
  next h3 => rw [if_pos h3] at hj; simp only [List.take_succ_cons, numF]; rw [if_neg (by omega), if_neg (by omega), if_pos (by omega), if_pos (by simp only [List.length_cons, List.length_nil, List.length_take] at hj ⊢; omega)]
  next h3 => rw [if_neg h3] at hj; simp only [List.take_succ_cons, numF]; rw [if_neg (by omega), if_neg (by omega), if_neg (by omega), if_pos (by simp only [List.length_cons, List.length_nil, List.length_take] at hj ⊢; omega)]

theorem wordF_put (x : Int) (hx : 0 ≤ x ∧ x ≤ 18446744073709551615) (more : List Int) : wordF (eightL x ++ more) = (x, 8, 0) := by
  unfold wordF eightL
  rw [if_neg (by simp only [List.cons_append, List.nil_append, List.length_cons]; omega)]
  simp only [valF, List.cons_append, List.take_succ_cons, List.take_zero, List.foldl_cons, List.foldl_nil]
  rw [show (((((((((0 * 256 + x / 72057594037927936) * 256 + x / 281474976710656 % 256) * 256 + x / 1099511627776 % 256) * 256 + x / 4294967296 % 256) * 256 + x / 16777216 % 256) * 256 + x / 65536 % 256) * 256 + x / 256 % 256) * 256 + x % 256)) = x by omega]

theorem wordF_cut (x : Int) (j : Nat) (hj : j < 8) : wordF ((eightL x).take j) = (0, 0, 2) := by
  unfold wordF
  rw [if_pos (by rw [List.length_take]; omega)]

theorem wordF_ok (zs : List Int) (hz : ∀ x ∈ zs, 0 ≤ x ∧ x ≤ 255) (N e : Int) (K : Nat) (h : wordF zs = (N, K, e)) : (N = 0 ∧ K = 0 ∧ e = 2) ∨ (e = 0 ∧ K = 8 ∧ 8 ≤ zs.length ∧ (0 ≤ N ∧ N ≤ 18446744073709551615) ∧ eightL N = zs.take 8) := by
  unfold wordF at h
  split at h
  next => simp at h; omega
  next hl =>
    simp only [Prod.mk.injEq] at h
    obtain ⟨hN, rfl, rfl⟩ := h
    refine .inr ⟨rfl, rfl, by omega, ?_⟩
    rcases zs with _ | ⟨b0, _ | ⟨b1, _ | ⟨b2, _ | ⟨b3, _ | ⟨b4, _ | ⟨b5, _ | ⟨b6, _ | ⟨b7, zs⟩⟩⟩⟩⟩⟩⟩⟩
    iterate 8 (· simp at hl)
    have r0 := hz b0 (by simp)
    have r1 := hz b1 (by simp)
    have r2 := hz b2 (by simp)
    have r3 := hz b3 (by simp)
    have r4 := hz b4 (by simp)
    have r5 := hz b5 (by simp)
    have r6 := hz b6 (by simp)
    have r7 := hz b7 (by simp)
    simp only [valF, List.take_succ_cons, List.take_zero, List.foldl_cons, List.foldl_nil] at hN ⊢
    have hv' : N = b0 * 72057594037927936 + b1 * 281474976710656 + b2 * 1099511627776 + b3 * 4294967296 + b4 * 16777216 + b5 * 65536 + b6 * 256 + b7 := by omega
    clear hN
    refine ⟨by omega, ?_⟩
    unfold eightL
    rw [show N / 72057594037927936 = b0 by omega, show N / 281474976710656 % 256 = b1 by omega, show N / 1099511627776 % 256 = b2 by omega, show N / 4294967296 % 256 = b3 by omega,
        show N / 16777216 % 256 = b4 by omega, show N / 65536 % 256 = b5 by omega, show N / 256 % 256 = b6 by omega, show N % 256 = b7 by omega]

end Go.Proofs.Ytikkmdbaekdolaa
