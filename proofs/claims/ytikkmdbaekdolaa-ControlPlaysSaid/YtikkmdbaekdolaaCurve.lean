/- the curve, plainly: it rises with the time, is the peak at its time, and begins no lower than the window was cut to. -/
import Derived.Test.YtikkmdbaekdolaaCubic
namespace Go.Proofs.Ytikkmdbaekdolaa
open Go.RowKit Go.Lib
set_option linter.unusedVariables false
set_option maxRecDepth 100000

theorem downI_mono (a b c d e : Int) (h : a ≤ c) (h' : b ≤ d) : downI a b e ≤ downI c d e := by
  unfold downI nDown
  split
  · exact Int.le_refl _
  · have h1 : a.toNat * b.toNat ≤ c.toNat * d.toNat := Nat.mul_le_mul (by omega) (by omega)
    have h2 := Nat.div_le_div_right (c := e.toNat) h1
    omega
theorem downI_le (a b d : Int) (ha : 0 ≤ a) (hb : 0 ≤ b) (hd : 0 < d) : downI a b d * d ≤ a * b := by
  obtain ⟨A, rfl⟩ := Int.eq_ofNat_of_zero_le ha
  obtain ⟨B, rfl⟩ := Int.eq_ofNat_of_zero_le hb
  obtain ⟨D, rfl⟩ := Int.eq_ofNat_of_zero_le (show 0 ≤ d by omega)
  unfold downI nDown
  simp only [Int.toNat_natCast]
  rw [if_neg (by omega)]
  have h1 := Nat.div_mul_le_self (A * B) D
  have h2 : min (A * B / D) 18446744073709551615 * D ≤ A * B / D * D := Nat.mul_le_mul_right D (by omega)
  rw [← Int.natCast_mul, ← Int.natCast_mul]
  omega
theorem curveZ_zero (k m : Int) : curveZ k k m = 0 := by
  have e : diffI k k = 0 := by unfold diffI; omega
  unfold curveZ
  rw [e]
  have z : ∀ b d : Int, d = 1000000 ∨ d = 5000000 → downI 0 b d = 0 := by
    intro b d hd
    unfold downI nDown
    rw [if_neg (by omega)]
    simp
  rw [z 0 _ (.inl rfl), z 0 _ (.inl rfl), z _ _ (.inr rfl)]
theorem curveZ_mono (k t u m : Int) (h : diffI t k ≤ diffI u k) : curveZ k t m ≤ curveZ k u m := by
  unfold curveZ
  exact downI_mono _ _ _ _ _ (downI_mono _ _ _ _ _ (downI_mono _ _ _ _ _ h h) h) (Int.le_refl _)
theorem atI_peak (p k m : Int) (hp : W64 p) : atI p k k m = p := by
  unfold atI
  rw [if_pos (Int.le_refl _), curveZ_zero]
  unfold addI W64 at *
  omega
theorem atI_rises (p k t u m : Int) (hp : W64 p) (ht : W64 t) (hu : W64 u) (hk : W64 k) (h : t ≤ u) :
    atI p k t m ≤ atI p k u m ∧ (u ≤ k → atI p k u m ≤ p) ∧ (k ≤ t → p ≤ atI p k t m) := by
  have w1 := curveZ_W k t m
  have w2 := curveZ_W k u m
  unfold W64 at *
  by_cases h1 : k ≤ t
  · have hz := curveZ_mono k t u m (by unfold diffI; omega)
    unfold atI
    rw [if_pos h1, if_pos (by omega)]
    unfold addI
    refine ⟨by omega, fun h2 => ?_, fun _ => by omega⟩
    obtain rfl : u = k := by omega
    rw [curveZ_zero]
    omega
  · by_cases h2 : k ≤ u
    · unfold atI
      rw [if_neg h1, if_pos h2]
      unfold addI subI
      refine ⟨by omega, fun h3 => ?_, fun h3 => by omega⟩
      obtain rfl : u = k := by omega
      rw [curveZ_zero]
      omega
    · have hz := curveZ_mono k u t m (by unfold diffI; omega)
      unfold atI
      rw [if_neg h1, if_neg h2]
      unfold subI
      exact ⟨by omega, fun _ => by omega, fun h3 => by omega⟩

theorem longI_cube (p c m : Int) (hp : W64 p) (hc : W64 c) (hm : 0 < m) (hm2 : W64 m) (h : c < p) : longI p c m * longI p c m * longI p c m * m ≤ (p - c) * 2500000000000000000 := by
  have hd : W64 (p - c) := by unfold W64 at *; omega
  have hk : W64 2500000000000000000 := ⟨by omega, by omega⟩
  have hh := mulHi_W (p - c) 2500000000000000000 hd hk
  have hl := mulLo_W (p - c) 2500000000000000000
  have hP := parts (p - c) 2500000000000000000
  unfold longI
  rw [if_neg (by omega)]
  generalize mulHi (p - c) 2500000000000000000 = h at *
  generalize mulLo (p - c) 2500000000000000000 = l at *
  obtain ⟨h1, h2⟩ := mod_W hh hm
  have hq := quo_W h1 hl hm2 h2
  obtain ⟨_, s, _⟩ := cubeI_spec (h / m) (divQ (h % m) l m) (div_W hh hm) hq
  refine Int.le_trans (Int.mul_le_mul_of_nonneg_right s (by omega)) ?_
  rw [← hP]
  have e1 : h / m * m + h % m = h := by have := Int.mul_ediv_add_emod h m; rw [Int.mul_comm] at this; exact this
  have e2 : divQ (h % m) l m * m ≤ h % m * 18446744073709551616 + l := by
    unfold divQ
    exact Int.ediv_mul_le _ (by omega)
  have e3 : (h / m * 18446744073709551616 + divQ (h % m) l m) * m = h / m * m * 18446744073709551616 + divQ (h % m) l m * m := by
    rw [Int.add_mul, Int.mul_right_comm]
  rw [e3]
  generalize divQ (h % m) l m * m = A at *
  generalize h / m * m = B at *
  generalize h % m = C at *
  omega

theorem curve_back (p c m : Int) (hp : W64 p) (hc : W64 c) (hm : 0 < m) (hm2 : W64 m) (h : c < p) : curveZ (longI p c m) 0 m ≤ p - c := by
  have hcube := longI_cube p c m hp hc hm hm2 h
  have k0 := (longI_W p c m).1
  generalize longI p c m = k at *
  have e : diffI 0 k = k := by unfold diffI; omega
  unfold curveZ
  rw [e]
  have x0 := (downI_W k k 1000000).1
  have hx := downI_le k k 1000000 k0 k0 (by omega)
  generalize downI k k 1000000 = x at *
  have y0 := (downI_W x k 1000000).1
  have hy := downI_le x k 1000000 x0 k0 (by omega)
  generalize downI x k 1000000 = y at *
  have hw := mulI_W 2 m ⟨by omega, by omega⟩ hm2
  have z0 := (downI_W y (mulI 2 m) 5000000).1
  have hz := downI_le y (mulI 2 m) 5000000 y0 hw.1 (by omega)
  generalize downI y (mulI 2 m) 5000000 = z at *
  have hmm : mulI 2 m ≤ 2 * m := by unfold mulI; omega
  have s1 : y * mulI 2 m ≤ y * (2 * m) := Int.mul_le_mul_of_nonneg_left hmm y0
  have s2 : y * 1000000 * (2 * m) ≤ x * k * (2 * m) := Int.mul_le_mul_of_nonneg_right hy (by omega)
  have s3 : x * 1000000 * (k * (2 * m)) ≤ k * k * (k * (2 * m)) := Int.mul_le_mul_of_nonneg_right hx (Int.mul_nonneg k0 (by omega))
  have t1 : y * 1000000 * (2 * m) = y * (2 * m) * 1000000 := Int.mul_right_comm _ _ _
  have t2 : x * 1000000 * (k * (2 * m)) = x * k * (2 * m) * 1000000 := by rw [Int.mul_right_comm, Int.mul_assoc x k]
  have t3 : k * k * (k * (2 * m)) = 2 * (k * k * k * m) := by
    rw [← Int.mul_assoc (k * k) k (2 * m), Int.mul_left_comm (k * k * k) 2 m]
  rw [t1] at s2
  rw [t2, t3] at s3
  generalize y * (2 * m) = Y at *
  generalize x * k * (2 * m) = X at *
  generalize k * k * k * m = Q at *
  omega

end Go.Proofs.Ytikkmdbaekdolaa
