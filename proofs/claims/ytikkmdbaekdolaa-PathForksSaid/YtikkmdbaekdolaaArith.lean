/- PLAIN NUMBERS UNDER bits.Div64: one digit of the school's long division in base 2^32, and the two digits together. -/
namespace Go.Proofs.Ytikkmdbaekdolaa.Ar
set_option linter.unusedVariables false
set_option maxRecDepth 100000

/-- what a round of the loop knows: q is no less than the digit, and q, r stand for u in parts of v1 -/
structure Dig (u v1 v0 u1 q r : Nat) : Prop where
  eq : q * v1 + r = u
  ge : (u * 4294967296 + u1) / (v1 * 4294967296 + v0) ≤ q
  le : q ≤ 4294967297
  rlt : r < 4294967296

theorem dig_le {u v1 v0 u1 : Nat} (hv1 : 2147483648 ≤ v1) (hv0 : v0 < 4294967296) (hu1 : u1 < 4294967296) (hu : u < v1 * 4294967296 + v0) :
    (u * 4294967296 + u1) / (v1 * 4294967296 + v0) < 4294967296 := by
  rw [Nat.div_lt_iff_lt_mul (by omega)]
  omega

/-- at first -/
theorem dig_start {u v1 v0 u1 : Nat} (hv1 : 2147483648 ≤ v1) (hv1' : v1 < 4294967296) (hv0 : v0 < 4294967296) (hu1 : u1 < 4294967296) (hu : u < v1 * 4294967296 + v0) :
    Dig u v1 v0 u1 (u / v1) (u - u / v1 * v1) := by
  have h1 : u / v1 * v1 ≤ u := Nat.div_mul_le_self u v1
  have h2 : u - u / v1 * v1 < v1 := by
    have := Nat.mod_lt u (show 0 < v1 by omega)
    have e := Nat.div_add_mod' u v1
    omega
  refine ⟨by omega, ?_, ?_, by omega⟩
  · rw [← Nat.lt_succ_iff, Nat.div_lt_iff_lt_mul (by omega)]
    have h3 : u < (u / v1 + 1) * v1 := by rw [Nat.add_mul]; omega
    have h4 : u + 1 ≤ (u / v1 + 1) * v1 := h3
    calc u * 4294967296 + u1 < (u + 1) * 4294967296 := by omega
      _ ≤ ((u / v1 + 1) * v1) * 4294967296 := Nat.mul_le_mul_right _ h4
      _ = (u / v1 + 1) * (v1 * 4294967296) := by rw [Nat.mul_assoc]
      _ ≤ (u / v1 + 1) * (v1 * 4294967296 + v0) := Nat.mul_le_mul_left _ (by omega)
  · rw [← Nat.lt_succ_iff, Nat.div_lt_iff_lt_mul (by omega)]
    omega

/-- q is too great: one less -/
theorem dig_step {u v1 v0 u1 q r : Nat} (hv1 : 2147483648 ≤ v1) (hv0 : v0 < 4294967296) (hu1 : u1 < 4294967296) (hu : u < v1 * 4294967296 + v0) (h : Dig u v1 v0 u1 q r)
    (hb : 4294967296 ≤ q ∨ 4294967296 * r + u1 < q * v0) : 1 ≤ q ∧ (q - 1) * v1 + (r + v1) = u ∧ (u * 4294967296 + u1) / (v1 * 4294967296 + v0) ≤ q - 1 ∧ q - 1 ≤ 4294967296 := by
  have hl := dig_le hv1 hv0 hu1 hu
  have hlt : (u * 4294967296 + u1) / (v1 * 4294967296 + v0) < q := by
    rcases hb with hb | hb
    · exact Nat.lt_of_lt_of_le hl hb
    · rw [Nat.div_lt_iff_lt_mul (by omega), Nat.mul_add, ← Nat.mul_assoc]
      have := h.eq
      generalize q * v1 = a at *
      generalize q * v0 = b at *
      omega
  have hq : 1 ≤ q := Nat.lt_of_le_of_lt (Nat.zero_le _) hlt
  refine ⟨hq, ?_, by omega, by have := h.le; omega⟩
  have := h.eq
  have e : q * v1 = (q - 1) * v1 + v1 := by
    obtain ⟨k, rfl⟩ : ∃ k, q = k + 1 := ⟨q - 1, by omega⟩
    rw [Nat.add_sub_cancel, Nat.succ_mul]
  omega

/-- the test says no: q is the digit -/
theorem dig_done {u v1 v0 u1 q r : Nat} (hv1 : 2147483648 ≤ v1) (h : Dig u v1 v0 u1 q r) (ht : q * v0 ≤ 4294967296 * r + u1) :
    q = (u * 4294967296 + u1) / (v1 * 4294967296 + v0) := by
  refine Nat.le_antisymm ?_ h.ge
  rw [Nat.le_div_iff_mul_le (by omega), Nat.mul_add, ← Nat.mul_assoc]
  have := h.eq
  generalize q * v1 = a at *
  generalize q * v0 = b at *
  omega

/-- the rest is too great for the test: q is the digit -/
theorem dig_broke {u v1 v0 u1 q r : Nat} (hv1 : 2147483648 ≤ v1) (hv0 : v0 < 4294967296) (he : q * v1 + r = u) (hg : (u * 4294967296 + u1) / (v1 * 4294967296 + v0) ≤ q) (hq : q ≤ 4294967296) (hr : 4294967296 ≤ r) :
    q = (u * 4294967296 + u1) / (v1 * 4294967296 + v0) := by
  refine Nat.le_antisymm ?_ hg
  rw [Nat.le_div_iff_mul_le (by omega), Nat.mul_add, ← Nat.mul_assoc]
  have hb : q * v0 ≤ 4294967296 * v0 := Nat.mul_le_mul_right _ hq
  generalize q * v1 = a at *
  generalize q * v0 = b at *
  omega

/-- what is left behind a digit is the rest, also in words that wrap -/
theorem rest_eq (a v : Nat) : a - a / v * v = a % v := by
  have := Nat.div_add_mod' a v
  omega

theorem wrap_rest (a v M : Nat) (hv : v ≤ M) (h0 : 0 < v) :
    (((a : Int) % (M : Int) - ((a / v * v : Nat) : Int) % (M : Int)) % (M : Int)) = ((a % v : Nat) : Int) := by
  rw [← Int.sub_emod]
  have e : (a : Int) - ((a / v * v : Nat) : Int) = ((a % v : Nat) : Int) := by
    have := Nat.div_add_mod' a v
    omega
  rw [e]
  have := Nat.mod_lt a h0
  rw [Int.emod_eq_of_lt (by omega) (by omega)]

/-- two digits -/
theorem two_digits (a u0 v : Nat) (h0 : 0 < v) :
    (a / v * 4294967296 + (a % v * 4294967296 + u0) / v) = (a * 4294967296 + u0) / v ∧
    (a % v * 4294967296 + u0) % v = (a * 4294967296 + u0) % v := by
  have e : a * 4294967296 + u0 = (a % v * 4294967296 + u0) + v * (a / v * 4294967296) := by
    have h := Nat.div_add_mod a v
    have : a * 4294967296 = (v * (a / v) + a % v) * 4294967296 := by rw [h]
    rw [this, Nat.add_mul, Nat.mul_assoc]
    omega
  rw [e]
  constructor
  · rw [Nat.add_mul_div_left _ _ h0]
    exact Nat.add_comm _ _
  · rw [Nat.add_mul_mod_self_left]

/-- both made greater alike -/
theorem scaled (n y s : Nat) : n * 2 ^ s / (y * 2 ^ s) = n / y ∧ n * 2 ^ s % (y * 2 ^ s) / 2 ^ s = n % y := by
  constructor
  · rw [Nat.mul_div_mul_right _ _ (Nat.pow_pos (by omega))]
  · rw [Nat.mul_mod_mul_right, Nat.mul_div_cancel _ (Nat.pow_pos (by omega))]

/-- the two words, made greater: the upper one below the divisor, and both together what they were -/
theorem norm_hi (hi lo y s : Nat) (hy : hi < y) (hlo : lo < 18446744073709551616) (hv' : y * 2 ^ s < 18446744073709551616) (hpp : 2 ^ (64 - s) * 2 ^ s = 18446744073709551616) (hp : 0 < 2 ^ s) :
    hi * 2 ^ s + lo / 2 ^ (64 - s) < y * 2 ^ s ∧ lo / 2 ^ (64 - s) < 2 ^ s ∧
    (hi * 2 ^ s + lo / 2 ^ (64 - s)) * 18446744073709551616 + lo * 2 ^ s % 18446744073709551616 = (hi * 18446744073709551616 + lo) * 2 ^ s := by
  have h1 : lo / 2 ^ (64 - s) < 2 ^ s := by
    rw [Nat.div_lt_iff_lt_mul (Nat.pow_pos (by omega)), Nat.mul_comm, hpp]
    exact hlo
  have h2 : (hi + 1) * 2 ^ s ≤ y * 2 ^ s := Nat.mul_le_mul_right _ hy
  rw [Nat.add_mul, Nat.one_mul] at h2
  refine ⟨by omega, h1, ?_⟩
  have h3 := Nat.div_add_mod (lo * 2 ^ s) 18446744073709551616
  have h4 : lo * 2 ^ s / 18446744073709551616 = lo / 2 ^ (64 - s) := by
    rw [← hpp, Nat.mul_div_mul_right _ _ hp]
  rw [h4] at h3
  have h5 : hi * 18446744073709551616 * 2 ^ s = hi * 2 ^ s * 18446744073709551616 := by rw [Nat.mul_right_comm]
  rw [Nat.add_mul, Nat.add_mul, h5]
  omega

/-- all the numbers of the long division, under names -/
structure Knuth (hi lo y s V1 V0 U U1 U0 D1 X D2 R : Nat) : Prop where
  hV : y * 2 ^ s = V1 * 4294967296 + V0
  bV1 : 2147483648 ≤ V1
  bV1' : V1 < 4294967296
  bV0 : V0 < 4294967296
  hU : hi * 2 ^ s + lo / 2 ^ (64 - s) = U
  hL : lo * 2 ^ s % 18446744073709551616 = U1 * 4294967296 + U0
  bU1 : U1 < 4294967296
  bU0 : U0 < 4294967296
  ltU : U < V1 * 4294967296 + V0
  hD1 : D1 = (U * 4294967296 + U1) / (V1 * 4294967296 + V0)
  e1 : D1 * (V1 * 4294967296 + V0) + X = U * 4294967296 + U1
  ltX : X < V1 * 4294967296 + V0
  hD2 : D2 = (X * 4294967296 + U0) / (V1 * 4294967296 + V0)
  e2 : D2 * (V1 * 4294967296 + V0) + R = X * 4294967296 + U0
  ltR : R < V1 * 4294967296 + V0
  hA : (hi * 18446744073709551616 + lo) / y = D1 * 4294967296 + D2
  hR : (hi * 18446744073709551616 + lo) % y = R / 2 ^ s
  bA : D1 * 4294967296 + D2 < 18446744073709551616

theorem halves (n : Nat) (h : n < 18446744073709551616) : ∃ a b, n = a * 4294967296 + b ∧ a < 4294967296 ∧ b < 4294967296 :=
  ⟨n / 4294967296, n % 4294967296, by omega, by omega, by omega⟩
theorem regroup (u u1 u0 : Nat) : u * 18446744073709551616 + (u1 * 4294967296 + u0) = (u * 4294967296 + u1) * 4294967296 + u0 := by omega

theorem knuth (hi lo y s : Nat) (hy : hi < y) (hlo : lo < 18446744073709551616) (hs : s < 64) (hv : 9223372036854775808 ≤ y * 2 ^ s) (hv' : y * 2 ^ s < 18446744073709551616) :
    ∃ V1 V0 U U1 U0 D1 X D2 R, Knuth hi lo y s V1 V0 U U1 U0 D1 X D2 R := by
  have hp : 0 < 2 ^ s := Nat.pow_pos (by omega)
  have hpp : 2 ^ (64 - s) * 2 ^ s = 18446744073709551616 := by
    rw [← Nat.pow_add, show 64 - s + s = 64 by omega]
  obtain ⟨b1, b2, b3⟩ := norm_hi hi lo y s hy hlo hv' hpp hp
  have a2 := scaled (hi * 18446744073709551616 + lo) y s
  have hAt : (hi * 18446744073709551616 + lo) / y < 18446744073709551616 := by
    rw [Nat.div_lt_iff_lt_mul (by omega)]
    omega
  obtain ⟨V1, V0, eV, bV1', bV0⟩ := halves (y * 2 ^ s) hv'
  obtain ⟨U1, U0, eL, bU1, bU0⟩ := halves (lo * 2 ^ s % 18446744073709551616) (Nat.mod_lt _ (by decide))
  rw [← a2.1] at hAt
  rw [← b3, eV, eL, regroup] at a2 hAt
  rw [eV] at b1 hv
  have bV1 : 2147483648 ≤ V1 := by omega
  have h0 : 0 < V1 * 4294967296 + V0 := by omega
  have t2 := two_digits ((hi * 2 ^ s + lo / 2 ^ (64 - s)) * 4294967296 + U1) U0 (V1 * 4294967296 + V0) h0
  rw [← t2.1] at a2 hAt
  rw [← t2.2] at a2
  exact ⟨V1, V0, _, U1, U0, _, _, _, _, ⟨eV, bV1, bV1', bV0, rfl, eL, bU1, bU0, b1, rfl, Nat.div_add_mod' _ _, Nat.mod_lt _ h0, rfl, Nat.div_add_mod' _ _, Nat.mod_lt _ h0, a2.1.symm, a2.2.symm, hAt⟩⟩

end Go.Proofs.Ytikkmdbaekdolaa.Ar
