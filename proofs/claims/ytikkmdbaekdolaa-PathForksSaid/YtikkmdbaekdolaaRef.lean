/- the reference's wide numbers: Times, Div, Down, Up, Add, Mul. -/
import Derived.Test.YtikkmdbaekdolaaWide
import Derived.Test.YtikkmdbaekdolaaGr
import Derived.LoopTactic
namespace Go.Proofs.Ytikkmdbaekdolaa
open Go.RowKit Go.Lib
set_option linter.unusedVariables false
set_option maxRecDepth 100000
set_option maxRecDepth 100000

/-- bit by bit: what has been gathered behind the bits from k on -/
def TI (a b : Int) (k : Nat) (h l : Int) : Prop :=
  ∃ A B H L : Nat, a = A ∧ b = B ∧ h = H ∧ l = L ∧ A < 18446744073709551616 ∧ B < 18446744073709551616 ∧ H < 18446744073709551616 ∧ L < 18446744073709551616 ∧ H * 18446744073709551616 + L = A * (B / 2 ^ k)

theorem half_pow (B k : Nat) (hk : 1 ≤ k) : B / 2 ^ (k - 1) = 2 * (B / 2 ^ k) + B / 2 ^ (k - 1) % 2 := by
  obtain ⟨j, rfl⟩ : ∃ j, k = j + 1 := ⟨k - 1, by omega⟩
  rw [Nat.add_sub_cancel, Nat.pow_succ, ← Nat.div_div_eq_div_mul]
  omega

theorem bit_test (b : Int) (hb : W64 b) (k : Nat) : ∃ B : Nat, b = B ∧ B < 18446744073709551616 ∧ bits .and .u64 (b / 2 ^ k) 1 = ((B / 2 ^ k % 2 : Nat) : Int) := by
  obtain ⟨B, rfl, hB⟩ := hb.nat
  refine ⟨B, rfl, hB, ?_⟩
  have e : ((B : Int) / 2 ^ k) = ((B / 2 ^ k : Nat) : Int) := by rw [Int.natCast_ediv, Int.natCast_pow]; rfl
  have h := bits_and_u64_nat (B / 2 ^ k) 1 (Nat.lt_of_le_of_lt (Nat.div_le_self _ _) hB) (by omega)
  rw [e]
  rw [Nat.and_one_is_mod] at h
  exact h

theorem TI.a1 (H L : Nat) : (H * 2 + L / 9223372036854775808) * 18446744073709551616 + L * 2 % 18446744073709551616 = 2 * (H * 18446744073709551616 + L) := by omega
theorem TI.a2 (H L A : Nat) (hL : 18446744073709551616 ≤ L + A) : (H + 1) * 18446744073709551616 + (L + A - 18446744073709551616) = H * 18446744073709551616 + L + A := by omega

theorem TI.double {a b : Int} {k : Nat} {h l : Int} (t : TI a b k h l) (hk : 1 ≤ k) :
    ∃ A B H L : Nat, a = A ∧ b = B ∧ A < 18446744073709551616 ∧ B < 18446744073709551616 ∧ H < 18446744073709551616 ∧ L < 18446744073709551616 ∧
      bits .or .u64 (IntKind.u64.wrap (h * 2)) (l / 9223372036854775808) = (H : Int) ∧ IntKind.u64.wrap (l * 2) = (L : Int) ∧ H * 18446744073709551616 + L = A * (2 * (B / 2 ^ k)) ∧
      A * (2 * (B / 2 ^ k)) + A * (B / 2 ^ (k - 1) % 2) = A * (B / 2 ^ (k - 1)) ∧ A * (B / 2 ^ (k - 1)) < 18446744073709551616 * 18446744073709551616 ∧
      (bits .and .u64 (b / 2 ^ (k - 1)) 1 == 1) = decide (B / 2 ^ (k - 1) % 2 = 1) := by
  obtain ⟨A, B, H, L, rfl, rfl, rfl, rfl, hA, hB, hH, hL, e⟩ := t
  have hp := half_pow B k hk
  have hm : A * (B / 2 ^ (k - 1)) ≤ 18446744073709551615 * 18446744073709551615 := Nat.mul_le_mul (by omega) (Nat.le_trans (Nat.div_le_self _ _) (by omega))
  have hs : A * (2 * (B / 2 ^ k)) + A * (B / 2 ^ (k - 1) % 2) = A * (B / 2 ^ (k - 1)) := by rw [← Nat.mul_add, ← hp]
  have hd : A * (2 * (B / 2 ^ k)) = 2 * (A * (B / 2 ^ k)) := by rw [Nat.mul_left_comm]
  obtain ⟨B', hB', hlt, hbt⟩ := bit_test (B : Int) (W64.of hB) (k - 1)
  obtain rfl : B = B' := by omega
  have hH2 : H * 2 < 18446744073709551616 := by
    generalize A * (B / 2 ^ (k - 1)) = p at *
    generalize A * (B / 2 ^ (k - 1) % 2) = p2 at *
    generalize A * (B / 2 ^ k) = p3 at *
    omega
  refine ⟨A, B, H * 2 + L / 9223372036854775808, L * 2 % 18446744073709551616, rfl, rfl, hA, hB, by omega, by omega, ?_, ?_, ?_, hs, by omega, ?_⟩
  · have e1 : ((H : Int) * 2) = ((H * 2 : Nat) : Int) := by omega
    have e2 : ((L : Int) / 9223372036854775808) = ((L / 9223372036854775808 : Nat) : Int) := by omega
    rw [e1, e2, Num.wrapN _ hH2, bits_or_u64_nat _ _ hH2 (by omega)]
    congr 1
    have := Nat.two_pow_add_eq_or_of_lt (i := 1) (b := L / 9223372036854775808) (by omega) H
    rw [Nat.mul_comm H 2]
    exact this.symm
  · have e1 : ((L : Int) * 2) = ((L * 2 : Nat) : Int) := by omega
    rw [e1, Num.wrapM]
  · rw [hd, ← e]
    exact TI.a1 H L
  · rw [hbt]
    have := Nat.mod_two_eq_zero_or_one (B / 2 ^ (k - 1))
    rcases this with h | h <;> rw [h] <;> rfl

theorem TI.no {a b : Int} {k : Nat} {h l : Int} (t : TI a b k h l) (hk : 1 ≤ k) (hb : (bits .and .u64 (b / 2 ^ (k - 1)) 1 == 1) = false) :
    TI a b (k - 1) (bits .or .u64 (IntKind.u64.wrap (h * 2)) (l / 9223372036854775808)) (IntKind.u64.wrap (l * 2)) := by
  obtain ⟨A, B, H, L, rfl, rfl, hA, hB, hH, hL, e1, e2, e3, e4, e5, e6⟩ := t.double hk
  rw [hb] at e6
  have hz : B / 2 ^ (k - 1) % 2 = 0 := by
    have h1 := of_decide_eq_false e6.symm
    omega
  rw [hz, Nat.mul_zero, Nat.add_zero] at e4
  exact ⟨A, B, H, L, rfl, rfl, e1, e2, hA, hB, hH, hL, by rw [← e4]; exact e3⟩

theorem TI.yes {a b : Int} {k : Nat} {h l : Int} (t : TI a b k h l) (hk : 1 ≤ k) (hb : (bits .and .u64 (b / 2 ^ (k - 1)) 1 == 1) = true) (hc : a ≤ IntKind.u64.wrap (IntKind.u64.wrap (l * 2) + a)) :
    TI a b (k - 1) (bits .or .u64 (IntKind.u64.wrap (h * 2)) (l / 9223372036854775808)) (IntKind.u64.wrap (IntKind.u64.wrap (l * 2) + a)) := by
  obtain ⟨A, B, H, L, rfl, rfl, hA, hB, hH, hL, e1, e2, e3, e4, e5, e6⟩ := t.double hk
  rw [hb] at e6
  rw [of_decide_eq_true e6.symm, Nat.mul_one] at e4
  rw [e2, Num.addN, Num.wrapM] at hc ⊢
  have hs : L + A < 18446744073709551616 := by omega
  rw [Nat.mod_eq_of_lt hs]
  exact ⟨A, B, H, L + A, rfl, rfl, e1, rfl, hA, hB, hH, hs, by rw [← e4, ← e3]; omega⟩

theorem TI.carry {a b : Int} {k : Nat} {h l : Int} (t : TI a b k h l) (hk : 1 ≤ k) (hb : (bits .and .u64 (b / 2 ^ (k - 1)) 1 == 1) = true) (hc : IntKind.u64.wrap (IntKind.u64.wrap (l * 2) + a) < a) :
    TI a b (k - 1) (IntKind.u64.wrap (bits .or .u64 (IntKind.u64.wrap (h * 2)) (l / 9223372036854775808) + 1)) (IntKind.u64.wrap (IntKind.u64.wrap (l * 2) + a)) := by
  obtain ⟨A, B, H, L, rfl, rfl, hA, hB, hH, hL, e1, e2, e3, e4, e5, e6⟩ := t.double hk
  rw [hb] at e6
  rw [of_decide_eq_true e6.symm, Nat.mul_one] at e4
  rw [e2, Num.addN, Num.wrapM] at hc ⊢
  rw [e1]
  have hs : 18446744073709551616 ≤ L + A := by omega
  have hm : (L + A) % 18446744073709551616 = L + A - 18446744073709551616 := by omega
  rw [hm]
  rw [← e4, ← e3] at e5
  have hH1 : H + 1 < 18446744073709551616 := by omega
  have e7 : ((H : Int) + 1) = ((H + 1 : Nat) : Int) := by omega
  rw [e7, Num.wrapN _ hH1]
  exact ⟨A, B, H + 1, L + A - 18446744073709551616, rfl, rfl, rfl, rfl, hA, hB, hH1, by omega, by rw [← e4, ← e3]; exact TI.a2 H L A hs⟩

theorem TI.start {a b : Int} (ha : W64 a) (hb : W64 b) : TI a b 64 0 0 := by
  obtain ⟨A, rfl, hA⟩ := ha.nat
  obtain ⟨B, rfl, hB⟩ := hb.nat
  refine ⟨A, B, 0, 0, rfl, rfl, rfl, rfl, hA, hB, by omega, by omega, ?_⟩
  rw [Nat.div_eq_of_lt (by omega), Nat.mul_zero]
theorem TI.done {a b h l : Int} (t : TI a b 0 h l) : h = mulHi a b ∧ l = mulLo a b := by
  obtain ⟨A, B, H, L, rfl, rfl, rfl, rfl, hA, hB, hH, hL, e⟩ := t
  rw [Nat.pow_zero, Nat.div_one] at e
  have e1 := castHi A B
  have e2 := castLo A B
  rw [← e1, ← e2, ← e]
  omega

set_option maxHeartbeats 1000000 in
set_option maxRecDepth 100000 in
theorem rTimesG (a b : Int) (ha : W64 a) (hb : W64 b) (w : World) :
    Calls Try.prog 132 #[.int .u64 a, .int .u64 b] w fun e w' => e = .returned (.agg #[.int .u64 (mulHi a b), .int .u64 (mulLo a b)]) ∧ Gr w w' := by
  have hs := Lib.hid (TI.start ha hb)
  clear ha hb
  go_enter Try.func132, Try.ntmps132
  go_wp2
  go_loopw [6] (fun i wr => ∃ k : Nat, ∃ h l : Int, k ≤ 64 ∧ Hid (TI a b k h l) ∧ i = .int .i64 ((k : Int) - 1) ∧ wr = (w.alloc (.cells #[.int .u64 0, .int .u64 0] 180)).alloc (.cells #[.int .u64 h, .int .u64 l] 180)) (fun i _ => (intOf i + 1).toNat)
  case atStart => exact ⟨64, 0, 0, by omega, hs.out, rfl, rfl⟩
  case round =>
    obtain ⟨k, h, l, hk, ht, rfl, rfl⟩ := hrel
    by_cases h0 : 1 ≤ k
    · go_wp2
      all_goals
        go_roundw
        case rel => exact ⟨k - 1, _, _, by omega, by first | exact ht.out.carry h0 ‹_› ‹_› | exact ht.out.yes h0 ‹_› ‹_› | exact ht.out.no h0 ‹_›, by congr 1; omega, rfl⟩
        case measure => simp only [intOf]; omega
    · obtain rfl : k = 0 := by omega
      obtain ⟨rfl, rfl⟩ := ht.out.done
      go_wp2
      refine bodyPost_ret (v := .agg #[.int .u64 (mulHi a b), .int .u64 (mulLo a b)]) (by simp [results, Try.results132, go_sem]) rfl ⟨rfl, ?_⟩
      exact ((Gr.refl _).alloc _).alloc _

theorem rTimes (a b : Int) (ha : W64 a) (hb : W64 b) (w : World) :
    Calls Try.prog 132 #[.int .u64 a, .int .u64 b] w fun e w' => e = .returned (.agg #[.int .u64 (mulHi a b), .int .u64 (mulLo a b)]) ∧ Below w.heap.size w w' :=
  (rTimesG a b ha hb w).mono fun _ _ h => ⟨h.1, h.2.below⟩

theorem rDivNo (hi lo d : Int) (h : d ≤ hi) (w : World) :
    Calls Try.prog 133 #[.int .u64 hi, .int .u64 lo, .int .u64 d] w fun e w' => e = .returned (.tuple #[.int .u64 0, .int .u64 0, .bool false]) ∧ w = w' := by
  go_enter Try.func133, Try.ntmps133
  go_wp2
  go_ret3
  exact ⟨rfl, rfl⟩

/-- the long division, bit by bit -/
def DI (hi lo d : Int) (k : Nat) (q r : Int) : Prop :=
  ∃ Y D Q R H : Nat, hi = H ∧ lo = Y ∧ d = D ∧ q = Q ∧ r = R ∧ Y < 18446744073709551616 ∧ D < 18446744073709551616 ∧ H < D ∧ R < D ∧ Q * D + R = (H * 18446744073709551616 + Y) / 2 ^ k

theorem dividend_bit (H Y j : Nat) (hj : j ≤ 63) : (H * 18446744073709551616 + Y) / 2 ^ j % 2 = Y / 2 ^ j % 2 := by
  have e : H * 18446744073709551616 = 2 ^ j * (H * 2 ^ (64 - j)) := by
    rw [Nat.mul_left_comm, ← Nat.pow_add, show j + (64 - j) = 64 by omega]
  rw [e, Nat.mul_add_div (Nat.pow_pos (by omega))]
  have e2 : H * 2 ^ (64 - j) = 2 * (H * 2 ^ (63 - j)) := by
    rw [show 64 - j = 63 - j + 1 by omega, Nat.pow_succ, ← Nat.mul_assoc, Nat.mul_comm]
  rw [e2]
  omega

theorem DI.a1 (R b : Nat) (hb : b < 2) : R * 2 % 18446744073709551616 ||| b = R * 2 % 18446744073709551616 + b := by
  have := Nat.two_pow_add_eq_or_of_lt (i := 1) (b := b) hb (R * 2 % 18446744073709551616 / 2)
  have e : 2 ^ 1 * (R * 2 % 18446744073709551616 / 2) = R * 2 % 18446744073709551616 := by omega
  rw [e] at this
  exact this.symm
theorem DI.a2 (Q : Nat) : Q * 2 ||| 1 = Q * 2 + 1 := by
  have := Nat.two_pow_add_eq_or_of_lt (i := 1) (b := 1) (by omega) Q
  rw [Nat.mul_comm Q 2]
  exact this.symm
theorem DI.a3 (Q D R b N : Nat) (h : Q * D + R = N) : Q * 2 * D + (R * 2 + b) = 2 * N + b := by
  rw [Nat.mul_right_comm]
  omega
theorem DI.a4 (Q D R b N : Nat) (h : Q * D + R = N) (hd : D ≤ R * 2 + b) : (Q * 2 + 1) * D + (R * 2 + b - D) = 2 * N + b := by
  rw [Nat.add_mul, Nat.one_mul, Nat.mul_right_comm]
  omega
theorem DI.a5 (Q D H Y P : Nat) (hD : H < D) (hY : Y < 18446744073709551616) (hP : P ≤ H * 18446744073709551616 + Y) (hq : Q * 2 * D ≤ P) : Q * 2 + 1 < 18446744073709551616 := by
  have h1 : (H + 1) * 18446744073709551616 ≤ D * 18446744073709551616 := Nat.mul_le_mul_right _ hD
  have h2 : Q * 2 * D < 18446744073709551616 * D := by
    rw [Nat.mul_comm 18446744073709551616 D]
    omega
  have h3 := Nat.lt_of_mul_lt_mul_right h2
  omega

theorem DI.step {hi lo d : Int} {k : Nat} {q r : Int} (t : DI hi lo d k q r) (hk : 1 ≤ k) (hk' : k ≤ 64) :
    ∃ Y D Q R H b : Nat, hi = H ∧ lo = Y ∧ d = D ∧ q = Q ∧ r = R ∧ Y < 18446744073709551616 ∧ D < 18446744073709551616 ∧ H < D ∧ R < D ∧ b < 2 ∧
      bits .or .u64 (IntKind.u64.wrap (r * 2)) (bits .and .u64 (lo / 2 ^ (k - 1)) 1) = ((R * 2 % 18446744073709551616 + b : Nat) : Int) ∧
      IntKind.u64.wrap (q * 2) = ((Q * 2 : Nat) : Int) ∧ bits .or .u64 (IntKind.u64.wrap (q * 2)) 1 = ((Q * 2 + 1 : Nat) : Int) ∧
      Q * D + R = (H * 18446744073709551616 + Y) / 2 ^ k ∧ (H * 18446744073709551616 + Y) / 2 ^ (k - 1) = 2 * ((H * 18446744073709551616 + Y) / 2 ^ k) + b := by
  obtain ⟨Y, D, Q, R, H, rfl, rfl, rfl, rfl, rfl, hY, hD, hH, hR, e⟩ := t
  have hp := half_pow (H * 18446744073709551616 + Y) k hk
  rw [dividend_bit H Y (k - 1) (by omega)] at hp
  obtain ⟨Y', hY', hlt, hbt⟩ := bit_test (Y : Int) (W64.of hY) (k - 1)
  obtain rfl : Y = Y' := by omega
  have hb : Y / 2 ^ (k - 1) % 2 < 2 := Nat.mod_lt _ (by omega)
  have hP : (H * 18446744073709551616 + Y) / 2 ^ (k - 1) ≤ H * 18446744073709551616 + Y := Nat.div_le_self _ _
  have h3 := DI.a3 Q D R (Y / 2 ^ (k - 1) % 2) _ e
  have hQ : Q * 2 + 1 < 18446744073709551616 := by
    refine DI.a5 Q D H Y _ hH hY hP ?_
    rw [hp, ← h3]
    exact Nat.le_add_right _ _
  have e1 : ((Q : Int) * 2) = ((Q * 2 : Nat) : Int) := by omega
  have e2 : ((R : Int) * 2) = ((R * 2 : Nat) : Int) := by omega
  refine ⟨Y, D, Q, R, H, Y / 2 ^ (k - 1) % 2, rfl, rfl, rfl, rfl, rfl, hY, hD, hH, hR, hb, ?_, ?_, ?_, e, hp⟩
  · rw [hbt, e2, Num.wrapM, bits_or_u64_nat _ _ (Nat.mod_lt _ (by decide)) (Nat.lt_trans hb (by decide)), DI.a1 R _ hb]
  · rw [e1, Num.wrapN _ (by omega)]
  · have h := bits_or_u64_nat (Q * 2) 1 (by omega) (by omega)
    rw [e1, Num.wrapN _ (by omega)]
    rw [DI.a2] at h
    exact h

theorem DI.over {hi lo d : Int} {k : Nat} {q r : Int} (t : DI hi lo d k q r) (hk : 1 ≤ k) (hk' : k ≤ 64) (ho : r / 9223372036854775808 = 1) :
    DI hi lo d (k - 1) (bits .or .u64 (IntKind.u64.wrap (q * 2)) 1) (IntKind.u64.wrap (bits .or .u64 (IntKind.u64.wrap (r * 2)) (bits .and .u64 (lo / 2 ^ (k - 1)) 1) - d)) := by
  obtain ⟨Y, D, Q, R, H, b, rfl, rfl, rfl, rfl, rfl, hY, hD, hH, hR, hb, e1, e2, e3, e4, e5⟩ := t.step hk hk'
  have hd : D ≤ R * 2 + b := by omega
  have h4 := DI.a4 Q D R b _ e4 hd
  rw [e1, e3]
  have e6 : IntKind.u64.wrap (((R * 2 % 18446744073709551616 + b : Nat) : Int) - (D : Int)) = ((R * 2 + b - D : Nat) : Int) := by
    rw [IntKind.wrap_u64]
    clear e1 e2 e3 e4 e5 h4
    omega
  rw [e6]
  exact ⟨Y, D, Q * 2 + 1, R * 2 + b - D, H, rfl, rfl, rfl, rfl, rfl, hY, hD, hH, by omega, by rw [h4, e5]⟩

theorem DI.ge {hi lo d : Int} {k : Nat} {q r : Int} (t : DI hi lo d k q r) (hk : 1 ≤ k) (hk' : k ≤ 64) (ho : ¬ r / 9223372036854775808 = 1)
    (hc : (r / 9223372036854775808 == 1) = true ∨ d ≤ bits .or .u64 (IntKind.u64.wrap (r * 2)) (bits .and .u64 (lo / 2 ^ (k - 1)) 1)) :
    DI hi lo d (k - 1) (bits .or .u64 (IntKind.u64.wrap (q * 2)) 1) (IntKind.u64.wrap (bits .or .u64 (IntKind.u64.wrap (r * 2)) (bits .and .u64 (lo / 2 ^ (k - 1)) 1) - d)) := by
  obtain ⟨Y, D, Q, R, H, b, rfl, rfl, rfl, rfl, rfl, hY, hD, hH, hR, hb, e1, e2, e3, e4, e5⟩ := t.step hk hk'
  rw [e1] at hc ⊢
  have hm : R * 2 % 18446744073709551616 = R * 2 := by
    clear e1 e2 e3 e4 e5 hc
    omega
  rw [hm] at hc ⊢
  have hd : D ≤ R * 2 + b := by
    rcases hc with h | h
    · rw [beq_iff_eq] at h
      exact absurd h ho
    · clear e1 e2 e3 e4 e5
      omega
  have h4 := DI.a4 Q D R b _ e4 hd
  rw [e3]
  have e6 : IntKind.u64.wrap (((R * 2 + b : Nat) : Int) - (D : Int)) = ((R * 2 + b - D : Nat) : Int) := by
    rw [IntKind.wrap_u64]
    clear e1 e2 e3 e4 e5 h4
    omega
  rw [e6]
  exact ⟨Y, D, Q * 2 + 1, R * 2 + b - D, H, rfl, rfl, rfl, rfl, rfl, hY, hD, hH, by omega, by rw [h4, e5]⟩

theorem DI.lt {hi lo d : Int} {k : Nat} {q r : Int} (t : DI hi lo d k q r) (hk : 1 ≤ k) (hk' : k ≤ 64) (ho : ¬ r / 9223372036854775808 = 1)
    (hc : (r / 9223372036854775808 == 1) = false ∧ bits .or .u64 (IntKind.u64.wrap (r * 2)) (bits .and .u64 (lo / 2 ^ (k - 1)) 1) < d) :
    DI hi lo d (k - 1) (IntKind.u64.wrap (q * 2)) (bits .or .u64 (IntKind.u64.wrap (r * 2)) (bits .and .u64 (lo / 2 ^ (k - 1)) 1)) := by
  obtain ⟨Y, D, Q, R, H, b, rfl, rfl, rfl, rfl, rfl, hY, hD, hH, hR, hb, e1, e2, e3, e4, e5⟩ := t.step hk hk'
  rw [e1] at hc ⊢
  have hm : R * 2 % 18446744073709551616 = R * 2 := by
    clear e1 e2 e3 e4 e5 hc
    omega
  rw [hm] at hc ⊢
  have h3 := DI.a3 Q D R b _ e4
  rw [e2]
  exact ⟨Y, D, Q * 2, R * 2 + b, H, rfl, rfl, rfl, rfl, rfl, hY, hD, hH, by have := hc.2; omega, by rw [h3, e5]⟩

theorem DI.start {hi lo d : Int} (hh : W64 hi) (hl : W64 lo) (hd : W64 d) (hlt : hi < d) : DI hi lo d 64 0 hi := by
  obtain ⟨H, rfl, hH⟩ := hh.nat
  obtain ⟨Y, rfl, hY⟩ := hl.nat
  obtain ⟨D, rfl, hD⟩ := hd.nat
  refine ⟨Y, D, 0, H, H, rfl, rfl, rfl, rfl, rfl, hY, hD, by omega, by omega, ?_⟩
  omega
theorem DI.done {hi lo d q r : Int} (t : DI hi lo d 0 q r) : q = divQ hi lo d ∧ r = divR hi lo d := by
  obtain ⟨Y, D, Q, R, H, rfl, rfl, rfl, rfl, rfl, hY, hD, hH, hR, e⟩ := t
  rw [Nat.pow_zero, Nat.div_one] at e
  have e1 := castQ H Y D
  have e2 := castR H Y D
  rw [← e1, ← e2, ← e, Nat.mul_comm Q D, Nat.mul_add_div (by omega), Nat.mul_add_mod, Nat.div_eq_of_lt hR, Nat.mod_eq_of_lt hR]
  exact ⟨rfl, rfl⟩

set_option maxHeartbeats 1000000 in
theorem rDivYes (hi lo d : Int) (hh : W64 hi) (hl : W64 lo) (hd : W64 d) (hlt : hi < d) (w : World) :
    Calls Try.prog 133 #[.int .u64 hi, .int .u64 lo, .int .u64 d] w fun e w' => e = .returned (.tuple #[.int .u64 (divQ hi lo d), .int .u64 (divR hi lo d), .bool true]) ∧ w = w' := by
  have hs := Lib.hid (DI.start hh hl hd hlt)
  clear hh hl hd
  go_enter Try.func133, Try.ntmps133
  go_wp2
  go_loop [9, 10, 11] (fun q r i => ∃ k : Nat, ∃ qi ri : Int, k ≤ 64 ∧ Hid (DI hi lo d k qi ri) ∧ i = .int .i64 ((k : Int) - 1) ∧ q = .int .u64 qi ∧ r = .int .u64 ri) (fun _ _ i => (intOf i + 1).toNat)
  case atStart => exact ⟨64, 0, hi, by omega, hs.out, rfl, rfl, rfl⟩
  case round =>
    obtain ⟨k, q, r, hk, ht, rfl, rfl, rfl⟩ := hrel
    by_cases h0 : 1 ≤ k
    · go_wp2
      all_goals
        go_round
        case rel => exact ⟨k - 1, _, _, by omega, by first | exact ht.out.over h0 hk ‹_› | exact ht.out.ge h0 hk ‹_› ‹_› | exact ht.out.lt h0 hk ‹_› ‹_›, by congr 1; omega, rfl, rfl⟩
        case measure => simp only [intOf]; omega
    · obtain rfl : k = 0 := by omega
      have hq := Lib.hid ht.out.done.1
      have hr := Lib.hid ht.out.done.2
      go_wp2
      go_ret3
      exact ⟨ret_iib hq.out hr.out, rfl⟩

/-- sums, differences, products that do not wrap -/
def addI (a b : Int) : Int := min (a + b) 18446744073709551615
def subI (a b : Int) : Int := max (a - b) 0
def mulI (a b : Int) : Int := min (a * b) 18446744073709551615
theorem addI_W (a b : Int) (ha : W64 a) (hb : W64 b) : W64 (addI a b) := by
  unfold W64 addI at *
  omega
theorem subI_W (a b : Int) (ha : W64 a) (hb : W64 b) : W64 (subI a b) := by
  unfold W64 subI at *
  omega
theorem mulI_W (a b : Int) (ha : W64 a) (hb : W64 b) : W64 (mulI a b) := by
  have := Int.mul_nonneg ha.1 hb.1
  unfold W64 mulI at *
  omega

theorem rAdd (a b : Int) (ha : W64 a) (hb : W64 b) (w : World) :
    Calls Try.prog 68 #[.int .u64 a, .int .u64 b] w fun e w' => e = .returned (.int .u64 (addI a b)) ∧ w = w' := by
  obtain ⟨a0, a1⟩ := ha
  obtain ⟨b0, b1⟩ := hb
  by_cases h : 18446744073709551615 - b < a
  · have He : Hid (18446744073709551615 = addI a b) := by show _ = _; unfold addI; omega
    go_enter Try.func68, Try.ntmps68
    go_wp2
    go_ret
    exact ⟨ret_int He.out, rfl⟩
  · have He : Hid (a + b = addI a b) := by show _ = _; unfold addI; omega
    have hs : a + b ≤ 18446744073709551615 := by omega
    go_enter Try.func68, Try.ntmps68
    go_wp2
    go_ret
    exact ⟨ret_int He.out, rfl⟩

theorem rSub (a b : Int) (ha : W64 a) (hb : W64 b) (w : World) :
    Calls Try.prog 91 #[.int .u64 a, .int .u64 b] w fun e w' => e = .returned (.int .u64 (subI a b)) ∧ w = w' := by
  obtain ⟨a0, a1⟩ := ha
  obtain ⟨b0, b1⟩ := hb
  by_cases h : a < b
  · have He : Hid (0 = subI a b) := by show _ = _; unfold subI; omega
    go_enter Try.func91, Try.ntmps91
    go_wp2
    go_ret
    exact ⟨ret_int He.out, rfl⟩
  · have He : Hid (a - b = subI a b) := by show _ = _; unfold subI; omega
    go_enter Try.func91, Try.ntmps91
    go_wp2
    go_ret
    exact ⟨ret_int He.out, rfl⟩

theorem mul_cmp (a b : Int) (ha : W64 a) (hb : W64 b) (h0 : 0 < a) : 18446744073709551615 / a < b ↔ 18446744073709551615 < a * b := by
  constructor
  · intro h
    have h1 := Int.lt_mul_of_ediv_lt h0 h
    rw [Int.mul_comm]
    exact h1
  · intro h
    rw [Int.ediv_lt_iff_lt_mul h0, Int.mul_comm]
    exact h

set_option maxHeartbeats 400000 in
theorem rMul (a b : Int) (ha : W64 a) (hb : W64 b) (w : World) :
    Calls Try.prog 92 #[.int .u64 a, .int .u64 b] w fun e w' => e = .returned (.int .u64 (mulI a b)) ∧ w = w' := by
  by_cases h0 : a = 0
  · subst h0
    have He : Hid (0 = mulI 0 b) := by show _ = _; unfold mulI; omega
    clear ha
    go_enter Try.func92, Try.ntmps92
    go_wp2
    go_ret
    exact ⟨ret_int He.out, rfl⟩
  · have hp : 0 < a := by have := ha.1; omega
    have hne : (a != 0) = true := by rw [bne_iff_ne]; exact h0
    have hc := mul_cmp a b ha hb hp
    have hn := Int.mul_nonneg ha.1 hb.1
    have hq1 : 18446744073709551615 / a ≤ 18446744073709551615 := Int.ediv_le_self _ (by omega)
    have hq0 : 0 ≤ 18446744073709551615 / a := Int.ediv_nonneg (by omega) ha.1
    have hw : IntKind.u64.wrap (18446744073709551615 / a) = 18446744073709551615 / a := by rw [IntKind.wrap_u64]; omega
    obtain ⟨a0, a1⟩ := ha
    obtain ⟨b0, b1⟩ := hb
    by_cases h : 18446744073709551615 / a < b
    · have He : Hid (18446744073709551615 = mulI a b) := by
        have := hc.1 h
        show _ = _; unfold mulI; omega
      clear hc hn h0
      go_enter Try.func92, Try.ntmps92
      go_wp2
      go_ret
      exact ⟨ret_int He.out, rfl⟩
    · have hle : a * b ≤ 18446744073709551615 := by
        have := mt hc.2 h
        omega
      have He : Hid (a * b = mulI a b) := by
        show _ = _; unfold mulI; omega
      have hm : IntKind.u64.wrap (a * b) = a * b := by rw [IntKind.wrap_u64]; omega
      clear hc hn h0 hle
      go_enter Try.func92, Try.ntmps92
      go_wp2
      go_ret
      exact ⟨ret_int He.out, rfl⟩

set_option maxHeartbeats 400000 in
theorem rDownG (a b d : Int) (ha : W64 a) (hb : W64 b) (hd : W64 d) (w : World) :
    Calls Try.prog 114 #[.int .u64 a, .int .u64 b, .int .u64 d] w fun e w' => e = .returned (.int .u64 (downI a b d)) ∧ Gr w w' := by
  have Ha := Lib.hid ha
  have Hb := Lib.hid hb
  have Hd := Lib.hid hd
  have H1 := Lib.hid (mulHi_W a b ha hb)
  have H2 := Lib.hid (mulLo_W a b)
  by_cases h : d ≤ mulHi a b
  · have He := Lib.hid (down_top a b d ha hb hd h)
    clear ha hb hd
    go_enter Try.func114, Try.ntmps114
    go_wp2_with (first | (go_at_call 132; refine (rTimesG _ _ Ha.out Hb.out _).mono ?_; rintro e w1 ⟨rfl, n1, os1, rfl⟩) | (go_at_call 133; refine (rDivNo _ _ _ h _).mono ?_; rintro e w' ⟨rfl, rfl⟩))
    go_ret
    exact ⟨ret_int He.out.symm, (by repeat (first | exact Gr.refl _ | apply Gr.drewN | apply Gr.drew | apply Gr.gw | apply Gr.alloc))⟩
  · have hlt : mulHi a b < d := by omega
    have Hlt := Lib.hid hlt
    have He := Lib.hid (down_quot a b d ha hb hd hlt)
    clear ha hb hd h hlt
    go_enter Try.func114, Try.ntmps114
    go_wp2_with (first | (go_at_call 132; refine (rTimesG _ _ Ha.out Hb.out _).mono ?_; rintro e w1 ⟨rfl, n1, os1, rfl⟩) | (go_at_call 133; refine (rDivYes _ _ _ H1.out H2.out Hd.out Hlt.out _).mono ?_; rintro e w' ⟨rfl, rfl⟩))
    go_ret
    exact ⟨ret_int He.out.symm, (by repeat (first | exact Gr.refl _ | apply Gr.drewN | apply Gr.drew | apply Gr.gw | apply Gr.alloc))⟩
theorem rDown (a b d : Int) (ha : W64 a) (hb : W64 b) (hd : W64 d) (w : World) :
    Calls Try.prog 114 #[.int .u64 a, .int .u64 b, .int .u64 d] w fun e w' => e = .returned (.int .u64 (downI a b d)) ∧ Below w.heap.size w w' :=
  (rDownG a b d ha hb hd w).mono fun _ _ h => ⟨h.1, h.2.below⟩

set_option maxHeartbeats 400000 in
theorem rUpG (a b d : Int) (ha : W64 a) (hb : W64 b) (hd : W64 d) (w : World) :
    Calls Try.prog 94 #[.int .u64 a, .int .u64 b, .int .u64 d] w fun e w' => e = .returned (.int .u64 (upI a b d)) ∧ Gr w w' := by
  have Ha := Lib.hid ha
  have Hb := Lib.hid hb
  have Hd := Lib.hid hd
  have H1 := Lib.hid (mulHi_W a b ha hb)
  have H2 := Lib.hid (mulLo_W a b)
  by_cases h : d ≤ mulHi a b
  · have He := Lib.hid (up_top a b d ha hb hd h)
    clear ha hb hd
    go_enter Try.func94, Try.ntmps94
    go_wp2_with (first | (go_at_call 132; refine (rTimesG _ _ Ha.out Hb.out _).mono ?_; rintro e w1 ⟨rfl, n1, os1, rfl⟩) | (go_at_call 133; refine (rDivNo _ _ _ h _).mono ?_; rintro e w' ⟨rfl, rfl⟩))
    go_ret
    exact ⟨ret_int He.out.symm, (by repeat (first | exact Gr.refl _ | apply Gr.drewN | apply Gr.drew | apply Gr.gw | apply Gr.alloc))⟩
  · have hlt : mulHi a b < d := by omega
    have Hlt := Lib.hid hlt
    have hq := Lib.hid (divQ_W a b d ha hb hd hlt)
    have hr := divR_0 a b d ha hb hd hlt
    by_cases h0 : divR (mulHi a b) (mulLo a b) d = 0
    · have He := Lib.hid (up_zero a b d ha hb hd hlt h0)
      have e0 : decide (0 < divR (mulHi a b) (mulLo a b) d) = false := by rw [decide_eq_false_iff_not]; omega
      clear ha hb hd h hlt h0
      go_enter Try.func94, Try.ntmps94
      go_wp2_with (first | (go_at_call 132; refine (rTimesG _ _ Ha.out Hb.out _).mono ?_; rintro e w1 ⟨rfl, n1, os1, rfl⟩) | (go_at_call 133; refine (rDivYes _ _ _ H1.out H2.out Hd.out Hlt.out _).mono ?_; rintro e w' ⟨rfl, rfl⟩))
      go_ret
      exact ⟨ret_int He.out.symm, (by repeat (first | exact Gr.refl _ | apply Gr.drewN | apply Gr.drew | apply Gr.gw | apply Gr.alloc))⟩
    · have e0 : decide (0 < divR (mulHi a b) (mulLo a b) d) = true := by rw [decide_eq_true_eq]; omega
      have He : Hid (addI (divQ (mulHi a b) (mulLo a b) d) 1 = upI a b d) := by
        show _ = _
        have hq' := hq.out
        unfold W64 at hq'
        by_cases ht : divQ (mulHi a b) (mulLo a b) d = 18446744073709551615
        · rw [up_full a b d ha hb hd hlt h0 ht, ht]
          rfl
        · rw [up_more a b d ha hb hd hlt h0 ht]
          unfold addI
          omega
      clear ha hb hd h hlt h0
      go_enter Try.func94, Try.ntmps94
      go_wp2_with (first | (go_at_call 132; refine (rTimesG _ _ Ha.out Hb.out _).mono ?_; rintro e w1 ⟨rfl, n1, os1, rfl⟩) | (go_at_call 133; refine (rDivYes _ _ _ H1.out H2.out Hd.out Hlt.out _).mono ?_; rintro e w' ⟨rfl, rfl⟩) | (go_at_call 68; refine (rAdd _ _ hq.out ⟨by omega, by omega⟩ _).mono ?_; rintro e w' ⟨rfl, rfl⟩))
      go_ret
      exact ⟨ret_int He.out, (by repeat (first | exact Gr.refl _ | apply Gr.drewN | apply Gr.drew | apply Gr.gw | apply Gr.alloc))⟩
theorem rUp (a b d : Int) (ha : W64 a) (hb : W64 b) (hd : W64 d) (w : World) :
    Calls Try.prog 94 #[.int .u64 a, .int .u64 b, .int .u64 d] w fun e w' => e = .returned (.int .u64 (upI a b d)) ∧ Below w.heap.size w w' :=
  (rUpG a b d ha hb hd w).mono fun _ _ h => ⟨h.1, h.2.below⟩

end Go.Proofs.Ytikkmdbaekdolaa
