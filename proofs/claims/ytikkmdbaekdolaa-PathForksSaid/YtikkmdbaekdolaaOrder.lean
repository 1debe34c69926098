/- the bytes of numbers, plainly: their values, their order; Put once for all sizes. -/
import Derived.Test.YtikkmdbaekdolaaReader
import Derived.Laws.BitsAllLaws
namespace Go.Proofs.Ytikkmdbaekdolaa
open Go.RowKit Go.Lib
set_option linter.unusedVariables false
set_option maxRecDepth 100000

theorem or_top (x : Int) (t : Nat) (h : 0 ≤ x ∧ x < 64) (ht : t ≤ 3) : bits .or .u8 x ((64 * t : Nat) : Int) = x + 64 * t := by
  obtain ⟨X, rfl⟩ := Int.eq_ofNat_of_zero_le h.1
  have hX : X < 64 := by omega
  have e := Nat.two_pow_add_eq_or_of_lt (b := X) (i := 6) (by omega) t
  have e2 : X ||| 64 * t = 64 * t + X := by rw [Nat.or_comm]; exact e.symm
  rw [u8_or_nat X (64 * t) (by omega) (by omega), e2]
  omega

/-- the bytes of a number, by arithmetic -/
def putA (n : Int) : List Int := if n < 64 then [n] else if n < 16384 then [n / 256 + 64, n % 256] else if n < 1073741824 then [n / 16777216 + 128, n / 65536 % 256, n / 256 % 256, n % 256] else [n / 72057594037927936 + 192, n / 281474976710656 % 256, n / 1099511627776 % 256, n / 4294967296 % 256, n / 16777216 % 256, n / 65536 % 256, n / 256 % 256, n % 256]
theorem putL_eq (n : Int) (h : 0 ≤ n ∧ n ≤ 4611686018427387903) : putL n = putA n := by
  unfold putL putA
  split
  · rfl
  split
  · have := or_top (n / 256) 1 (by omega) (by omega)
    rw [show (64 : Int) = ((64 * 1 : Nat) : Int) from rfl, this]
    rfl
  split
  · have := or_top (n / 16777216) 2 (by omega) (by omega)
    rw [show (128 : Int) = ((64 * 2 : Nat) : Int) from rfl, this]
    rfl
  · have := or_top (n / 72057594037927936) 3 (by omega) (by omega)
    rw [show (192 : Int) = ((64 * 3 : Nat) : Int) from rfl, this]
    rfl

theorem putA_byte (n : Int) (h : 0 ≤ n ∧ n ≤ 4611686018427387903) : ∀ x ∈ putA n, 0 ≤ x ∧ x ≤ 255 := by
  intro x hx
  unfold putA at hx
  split at hx
  · simp at hx; omega
  split at hx
  · simp at hx; omega
  split at hx
  · simp at hx; omega
  · simp at hx; omega

/-- Put, once for all sizes -/
theorem oPut (n : Int) (h : 0 ≤ n ∧ n ≤ 4611686018427387903) (w : World) :
    Calls Try.prog 139 #[.int .u64 n] w fun e w' => e = .returned (.tuple #[.slice (some ⟨w.heap.size, 0, none⟩) (putA n).length (putA n).length, .bool true]) ∧ (∃ cs, w' = w.alloc (.cells cs 5)) ∧ BytesAt w' w.heap.size 0 (putA n) := by
  rw [← putL_eq n h]
  by_cases h1 : n < 64
  · have e : putL n = [n] := by unfold putL; rw [if_pos h1]
    rw [e]
    refine (oPut1 n h.1 h1 w).mono fun e w' h => ⟨h.1, ⟨_, h.2⟩, ?_⟩
    rw [h.2]
    refine ⟨by simp, fun i hi => ?_⟩
    rcases (by simp at hi; omega : i = 0) with rfl
    go_simp
  by_cases h2 : n < 16384
  · have e : putL n = [bits .or .u8 (n / 256) 64, n % 256] := by unfold putL; rw [if_neg h1, if_pos h2]
    rw [e]
    refine (oPut2 n (by omega) h2 w).mono fun e w' h => ⟨h.1, ⟨_, h.2⟩, ?_⟩
    rw [h.2]
    refine ⟨by simp, fun i hi => ?_⟩
    rcases (by simp at hi; omega : i = 0 ∨ i = 1) with rfl | rfl <;> go_simp
  by_cases h3 : n < 1073741824
  · have e : putL n = [bits .or .u8 (n / 16777216) 128, n / 65536 % 256, n / 256 % 256, n % 256] := by unfold putL; rw [if_neg h1, if_neg h2, if_pos h3]
    rw [e]
    refine (oPut4 n (by omega) h3 w).mono fun e w' h => ⟨h.1, ⟨_, h.2⟩, ?_⟩
    rw [h.2]
    refine ⟨by simp, fun i hi => ?_⟩
    rcases (by simp at hi; omega : i = 0 ∨ i = 1 ∨ i = 2 ∨ i = 3) with rfl | rfl | rfl | rfl <;> go_simp
  · have e : putL n = [bits .or .u8 (n / 72057594037927936) 192, n / 281474976710656 % 256, n / 1099511627776 % 256, n / 4294967296 % 256, n / 16777216 % 256, n / 65536 % 256, n / 256 % 256, n % 256] := by unfold putL; rw [if_neg h1, if_neg h2, if_neg h3]
    rw [e]
    refine (oPut8 n (by omega) h.2 w).mono fun e w' h => ⟨h.1, ⟨_, h.2⟩, ?_⟩
    rw [h.2]
    refine ⟨by simp, fun i hi => ?_⟩
    rcases (by simp at hi; omega : i = 0 ∨ i = 1 ∨ i = 2 ∨ i = 3 ∨ i = 4 ∨ i = 5 ∨ i = 6 ∨ i = 7) with rfl | rfl | rfl | rfl | rfl | rfl | rfl | rfl <;> go_simp

/-- the order of rows of bytes -/
def lexI : List Int → List Int → Bool
  | _, [] => false
  | [], _ :: _ => true
  | a :: x, b :: y => decide (a < b) || (a == b && lexI x y)

theorem u8_lt {a b : Int} (ha : 0 ≤ a ∧ a ≤ 255) (hb : 0 ≤ b ∧ b ≤ 255) : (decide (UInt8.ofNat a.toNat < UInt8.ofNat b.toNat)) = decide (a < b) := by
  rw [decide_eq_decide, UInt8.lt_iff_toNat_lt]
  simp only [UInt8.toNat_ofNat']
  omega
theorem u8_eq {a b : Int} (ha : 0 ≤ a ∧ a ≤ 255) (hb : 0 ≤ b ∧ b ≤ 255) : (UInt8.ofNat a.toNat == UInt8.ofNat b.toNat) = (a == b) := by
  rw [Bool.eq_iff_iff, beq_iff_eq, beq_iff_eq]
  constructor
  · intro h
    have := congrArg UInt8.toNat h
    simp only [UInt8.toNat_ofNat'] at this
    omega
  · intro h
    rw [h]

theorem bytesLess_lex : ∀ (l k : List Int), (∀ x ∈ l, 0 ≤ x ∧ x ≤ 255) → (∀ x ∈ k, 0 ≤ x ∧ x ≤ 255) → Op.bytesLess (l.map fun n => UInt8.ofNat n.toNat) (k.map fun n => UInt8.ofNat n.toNat) = lexI l k
  | [], [], _, _ => rfl
  | _ :: _, [], _, _ => rfl
  | [], _ :: _, _, _ => rfl
  | a :: l, b :: k, hl, hk => by
    have ha := hl a (by simp)
    have hb := hk b (by simp)
    have ih := bytesLess_lex l k (fun x hx => hl x (by simp [hx])) (fun x hx => hk x (by simp [hx]))
    simp only [List.map_cons, Op.bytesLess, lexI, ih, u8_lt ha hb, u8_eq ha hb]

/-- the number that a row of bytes is -/
def valI : List Int → Int
  | [] => 0
  | a :: l => a * 256 ^ l.length + valI l
theorem valI_lt : ∀ (l : List Int), (∀ x ∈ l, 0 ≤ x ∧ x ≤ 255) → 0 ≤ valI l ∧ valI l < 256 ^ l.length
  | [], _ => by simp [valI]
  | a :: l, h => by
    have ha := h a (by simp)
    have ih := valI_lt l (fun x hx => h x (by simp [hx]))
    simp only [valI, List.length_cons, Int.pow_succ]
    have h1 : 0 ≤ a * 256 ^ l.length := Int.mul_nonneg ha.1 (by omega)
    have h2 : a * 256 ^ l.length ≤ 255 * 256 ^ l.length := Int.mul_le_mul_of_nonneg_right ha.2 (by omega)
    omega
theorem lex_val : ∀ (l k : List Int), l.length = k.length → (∀ x ∈ l, 0 ≤ x ∧ x ≤ 255) → (∀ x ∈ k, 0 ≤ x ∧ x ≤ 255) → lexI l k = decide (valI l < valI k)
  | [], [], _, _, _ => rfl
  | a :: l, b :: k, hlen, hl, hk => by
    have e : l.length = k.length := by simpa using hlen
    have hl' := fun x hx => hl x (List.mem_cons_of_mem a hx)
    have hk' := fun x hx => hk x (List.mem_cons_of_mem b hx)
    have ih := lex_val l k e hl' hk'
    have v1 := valI_lt l hl'
    have v2 := valI_lt k hk'
    rw [e] at v1
    simp only [lexI, valI, ih, e]
    rw [Bool.eq_iff_iff]
    simp only [Bool.or_eq_true, Bool.and_eq_true, decide_eq_true_eq, beq_iff_eq]
    have hp : (0 : Int) < 256 ^ k.length := by omega
    generalize (256 : Int) ^ k.length = p at *
    constructor
    · rintro (h | ⟨rfl, h⟩)
      · have : a * p + p ≤ b * p := by
          have := Int.mul_le_mul_of_nonneg_right (show a + 1 ≤ b by omega) (show 0 ≤ p by omega)
          rw [Int.add_mul, Int.one_mul] at this
          exact this
        omega
      · omega
    · intro h
      rcases Int.lt_trichotomy a b with h1 | h1 | h1
      · exact .inl h1
      · subst h1
        exact .inr ⟨rfl, by omega⟩
      · have : b * p + p ≤ a * p := by
          have := Int.mul_le_mul_of_nonneg_right (show b + 1 ≤ a by omega) (show 0 ≤ p by omega)
          rw [Int.add_mul, Int.one_mul] at this
          exact this
        omega

theorem lex_head {a b : Int} {l k : List Int} (h : a < b) : lexI (a :: l) (b :: k) = true ∧ lexI (b :: k) (a :: l) = false := by
  have h1 : ¬ b < a := by omega
  have h2 : ¬ b = a := by omega
  simp [lexI, h, h1, h2]

theorem put_order (m n : Int) (hm : 0 ≤ m ∧ m ≤ 4611686018427387903) (hn : 0 ≤ n ∧ n ≤ 4611686018427387903) : lexI (putA m) (putA n) = decide (m < n) := by
  have bm := putA_byte m hm
  have bn := putA_byte n hn
  have key : (putA m).length = (putA n).length → valI (putA m) - m = valI (putA n) - n → lexI (putA m) (putA n) = decide (m < n) := fun e v => by
    rw [lex_val _ _ e bm bn, decide_eq_decide]
    omega
  by_cases m1 : m < 64 <;> by_cases n1 : n < 64
  · exact key (by unfold putA; rw [if_pos m1, if_pos n1]; rfl) (by unfold putA; rw [if_pos m1, if_pos n1]; simp [valI])
  · have e : putA m = [m] := by unfold putA; rw [if_pos m1]
    rw [e, decide_eq_true (by omega)]
    unfold putA
    rw [if_neg n1]
    repeat' split
    all_goals exact (lex_head (by omega)).1
  · have e : putA n = [n] := by unfold putA; rw [if_pos n1]
    rw [e, decide_eq_false (by omega)]
    unfold putA
    rw [if_neg m1]
    repeat' split
    all_goals exact (lex_head (by omega)).2
  by_cases m2 : m < 16384 <;> by_cases n2 : n < 16384
  · exact key (by unfold putA; rw [if_neg m1, if_neg n1, if_pos m2, if_pos n2]; rfl) (by unfold putA; rw [if_neg m1, if_neg n1, if_pos m2, if_pos n2]; simp [valI]; omega)
  · have e : putA m = [m / 256 + 64, m % 256] := by unfold putA; rw [if_neg m1, if_pos m2]
    rw [e, decide_eq_true (by omega)]
    unfold putA
    rw [if_neg n1, if_neg n2]
    repeat' split
    all_goals exact (lex_head (by omega)).1
  · have e : putA n = [n / 256 + 64, n % 256] := by unfold putA; rw [if_neg n1, if_pos n2]
    rw [e, decide_eq_false (by omega)]
    unfold putA
    rw [if_neg m1, if_neg m2]
    repeat' split
    all_goals exact (lex_head (by omega)).2
  by_cases m3 : m < 1073741824 <;> by_cases n3 : n < 1073741824
  · exact key (by unfold putA; rw [if_neg m1, if_neg n1, if_neg m2, if_neg n2, if_pos m3, if_pos n3]; rfl) (by unfold putA; rw [if_neg m1, if_neg n1, if_neg m2, if_neg n2, if_pos m3, if_pos n3]; simp [valI]; omega)
  · unfold putA
    rw [if_neg m1, if_neg m2, if_pos m3, if_neg n1, if_neg n2, if_neg n3, decide_eq_true (by omega)]
    exact (lex_head (by omega)).1
  · unfold putA
    rw [if_neg n1, if_neg n2, if_pos n3, if_neg m1, if_neg m2, if_neg m3, decide_eq_false (by omega)]
    exact (lex_head (by omega)).2
  · exact key (by unfold putA; rw [if_neg m1, if_neg n1, if_neg m2, if_neg n2, if_neg m3, if_neg n3]; rfl) (by unfold putA; rw [if_neg m1, if_neg n1, if_neg m2, if_neg n2, if_neg m3, if_neg n3]; simp [valI]; omega)

end Go.Proofs.Ytikkmdbaekdolaa
