/- what a paced row of bytes comes to, plainly: in no time more goes than a burst and the greatest rate by that time. -/
import Derived.Test.YtanebjapcpbdnaaPacer
namespace Go.Proofs.Ytanebjapcpbdnaa
open Go.RowKit Go.Lib
set_option linter.unusedVariables false

/-- the inputs: burst, rate, waits, sizes, turns, rates -/
structure Rides where
  b : Int
  r0 : Int
  W : Nat → Int
  S : Nat → Int
  U : Nat → Bool
  Q : Nat → Int

def Rides.now (x : Rides) : Nat → Int
  | 0 => 0
  | k + 1 => x.now k + x.W k
def Rides.rate (x : Rides) : Nat → Int
  | 0 => min x.r0 4294967296
  | k + 1 => if x.U k = true then min (x.Q k) 4294967296 else x.rate k
def Rides.t1 (x : Rides) (t : Int) (k : Nat) : Int := if x.U k = true then fillT t (x.now k) (x.rate k) x.b (x.now (k + 1)) else t
def Rides.a1 (x : Rides) (k : Nat) : Int := if x.U k = true then max (x.now k) (x.now (k + 1)) else x.now k
def Rides.tok (x : Rides) : Nat → Int
  | 0 => fullI x.b
  | k + 1 => takeT (x.t1 (x.tok k) k) (x.a1 k) (x.rate (k + 1)) x.b (x.now (k + 1)) (x.S k)
def Rides.ok (x : Rides) (k : Nat) : Bool := takeB (x.t1 (x.tok k) k) (x.a1 k) (x.rate (k + 1)) x.b (x.now (k + 1)) (x.S k)
def Rides.went (x : Rides) (k : Nat) : Int := if x.ok k = true then x.S k else 0
def Rides.sum (x : Rides) (i : Nat) : Nat → Int
  | 0 => 0
  | m + 1 => x.sum i m + x.went (i + m)
def Rides.top (x : Rides) (i : Nat) : Nat → Int
  | 0 => 0
  | m + 1 => max (x.top i m) (x.rate (i + m + 1))

structure Rides.May (x : Rides) (len : Nat) : Prop where
  b : 0 ≤ x.b ∧ x.b ≤ 65535
  r : 0 ≤ x.r0 ∧ x.r0 ≤ 4294967295
  W : ∀ k, k < len → 0 ≤ x.W k ∧ x.W k ≤ 65535
  S : ∀ k, k < len → 0 ≤ x.S k ∧ x.S k ≤ 65535
  Q : ∀ k, k < len → 0 ≤ x.Q k ∧ x.Q k ≤ 4294967295

theorem Rides.now_le (x : Rides) {len : Nat} (h : x.May len) : ∀ k, k ≤ len → 0 ≤ x.now k ∧ x.now k ≤ 65535 * k
  | 0, _ => by simp [Rides.now]
  | k + 1, hk => by
    have h1 := x.now_le h k (by omega)
    have h2 := h.W k (by omega)
    simp only [Rides.now]
    omega
theorem Rides.rate_le (x : Rides) {len : Nat} (h : x.May len) : ∀ k, k ≤ len → 0 ≤ x.rate k ∧ x.rate k ≤ 4294967295
  | 0, _ => by have := h.r; simp only [Rides.rate]; omega
  | k + 1, hk => by
    have h1 := x.rate_le h k (by omega)
    have h2 := h.Q k (by omega)
    simp only [Rides.rate]
    split <;> omega
theorem Rides.a1_eq (x : Rides) {len : Nat} (h : x.May len) (k : Nat) (hk : k < len) : x.a1 k = if x.U k = true then x.now (k + 1) else x.now k := by
  have := h.W k hk
  unfold Rides.a1
  simp only [Rides.now]
  split <;> omega

theorem fullI_eq {b : Int} (h : 0 ≤ b ∧ b ≤ 65535) : fullI b = b * 1000000 := by
  unfold fullI mulI
  omega
theorem fillT_eq {t a r b n : Int} (hb : 0 ≤ b ∧ b ≤ 65535) (ht : 0 ≤ t ∧ t ≤ b * 1000000) (hr : 0 ≤ r ∧ r ≤ 4294967295) (hn : 0 ≤ n - a ∧ n - a ≤ 65535) :
    fillT t a r b n = min (t + r * (n - a)) (b * 1000000) := by
  have h1 : r * (n - a) ≤ 4294967295 * 65535 := Int.mul_le_mul hr.2 hn.2 hn.1 (by omega)
  have h2 : 0 ≤ r * (n - a) := Int.mul_nonneg hr.1 hn.1
  unfold fillT subI
  rw [fullI_eq hb, show max (n - a) 0 = n - a by omega]
  unfold mulI addI
  generalize r * (n - a) = q at *
  omega
theorem takeT_eq {t a r b n s : Int} (hb : 0 ≤ b ∧ b ≤ 65535) (ht : 0 ≤ t ∧ t ≤ b * 1000000) (hr : 0 ≤ r ∧ r ≤ 4294967295) (hn : 0 ≤ n - a ∧ n - a ≤ 65535) (hs : 0 ≤ s ∧ s ≤ 65535) :
    takeT t a r b n s + (if takeB t a r b n s = true then s else 0) * 1000000 = min (t + r * (n - a)) (b * 1000000) ∧ 0 ≤ takeT t a r b n s := by
  have h2 : 0 ≤ r * (n - a) := Int.mul_nonneg hr.1 hn.1
  unfold takeT takeB
  rw [fillT_eq hb ht hr hn, fullI_eq hs]
  generalize r * (n - a) = q at *
  by_cases h : s * 1000000 ≤ min (t + q) (b * 1000000)
  · rw [if_pos h, if_pos (by simpa using h)]
    omega
  · rw [if_neg h, if_neg (by simpa using h)]
    omega

/-- one step of the bucket -/
theorem Rides.step (x : Rides) {len : Nat} (h : x.May len) (k : Nat) (hk : k < len) (ht : 0 ≤ x.tok k ∧ x.tok k ≤ x.b * 1000000) :
    x.tok (k + 1) + x.went k * 1000000 ≤ x.tok k + x.rate k * (x.now (k + 1) - x.now k) ∧ x.tok (k + 1) + x.went k * 1000000 ≤ x.b * 1000000 ∧ 0 ≤ x.tok (k + 1) ∧ 0 ≤ x.went k ∧ x.went k ≤ 65535 := by
  have hW := h.W k hk
  have hS := h.S k hk
  have hr := x.rate_le h k (by omega)
  have hr1 := x.rate_le h (k + 1) (by omega)
  have hn : x.now (k + 1) = x.now k + x.W k := rfl
  have hw : 0 ≤ x.went k ∧ x.went k ≤ 65535 := by unfold Rides.went; split <;> omega
  have hq : 0 ≤ x.rate k * (x.now (k + 1) - x.now k) := Int.mul_nonneg hr.1 (by omega)
  refine ⟨?_, ?_, ?_, hw⟩
  all_goals
    try unfold Rides.went Rides.ok
    simp only [Rides.tok]
    rw [x.a1_eq h k hk]
    unfold Rides.t1
    by_cases hu : x.U k = true
    · simp only [hu, if_true]
      have e := fillT_eq h.b ht hr (n := x.now (k + 1)) (a := x.now k) (by omega)
      have := takeT_eq (t := fillT (x.tok k) (x.now k) (x.rate k) x.b (x.now (k + 1))) (a := x.now (k + 1)) (r := x.rate (k + 1)) (n := x.now (k + 1)) (s := x.S k) h.b (by rw [e]; omega) hr1 (by omega) hS
      rw [e] at this ⊢
      rw [show x.rate (k + 1) * (x.now (k + 1) - x.now (k + 1)) = 0 by rw [Int.sub_self]; simp] at this
      omega
    · have er : x.rate (k + 1) = x.rate k := by simp only [Rides.rate]; rw [if_neg hu]
      simp only [hu]
      rw [er]
      have := takeT_eq (t := x.tok k) (a := x.now k) (r := x.rate k) (n := x.now (k + 1)) (s := x.S k) h.b ht hr (by omega) hS
      simp only [Bool.false_eq_true, if_false]
      omega

theorem Rides.tok_le (x : Rides) {len : Nat} (h : x.May len) : ∀ k, k ≤ len → 0 ≤ x.tok k ∧ x.tok k ≤ x.b * 1000000
  | 0, _ => by have := h.b; simp only [Rides.tok]; rw [fullI_eq h.b]; omega
  | k + 1, hk => by
    have := x.step h k (by omega) (x.tok_le h k (by omega))
    omega
theorem Rides.went_le (x : Rides) {len : Nat} (h : x.May len) (k : Nat) (hk : k < len) : 0 ≤ x.went k ∧ x.went k ≤ 65535 :=
  (x.step h k hk (x.tok_le h k (by omega))).2.2.2

theorem Rides.now_mono (x : Rides) {len : Nat} (h : x.May len) (i : Nat) : ∀ m, i + m ≤ len → x.now i ≤ x.now (i + m)
  | 0, _ => by simp
  | m + 1, hm => by
    have := x.now_mono h i m (by omega)
    have := h.W (i + m) (by omega)
    show _ ≤ x.now (i + m) + x.W (i + m)
    omega
theorem Rides.top_le (x : Rides) {len : Nat} (h : x.May len) (i : Nat) : ∀ m, i + m ≤ len → 0 ≤ x.top i m ∧ x.top i m ≤ 4294967295
  | 0, _ => by simp [Rides.top]
  | m + 1, hm => by
    have := x.top_le h i m (by omega)
    have := x.rate_le h (i + m + 1) (by omega)
    simp only [Rides.top]
    omega
theorem Rides.sum_le (x : Rides) {len : Nat} (h : x.May len) (i : Nat) : ∀ m, i + m ≤ len → 0 ≤ x.sum i m ∧ x.sum i m ≤ 65535 * m
  | 0, _ => by simp [Rides.sum]
  | m + 1, hm => by
    have := x.sum_le h i m (by omega)
    have := x.went_le h (i + m) (by omega)
    simp only [Rides.sum]
    omega

theorem Rides.bound (x : Rides) {len : Nat} (h : x.May len) (i : Nat) : ∀ m, i + m + 1 ≤ len → x.sum i (m + 1) * 1000000 + x.tok (i + m + 1) ≤ x.b * 1000000 + x.top i (m + 1) * (x.now (i + m + 1) - x.now (i + 1))
  | 0, hm => by
    have := x.step h i (by omega) (x.tok_le h i (by omega))
    simp only [Rides.sum, Nat.add_zero, Int.sub_self, Int.mul_zero]
    omega
  | m + 1, hm => by
    have h1 := x.bound h i m (by omega)
    have h2 := x.step h (i + m + 1) (by omega) (x.tok_le h _ (by omega))
    have h3 : x.now (i + 1) ≤ x.now (i + m + 1) := by
      have := x.now_mono h (i + 1) m (by omega)
      rwa [show i + 1 + m = i + m + 1 by omega] at this
    have h4 : x.now (i + m + 1) ≤ x.now (i + m + 1 + 1) := x.now_mono h (i + m + 1) 1 (by omega)
    have hr := x.rate_le h (i + m + 1) (by omega)
    have ht := x.top_le h i (m + 1) (by omega)
    have e : x.top i (m + 1 + 1) = max (x.top i (m + 1)) (x.rate (i + (m + 1) + 1)) := rfl
    have e2 : x.top i (m + 1) = max (x.top i m) (x.rate (i + m + 1)) := rfl
    have a1 : x.top i (m + 1) * (x.now (i + m + 1) - x.now (i + 1)) ≤ x.top i (m + 1 + 1) * (x.now (i + m + 1) - x.now (i + 1)) :=
      Int.mul_le_mul_of_nonneg_right (by omega) (by omega)
    have a2 : x.rate (i + m + 1) * (x.now (i + m + 1 + 1) - x.now (i + m + 1)) ≤ x.top i (m + 1 + 1) * (x.now (i + m + 1 + 1) - x.now (i + m + 1)) :=
      Int.mul_le_mul_of_nonneg_right (by omega) (by omega)
    have a3 : x.top i (m + 1 + 1) * (x.now (i + m + 1 + 1) - x.now (i + 1)) = x.top i (m + 1 + 1) * (x.now (i + m + 1) - x.now (i + 1)) + x.top i (m + 1 + 1) * (x.now (i + m + 1 + 1) - x.now (i + m + 1)) := by
      rw [← Int.mul_add]
      congr 1
      omega
    have s : x.sum i (m + 1 + 1) = x.sum i (m + 1) + x.went (i + (m + 1)) := rfl
    rw [show i + (m + 1) + 1 = i + m + 1 + 1 by omega, a3, s, show i + (m + 1) = i + m + 1 by omega]
    generalize x.top i (m + 1 + 1) * (x.now (i + m + 1) - x.now (i + 1)) = p at *
    generalize x.top i (m + 1 + 1) * (x.now (i + m + 1 + 1) - x.now (i + m + 1)) = q at *
    generalize x.top i (m + 1) * (x.now (i + m + 1) - x.now (i + 1)) = p' at *
    generalize x.rate (i + m + 1) * (x.now (i + m + 1 + 1) - x.now (i + m + 1)) = q' at *
    omega

/-- what is tested in the inner loop holds not -/
theorem Rides.within (x : Rides) {len : Nat} (h : x.May len) (hl : len ≤ 60) (i m : Nat) (hm : i + m < len) :
    x.sum i (m + 1) * 1000000 ≤ x.b * 1000000 + mulI (x.top i (m + 1)) (x.now (i + m + 1) - x.now (i + 1)) ∧ mulI (x.top i (m + 1)) (x.now (i + m + 1) - x.now (i + 1)) ≤ 100000000000000000 ∧ 0 ≤ x.now (i + m + 1) - x.now (i + 1) := by
  have h1 := x.bound h i m (by omega)
  have h2 := (x.tok_le h (i + m + 1) (by omega)).1
  have h3 : x.now (i + 1) ≤ x.now (i + m + 1) := by
    have := x.now_mono h (i + 1) m (by omega)
    rwa [show i + 1 + m = i + m + 1 by omega] at this
  have h4 := x.now_le h (i + m + 1) (by omega)
  have h5 := (x.now_le h (i + 1) (by omega)).1
  have ht := x.top_le h i (m + 1) (by omega)
  have hp : x.top i (m + 1) * (x.now (i + m + 1) - x.now (i + 1)) ≤ 4294967295 * 3932100 := Int.mul_le_mul ht.2 (by omega) (by omega) (by omega)
  unfold mulI
  generalize x.top i (m + 1) * (x.now (i + m + 1) - x.now (i + 1)) = p at *
  omega

end Go.Proofs.Ytanebjapcpbdnaa
