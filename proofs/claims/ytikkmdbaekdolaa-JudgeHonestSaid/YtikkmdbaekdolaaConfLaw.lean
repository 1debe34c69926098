/- configurations, plainly: the row of tests and the first number that may not be. -/
import Derived.Test.YtikkmdbaekdolaaConf
import Derived.Test.YtikkmdbaekdolaaRef
namespace Go.Proofs.Ytikkmdbaekdolaa
open Go.RowKit Go.Lib
set_option linter.unusedVariables false
set_option maxRecDepth 100000

/-- the place of the first test that fails -/
def firstI (b0 b1 b2 b3 b4 b5 b6 b7 b8 b9 b10 b11 b12 b13 b14 b15 b16 : Bool) : Int := if b0 = false then 1 else if b1 = false then 2 else if b2 = false then 3 else if b3 = false then 4 else if b4 = false then 5 else if b5 = false then 6 else if b6 = false then 7 else if b7 = false then 8 else if b8 = false then 9 else if b9 = false then 10 else if b10 = false then 11 else if b11 = false then 12 else if b12 = false then 13 else if b13 = false then 14 else if b14 = false then 15 else if b15 = false then 16 else if b16 = false then 17 else 0

set_option maxHeartbeats 1000000 in
theorem firstI_conf (x0 x1 x2 x3 x4 x5 x6 x7 x8 x9 x10 x11 x12 x13 x14 x15 x16 : Int) : firstI (decide (1 ≤ x0) && decide (x0 ≤ 64)) (x1 != 1) (decide (4 ≤ x2) && decide (x2 ≤ 256)) (decide (x3 ≤ 4611686018427387903)) (decide (1 ≤ x4) && decide (x4 ≤ 65536)) (decide (1 ≤ x5) && decide (x5 ≤ 1500)) (decide (x7 ≤ x6) && decide (x6 ≤ x8)) (decide (mulI 2 x5 ≤ x7)) (decide (x7 ≤ x8) && decide (x8 ≤ 1073741824)) (x9 == 1 || x9 == 2) (decide (1 ≤ x10) && decide (x10 ≤ 1099511627776)) (decide (1 ≤ x11) && decide (x11 ≤ 1099511627776)) (decide (x11 ≤ x12) && decide (x12 ≤ 1099511627776)) (decide (x5 ≤ x13) && decide (x13 ≤ 1073741824)) (decide (1 ≤ x14) && decide (x14 ≤ 4294967296)) (decide (0 ≤ x15) && decide (x15 ≤ 64)) (decide (1 ≤ x16) && decide (x16 ≤ 1099511627776)) = confI x0 x1 x2 x3 x4 x5 x6 x7 x8 x9 x10 x11 x12 x13 x14 x15 x16 := by
  unfold firstI confI winI mulI
  by_cases h0 : x0 < 1 ∨ 64 < x0
  · rw [if_pos (by simp <;> omega), if_pos h0]
  rw [if_neg (by simp <;> omega), if_neg h0]
  by_cases h1 : x1 = 1
  · rw [if_pos (by simp <;> omega), if_pos h1]
  rw [if_neg (by simp <;> omega), if_neg h1]
  by_cases h2 : x2 < 4 ∨ 256 < x2
  · rw [if_pos (by simp <;> omega), if_pos h2]
  rw [if_neg (by simp <;> omega), if_neg h2]
  by_cases h3 : 4611686018427387903 < x3
  · rw [if_pos (by simp <;> omega), if_pos h3]
  rw [if_neg (by simp <;> omega), if_neg h3]
  by_cases h4 : x4 < 1 ∨ 65536 < x4
  · rw [if_pos (by simp <;> omega), if_pos h4]
  rw [if_neg (by simp <;> omega), if_neg h4]
  by_cases h5 : x5 < 1 ∨ 1500 < x5
  · rw [if_pos (by simp <;> omega), if_pos h5]
  rw [if_neg (by simp <;> omega), if_neg h5]
  by_cases h6 : x6 < x7 ∨ x8 < x6
  · rw [if_pos (by simp <;> omega), if_pos h6]
  rw [if_neg (by simp <;> omega), if_neg h6]
  by_cases h7 : x7 < 2 * x5
  · rw [if_pos (by simp <;> omega), if_pos h7]
  rw [if_neg (by simp <;> omega), if_neg h7]
  by_cases h8 : x8 < x7 ∨ 1073741824 < x8
  · rw [if_pos (by simp <;> omega), if_pos h8]
  rw [if_neg (by simp <;> omega), if_neg h8]
  by_cases h9 : ¬ x9 = 1 ∧ ¬ x9 = 2
  · rw [if_pos (by simp <;> omega), if_pos h9]
  rw [if_neg (by simp <;> omega), if_neg h9]
  by_cases h10 : x10 < 1 ∨ 1099511627776 < x10
  · rw [if_pos (by simp <;> omega), if_pos h10]
  rw [if_neg (by simp <;> omega), if_neg h10]
  by_cases h11 : x11 < 1 ∨ 1099511627776 < x11
  · rw [if_pos (by simp <;> omega), if_pos h11]
  rw [if_neg (by simp <;> omega), if_neg h11]
  by_cases h12 : x12 < x11 ∨ 1099511627776 < x12
  · rw [if_pos (by simp <;> omega), if_pos h12]
  rw [if_neg (by simp <;> omega), if_neg h12]
  by_cases h13 : x13 < x5 ∨ 1073741824 < x13
  · rw [if_pos (by simp <;> omega), if_pos h13]
  rw [if_neg (by simp <;> omega), if_neg h13]
  by_cases h14 : x14 < 1 ∨ 4294967296 < x14
  · rw [if_pos (by simp <;> omega), if_pos h14]
  rw [if_neg (by simp <;> omega), if_neg h14]
  by_cases h15 : x15 < 0 ∨ 64 < x15
  · rw [if_pos (by simp <;> omega), if_pos h15]
  rw [if_neg (by simp <;> omega), if_neg h15]
  by_cases h16 : x16 < 1 ∨ 1099511627776 < x16
  · rw [if_pos (by simp <;> omega), if_pos h16]
  rw [if_neg (by simp <;> omega), if_neg h16]

theorem confI_range (x0 x1 x2 x3 x4 x5 x6 x7 x8 x9 x10 x11 x12 x13 x14 x15 x16 : Int) : 0 ≤ confI x0 x1 x2 x3 x4 x5 x6 x7 x8 x9 x10 x11 x12 x13 x14 x15 x16 ∧ confI x0 x1 x2 x3 x4 x5 x6 x7 x8 x9 x10 x11 x12 x13 x14 x15 x16 ≤ 17 := by
  unfold confI winI
  repeat (first | omega | split)

def cf0 (A : Nat → Int) : Int := if A 4 % 4 = 1 then 1 + A 4 / 4 % 64 else 64
def cf1 (A : Nat → Int) : Int := if 0 < A 5 % 4 then 2 + A 5 / 4 % 30 else 0
def cf2 (A : Nat → Int) : Int := 4 + A 6 % 40
def cf3 (A : Nat → Int) : Int := if A 7 % 4 = 1 then A 7 / 4 % 60 else 4611686018427387903
def cf4 (A : Nat → Int) : Int := 1 + A 8 % 300
def cf5 (A : Nat → Int) : Int := 1 + A 0 % 40
def cf6 (A : Nat → Int) : Int := 2 * (1 + A 0 % 40) + A 1 % 50 + A 2 % 100
def cf7 (A : Nat → Int) : Int := 2 * (1 + A 0 % 40) + A 1 % 50
def cf8 (A : Nat → Int) : Int := 2 * (1 + A 0 % 40) + A 1 % 50 + A 2 % 100 + A 3 % 400
def cf9 (A : Nat → Int) : Int := 1 + A 9 % 2
def cf10 (A : Nat → Int) : Int := 1 + A 10 % 200000
def cf11 (A : Nat → Int) : Int := 1 + A 11 % 2000
def cf12 (A : Nat → Int) : Int := 1 + A 11 % 2000 + A 12 % 400000
def cf13 (A : Nat → Int) : Int := 1 + A 0 % 40 + A 13 % 400
def cf14 (A : Nat → Int) : Int := 1 + A 14 % 100000
def cf15 (A : Nat → Int) : Int := A 15 % 5
def cf16 (A : Nat → Int) : Int := 1 + A 16 % 100000

set_option maxHeartbeats 1000000 in
theorem confI_made (A : Nat → Int) (h : ∀ i, 0 ≤ A i ∧ A i ≤ 4294967295) : confI (cf0 A) (cf1 A) (cf2 A) (cf3 A) (cf4 A) (cf5 A) (cf6 A) (cf7 A) (cf8 A) (cf9 A) (cf10 A) (cf11 A) (cf12 A) (cf13 A) (cf14 A) (cf15 A) (cf16 A) = 0 := by
  have h0 := h 0
  have h1 := h 1
  have h2 := h 2
  have h3 := h 3
  have h4 := h 4
  have h5 := h 5
  have h6 := h 6
  have h7 := h 7
  have h8 := h 8
  have h9 := h 9
  have h10 := h 10
  have h11 := h 11
  have h12 := h 12
  have h13 := h 13
  have h14 := h 14
  have h15 := h 15
  have h16 := h 16
  unfold confI winI cf0 cf1 cf2 cf3 cf4 cf5 cf6 cf7 cf8 cf9 cf10 cf11 cf12 cf13 cf14 cf15 cf16
  have e0 : 1 ≤ (if A 4 % 4 = 1 then 1 + A 4 / 4 % 64 else 64) ∧ (if A 4 % 4 = 1 then 1 + A 4 / 4 % 64 else 64) ≤ 64 := by split <;> omega
  have e1 : ¬ (if 0 < A 5 % 4 then 2 + A 5 / 4 % 30 else 0) = 1 := by split <;> omega
  have e3 : ¬ 4611686018427387903 < (if A 7 % 4 = 1 then A 7 / 4 % 60 else 4611686018427387903) := by split <;> omega
  rw [if_neg (by omega), if_neg e1, if_neg (by omega), if_neg e3]
  repeat rw [if_neg (by omega)]

end Go.Proofs.Ytikkmdbaekdolaa
