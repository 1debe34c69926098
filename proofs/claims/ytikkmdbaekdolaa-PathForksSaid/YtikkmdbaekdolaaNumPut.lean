/- Num reads what Put wrote; a beginning is too short. -/
import Derived.Test.YtikkmdbaekdolaaNumAll
import Derived.Laws.AppendOwnNone
import Derived.Laws.BitsAllLaws
namespace Go.Proofs.Ytikkmdbaekdolaa
open Go.RowKit Go.Lib
set_option linter.unusedVariables false
set_option maxRecDepth 100000

theorem or_byte (y c : Int) (hy : 0 ≤ y ∧ y ≤ 72057594037927935) (hc : 0 ≤ c ∧ c ≤ 255) : bits .or .u64 (y * 256) c = y * 256 + c := by
  obtain ⟨Y, rfl⟩ := Int.eq_ofNat_of_zero_le hy.1
  obtain ⟨C, rfl⟩ := Int.eq_ofNat_of_zero_le hc.1
  have e := Nat.two_pow_add_eq_or_of_lt (b := C) (i := 8) (by omega) Y
  have h := u64_or_nat (Y * 256) C (by omega) (by omega)
  rw [show (Y : Int) * 256 = ((Y * 256 : Nat) : Int) by omega, h, show Y * 256 = 2 ^ 8 * Y by omega, ← e]
  omega

theorem BytesAt.at {w : World} {b off : Nat} {xs : List Int} (h : BytesAt w b off xs) (i : Nat) (x : Int) (hx : xs[i]? = some x) : w.cell? ⟨b, off + i, none⟩ = some (.int .u8 x) := by
  obtain ⟨hi, he⟩ := List.getElem?_eq_some_iff.1 hx
  rw [h.2 i hi, List.getD_eq_getElem?_getD, hx]
  rfl

/-- Num reads what Put wrote -/
theorem oNumPut (n : Int) (hn : 0 ≤ n ∧ n ≤ 4611686018427387903) (more : List Int) (p g o len c : Nat) (w : World) (h : w.cell? ⟨p, 0, none⟩ = some (.slice (some ⟨g, o, none⟩) len c)) (hf : w.frozen? ⟨p, 0, none⟩ = false)
    (B : BytesAt w g o (putA n ++ more)) (hl : (putA n ++ more).length = len) (hc : len ≤ c ∧ c ≤ 9223372036854775807) :
    Calls Try.prog 137 #[.pointer (some ⟨p, 0, none⟩)] w fun e w' => e = .returned (.tuple #[.int .u64 n, .int .i64 0]) ∧ Moved p g o len c (putA n).length w w' := by
  by_cases h1 : n < 64
  · have e : putA n = [n] := by unfold putA; rw [if_pos h1]
    rw [e] at B hl ⊢
    have ev : n % 64 = n := by omega
    have := oNum1S p g o len c n w h hf (B.at 0 n rfl) ⟨hn.1, by omega⟩ ⟨by simp at hl; omega, hc.1⟩ hc.2 (by rw [ev]; unfold sizeI; rw [if_pos h1])
    rw [ev] at this
    exact this
  by_cases h2 : n < 16384
  · have e : putA n = [n / 256 + 64, n % 256] := by unfold putA; rw [if_neg h1, if_pos h2]
    rw [e] at B hl ⊢
    have f1 : bits .or .u64 ((n / 256 + 64) % 64 * 256) (n % 256) = n := by
      rw [or_byte _ _ (by omega) (by omega)]; omega
    exact oNum2S p g o len c _ _ n w h hf (B.at 0 _ rfl) (B.at 1 _ rfl) ⟨by omega, by omega⟩ ⟨by omega, by omega⟩ f1 ⟨by omega, by omega⟩ ⟨by simp at hl; omega, hc.1⟩ hc.2 (by unfold sizeI; rw [if_neg h1, if_pos h2])
  by_cases h3 : n < 1073741824
  · have e : putA n = [n / 16777216 + 128, n / 65536 % 256, n / 256 % 256, n % 256] := by unfold putA; rw [if_neg h1, if_neg h2, if_pos h3]
    rw [e] at B hl ⊢
    have f1 : bits .or .u64 ((n / 16777216 + 128) % 64 * 256) (n / 65536 % 256) = n / 65536 := by
      rw [or_byte _ _ (by omega) (by omega)]; omega
    have f2 : bits .or .u64 (n / 65536 * 256) (n / 256 % 256) = n / 256 := by
      rw [or_byte _ _ (by omega) (by omega)]; omega
    have f3 : bits .or .u64 (n / 256 * 256) (n % 256) = n := by
      rw [or_byte _ _ (by omega) (by omega)]; omega
    exact oNum4S p g o len c _ _ _ _ _ _ n w h hf (B.at 0 _ rfl) (B.at 1 _ rfl) (B.at 2 _ rfl) (B.at 3 _ rfl) ⟨by omega, by omega⟩ ⟨by omega, by omega⟩ ⟨by omega, by omega⟩ ⟨by omega, by omega⟩ f1 ⟨by omega, by omega⟩ f2 ⟨by omega, by omega⟩ f3 ⟨by omega, by omega⟩ ⟨by simp at hl; omega, hc.1⟩ hc.2 (by unfold sizeI; rw [if_neg h1, if_neg h2, if_pos h3])
  · have e : putA n = [n / 72057594037927936 + 192, n / 281474976710656 % 256, n / 1099511627776 % 256, n / 4294967296 % 256, n / 16777216 % 256, n / 65536 % 256, n / 256 % 256, n % 256] := by unfold putA; rw [if_neg h1, if_neg h2, if_neg h3]
    rw [e] at B hl ⊢
    have f1 : bits .or .u64 ((n / 72057594037927936 + 192) % 64 * 256) (n / 281474976710656 % 256) = n / 281474976710656 := by
      rw [or_byte _ _ (by omega) (by omega)]; omega
    have f2 : bits .or .u64 (n / 281474976710656 * 256) (n / 1099511627776 % 256) = n / 1099511627776 := by
      rw [or_byte _ _ (by omega) (by omega)]; omega
    have f3 : bits .or .u64 (n / 1099511627776 * 256) (n / 4294967296 % 256) = n / 4294967296 := by
      rw [or_byte _ _ (by omega) (by omega)]; omega
    have f4 : bits .or .u64 (n / 4294967296 * 256) (n / 16777216 % 256) = n / 16777216 := by
      rw [or_byte _ _ (by omega) (by omega)]; omega
    have f5 : bits .or .u64 (n / 16777216 * 256) (n / 65536 % 256) = n / 65536 := by
      rw [or_byte _ _ (by omega) (by omega)]; omega
    have f6 : bits .or .u64 (n / 65536 * 256) (n / 256 % 256) = n / 256 := by
      rw [or_byte _ _ (by omega) (by omega)]; omega
    have f7 : bits .or .u64 (n / 256 * 256) (n % 256) = n := by
      rw [or_byte _ _ (by omega) (by omega)]; omega
    exact oNum8S p g o len c _ _ _ _ _ _ _ _ _ _ _ _ _ _ n w h hf (B.at 0 _ rfl) (B.at 1 _ rfl) (B.at 2 _ rfl) (B.at 3 _ rfl) (B.at 4 _ rfl) (B.at 5 _ rfl) (B.at 6 _ rfl) (B.at 7 _ rfl) ⟨by omega, by omega⟩ ⟨by omega, by omega⟩ ⟨by omega, by omega⟩ ⟨by omega, by omega⟩ ⟨by omega, by omega⟩ ⟨by omega, by omega⟩ ⟨by omega, by omega⟩ ⟨by omega, by omega⟩ f1 ⟨by omega, by omega⟩ f2 ⟨by omega, by omega⟩ f3 ⟨by omega, by omega⟩ f4 ⟨by omega, by omega⟩ f5 ⟨by omega, by omega⟩ f6 ⟨by omega, by omega⟩ f7 ⟨by omega, by omega⟩ ⟨by simp at hl; omega, hc.1⟩ hc.2 (by unfold sizeI; rw [if_neg h1, if_neg h2, if_neg h3, if_pos hn.2])

/-- nothing is there -/
theorem oNumNone (p c : Nat) (x : Option Addr) (w : World) (h : w.cell? ⟨p, 0, none⟩ = some (.slice x 0 c)) :
    Calls Try.prog 137 #[.pointer (some ⟨p, 0, none⟩)] w fun e w' => e = .returned (.tuple #[.int .u64 0, .int .i64 2]) ∧ w = w' := by
  go_enter Try.func137, Try.ntmps137
  go_wp2_with fail
  exact bodyPost_ret (v := .tuple #[.int .u64 0, .int .i64 2]) (by simp [results, Try.results137, go_sem]) rfl ⟨rfl, rfl⟩

/-- too short -/
theorem oNumCut (p g o len c : Nat) (b0 : Int) (w : World) (h : w.cell? ⟨p, 0, none⟩ = some (.slice (some ⟨g, o, none⟩) len c)) (h0 : w.cell? ⟨g, o, none⟩ = some (.int .u8 b0)) (hl : 1 ≤ len ∧ len ≤ c ∧ c ≤ 9223372036854775807)
    (hk : (64 ≤ b0 ∧ b0 < 128 ∧ len < 2) ∨ (128 ≤ b0 ∧ b0 < 192 ∧ len < 4) ∨ (192 ≤ b0 ∧ b0 ≤ 255 ∧ len < 8)) :
    Calls Try.prog 137 #[.pointer (some ⟨p, 0, none⟩)] w fun e w' => e = .returned (.tuple #[.int .u64 0, .int .i64 2]) ∧ w = w' := by
  have e1 : (1 : Int) ≤ (len : Int) := by omega
  have e2 : (len : Int) ≤ (c : Int) := by omega
  have e3 : (c : Int) ≤ 9223372036854775807 := by omega
  rcases hk with ⟨r1, r2, r3⟩ | ⟨r1, r2, r3⟩ | ⟨r1, r2, r3⟩
  · have e4 : b0 / 64 = 1 := by omega
    have e5 : (len : Int) < 2 := by omega
    go_enter Try.func137, Try.ntmps137
    go_wp2_with fail
    exact bodyPost_ret (v := .tuple #[.int .u64 0, .int .i64 2]) (by simp [results, Try.results137, go_sem]) rfl ⟨rfl, rfl⟩
  · have e4 : b0 / 64 = 2 := by omega
    have e5 : (len : Int) < 4 := by omega
    go_enter Try.func137, Try.ntmps137
    go_wp2_with fail
    exact bodyPost_ret (v := .tuple #[.int .u64 0, .int .i64 2]) (by simp [results, Try.results137, go_sem]) rfl ⟨rfl, rfl⟩
  · have e4 : b0 / 64 = 3 := by omega
    have e5 : (len : Int) < 8 := by omega
    go_enter Try.func137, Try.ntmps137
    go_wp2_with fail
    exact bodyPost_ret (v := .tuple #[.int .u64 0, .int .i64 2]) (by simp [results, Try.results137, go_sem]) rfl ⟨rfl, rfl⟩

/-- a proper beginning of what Put wrote is too short -/
theorem oNumShort (n : Int) (hn : 0 ≤ n ∧ n ≤ 4611686018427387903) (p g o len c : Nat) (w : World) (h : w.cell? ⟨p, 0, none⟩ = some (.slice (some ⟨g, o, none⟩) len c)) (h0 : 1 ≤ len → ∃ b, (putA n)[0]? = some b ∧ w.cell? ⟨g, o, none⟩ = some (.int .u8 b)) (hl : len < (putA n).length) (hc : len ≤ c ∧ c ≤ 9223372036854775807) :
    Calls Try.prog 137 #[.pointer (some ⟨p, 0, none⟩)] w fun e w' => e = .returned (.tuple #[.int .u64 0, .int .i64 2]) ∧ w = w' := by
  by_cases hz : len = 0
  · subst hz
    exact oNumNone p c _ w h
  obtain ⟨b, hb, hcell⟩ := h0 (by omega)
  refine oNumCut p g o len c b w h hcell ⟨by omega, hc⟩ ?_
  unfold putA at hb hl
  by_cases h1 : n < 64
  · rw [if_pos h1] at hl
    simp at hl
    omega
  rw [if_neg h1] at hb hl
  by_cases h2 : n < 16384
  · rw [if_pos h2] at hb hl
    simp at hb hl
    omega
  rw [if_neg h2] at hb hl
  by_cases h3 : n < 1073741824
  · rw [if_pos h3] at hb hl
    simp at hb hl
    omega
  rw [if_neg h3] at hb hl
  simp at hb hl
  omega

end Go.Proofs.Ytikkmdbaekdolaa
