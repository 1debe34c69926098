/- Num, for any bytes. -/
import Derived.Test.YtikkmdbaekdolaaOrder
namespace Go.Proofs.Ytikkmdbaekdolaa
open Go.RowKit Go.Lib
set_option linter.unusedVariables false
set_option maxRecDepth 100000

/-- the reader stands k bytes further -/
def Moved (p g o len c k : Nat) (w w' : World) : Prop := ∃ x, (c = k ∨ x = some ⟨g, o + k, none⟩) ∧ w' = w.setCell ⟨p, 0, none⟩ (.slice x (len - k) (c - k))

set_option maxHeartbeats 1000000 in
theorem oNum1S (p g o len c : Nat) (b0  : Int) (w : World) (h : w.cell? ⟨p, 0, none⟩ = some (.slice (some ⟨g, o, none⟩) len c)) (hf : w.frozen? ⟨p, 0, none⟩ = false) (c0 : w.cell? ⟨g, o, none⟩ = some (.int .u8 b0))
    (r0 : 0 ≤ b0 ∧ b0 < 64)   (hl : 1 ≤ len ∧ len ≤ c) (hc : c ≤ 9223372036854775807) (hs : sizeI (b0 % 64) = 1) :
    Calls Try.prog 137 #[.pointer (some ⟨p, 0, none⟩)] w fun e w' => e = .returned (.tuple #[.int .u64 (b0 % 64), .int .i64 0]) ∧ Moved p g o len c 1 w w' := by
  have e1 : (1 : Int) ≤ (len : Int) := by omega
  have e2 : (len : Int) ≤ (c : Int) := by omega
  have e3 : (c : Int) ≤ 9223372036854775807 := by omega
  have e4 : b0 / 64 = 0 := by omega
  by_cases hck : c = 1
  · subst hck
    obtain rfl : len = 1 := by omega
    go_enter Try.func137, Try.ntmps137
    go_wp2_with fail
    refine wp_loop_rounds 1 ?_
    rw [rounds_succ]
    go_wp2_with fail
    refine (oSize (b0 % 64) _).mono ?_; rintro e' w' ⟨rfl, rfl⟩
    rw [hs]
    go_wp2_with fail
    exact bodyPost_ret (v := .tuple #[.int .u64 (b0 % 64), .int .i64 0]) (by simp [results, Try.results137, go_sem]) rfl ⟨rfl, _, .inl rfl, rfl⟩
  · skip
    go_enter Try.func137, Try.ntmps137
    go_wp2_with fail
    refine wp_loop_rounds 1 ?_
    rw [rounds_succ]
    go_wp2_with fail
    refine (oSize (b0 % 64) _).mono ?_; rintro e' w' ⟨rfl, rfl⟩
    rw [hs]
    go_wp2_with fail
    exact bodyPost_ret (v := .tuple #[.int .u64 (b0 % 64), .int .i64 0]) (by simp [results, Try.results137, go_sem]) rfl ⟨rfl, _, .inr rfl, rfl⟩

set_option maxHeartbeats 1000000 in
theorem oNum2F (p g o len c : Nat) (b0 b1 v1 : Int) (w : World) (h : w.cell? ⟨p, 0, none⟩ = some (.slice (some ⟨g, o, none⟩) len c)) (hf : w.frozen? ⟨p, 0, none⟩ = false) (c0 : w.cell? ⟨g, o, none⟩ = some (.int .u8 b0)) (c1 : w.cell? ⟨g, o + 1, none⟩ = some (.int .u8 b1))
    (r0 : 64 ≤ b0 ∧ b0 < 128) (r1 : 0 ≤ b1 ∧ b1 ≤ 255) (f1 : bits .or .u64 (b0 % 64 * 256) b1 = v1) (t1 : 0 ≤ v1 ∧ v1 ≤ 16383) (hl : 2 ≤ len ∧ len ≤ c) (hc : c ≤ 9223372036854775807) (hs : (sizeI v1 != 2) = true) :
    Calls Try.prog 137 #[.pointer (some ⟨p, 0, none⟩)] w fun e w' => e = .returned (.tuple #[.int .u64 0, .int .i64 5]) ∧ w = w' := by
  have e1 : (2 : Int) ≤ (len : Int) := by omega
  have e2 : (len : Int) ≤ (c : Int) := by omega
  have e3 : (c : Int) ≤ 9223372036854775807 := by omega
  have e4 : b0 / 64 = 1 := by omega
  go_enter Try.func137, Try.ntmps137
  go_wp2_with fail
  refine wp_loop_rounds 2 ?_
  rw [rounds_succ]
  go_wp2_with fail
  rw [rounds_succ]
  go_wp2_with fail
  refine (oSize v1 _).mono ?_; rintro e' w' ⟨rfl, rfl⟩
  go_wp2_with fail
  exact bodyPost_ret (v := .tuple #[.int .u64 0, .int .i64 5]) (by simp [results, Try.results137, go_sem]) rfl ⟨rfl, rfl⟩

set_option maxHeartbeats 1000000 in
theorem oNum2S (p g o len c : Nat) (b0 b1 v1 : Int) (w : World) (h : w.cell? ⟨p, 0, none⟩ = some (.slice (some ⟨g, o, none⟩) len c)) (hf : w.frozen? ⟨p, 0, none⟩ = false) (c0 : w.cell? ⟨g, o, none⟩ = some (.int .u8 b0)) (c1 : w.cell? ⟨g, o + 1, none⟩ = some (.int .u8 b1))
    (r0 : 64 ≤ b0 ∧ b0 < 128) (r1 : 0 ≤ b1 ∧ b1 ≤ 255) (f1 : bits .or .u64 (b0 % 64 * 256) b1 = v1) (t1 : 0 ≤ v1 ∧ v1 ≤ 16383) (hl : 2 ≤ len ∧ len ≤ c) (hc : c ≤ 9223372036854775807) (hs : sizeI v1 = 2) :
    Calls Try.prog 137 #[.pointer (some ⟨p, 0, none⟩)] w fun e w' => e = .returned (.tuple #[.int .u64 v1, .int .i64 0]) ∧ Moved p g o len c 2 w w' := by
  have e1 : (2 : Int) ≤ (len : Int) := by omega
  have e2 : (len : Int) ≤ (c : Int) := by omega
  have e3 : (c : Int) ≤ 9223372036854775807 := by omega
  have e4 : b0 / 64 = 1 := by omega
  by_cases hck : c = 2
  · subst hck
    obtain rfl : len = 2 := by omega
    go_enter Try.func137, Try.ntmps137
    go_wp2_with fail
    refine wp_loop_rounds 2 ?_
    rw [rounds_succ]
    go_wp2_with fail
    rw [rounds_succ]
    go_wp2_with fail
    refine (oSize v1 _).mono ?_; rintro e' w' ⟨rfl, rfl⟩
    rw [hs]
    go_wp2_with fail
    exact bodyPost_ret (v := .tuple #[.int .u64 v1, .int .i64 0]) (by simp [results, Try.results137, go_sem]) rfl ⟨rfl, _, .inl rfl, rfl⟩
  · skip
    go_enter Try.func137, Try.ntmps137
    go_wp2_with fail
    refine wp_loop_rounds 2 ?_
    rw [rounds_succ]
    go_wp2_with fail
    rw [rounds_succ]
    go_wp2_with fail
    refine (oSize v1 _).mono ?_; rintro e' w' ⟨rfl, rfl⟩
    rw [hs]
    go_wp2_with fail
    exact bodyPost_ret (v := .tuple #[.int .u64 v1, .int .i64 0]) (by simp [results, Try.results137, go_sem]) rfl ⟨rfl, _, .inr rfl, rfl⟩

set_option maxHeartbeats 1000000 in
theorem oNum4F (p g o len c : Nat) (b0 b1 b2 b3 v1 v2 v3 : Int) (w : World) (h : w.cell? ⟨p, 0, none⟩ = some (.slice (some ⟨g, o, none⟩) len c)) (hf : w.frozen? ⟨p, 0, none⟩ = false) (c0 : w.cell? ⟨g, o, none⟩ = some (.int .u8 b0)) (c1 : w.cell? ⟨g, o + 1, none⟩ = some (.int .u8 b1)) (c2 : w.cell? ⟨g, o + 2, none⟩ = some (.int .u8 b2)) (c3 : w.cell? ⟨g, o + 3, none⟩ = some (.int .u8 b3))
    (r0 : 128 ≤ b0 ∧ b0 < 192) (r1 : 0 ≤ b1 ∧ b1 ≤ 255) (r2 : 0 ≤ b2 ∧ b2 ≤ 255) (r3 : 0 ≤ b3 ∧ b3 ≤ 255) (f1 : bits .or .u64 (b0 % 64 * 256) b1 = v1) (t1 : 0 ≤ v1 ∧ v1 ≤ 16383) (f2 : bits .or .u64 (v1 * 256) b2 = v2) (t2 : 0 ≤ v2 ∧ v2 ≤ 4194303) (f3 : bits .or .u64 (v2 * 256) b3 = v3) (t3 : 0 ≤ v3 ∧ v3 ≤ 1073741823) (hl : 4 ≤ len ∧ len ≤ c) (hc : c ≤ 9223372036854775807) (hs : (sizeI v3 != 4) = true) :
    Calls Try.prog 137 #[.pointer (some ⟨p, 0, none⟩)] w fun e w' => e = .returned (.tuple #[.int .u64 0, .int .i64 5]) ∧ w = w' := by
  have e1 : (4 : Int) ≤ (len : Int) := by omega
  have e2 : (len : Int) ≤ (c : Int) := by omega
  have e3 : (c : Int) ≤ 9223372036854775807 := by omega
  have e4 : b0 / 64 = 2 := by omega
  go_enter Try.func137, Try.ntmps137
  go_wp2_with fail
  refine wp_loop_rounds 4 ?_
  rw [rounds_succ]
  go_wp2_with fail
  rw [rounds_succ]
  go_wp2_with fail
  rw [rounds_succ]
  go_wp2_with fail
  rw [rounds_succ]
  go_wp2_with fail
  refine (oSize v3 _).mono ?_; rintro e' w' ⟨rfl, rfl⟩
  go_wp2_with fail
  exact bodyPost_ret (v := .tuple #[.int .u64 0, .int .i64 5]) (by simp [results, Try.results137, go_sem]) rfl ⟨rfl, rfl⟩

set_option maxHeartbeats 1000000 in
theorem oNum4S (p g o len c : Nat) (b0 b1 b2 b3 v1 v2 v3 : Int) (w : World) (h : w.cell? ⟨p, 0, none⟩ = some (.slice (some ⟨g, o, none⟩) len c)) (hf : w.frozen? ⟨p, 0, none⟩ = false) (c0 : w.cell? ⟨g, o, none⟩ = some (.int .u8 b0)) (c1 : w.cell? ⟨g, o + 1, none⟩ = some (.int .u8 b1)) (c2 : w.cell? ⟨g, o + 2, none⟩ = some (.int .u8 b2)) (c3 : w.cell? ⟨g, o + 3, none⟩ = some (.int .u8 b3))
    (r0 : 128 ≤ b0 ∧ b0 < 192) (r1 : 0 ≤ b1 ∧ b1 ≤ 255) (r2 : 0 ≤ b2 ∧ b2 ≤ 255) (r3 : 0 ≤ b3 ∧ b3 ≤ 255) (f1 : bits .or .u64 (b0 % 64 * 256) b1 = v1) (t1 : 0 ≤ v1 ∧ v1 ≤ 16383) (f2 : bits .or .u64 (v1 * 256) b2 = v2) (t2 : 0 ≤ v2 ∧ v2 ≤ 4194303) (f3 : bits .or .u64 (v2 * 256) b3 = v3) (t3 : 0 ≤ v3 ∧ v3 ≤ 1073741823) (hl : 4 ≤ len ∧ len ≤ c) (hc : c ≤ 9223372036854775807) (hs : sizeI v3 = 4) :
    Calls Try.prog 137 #[.pointer (some ⟨p, 0, none⟩)] w fun e w' => e = .returned (.tuple #[.int .u64 v3, .int .i64 0]) ∧ Moved p g o len c 4 w w' := by
  have e1 : (4 : Int) ≤ (len : Int) := by omega
  have e2 : (len : Int) ≤ (c : Int) := by omega
  have e3 : (c : Int) ≤ 9223372036854775807 := by omega
  have e4 : b0 / 64 = 2 := by omega
  by_cases hck : c = 4
  · subst hck
    obtain rfl : len = 4 := by omega
    go_enter Try.func137, Try.ntmps137
    go_wp2_with fail
    refine wp_loop_rounds 4 ?_
    rw [rounds_succ]
    go_wp2_with fail
    rw [rounds_succ]
    go_wp2_with fail
    rw [rounds_succ]
    go_wp2_with fail
    rw [rounds_succ]
    go_wp2_with fail
    refine (oSize v3 _).mono ?_; rintro e' w' ⟨rfl, rfl⟩
    rw [hs]
    go_wp2_with fail
    exact bodyPost_ret (v := .tuple #[.int .u64 v3, .int .i64 0]) (by simp [results, Try.results137, go_sem]) rfl ⟨rfl, _, .inl rfl, rfl⟩
  · skip
    go_enter Try.func137, Try.ntmps137
    go_wp2_with fail
    refine wp_loop_rounds 4 ?_
    rw [rounds_succ]
    go_wp2_with fail
    rw [rounds_succ]
    go_wp2_with fail
    rw [rounds_succ]
    go_wp2_with fail
    rw [rounds_succ]
    go_wp2_with fail
    refine (oSize v3 _).mono ?_; rintro e' w' ⟨rfl, rfl⟩
    rw [hs]
    go_wp2_with fail
    exact bodyPost_ret (v := .tuple #[.int .u64 v3, .int .i64 0]) (by simp [results, Try.results137, go_sem]) rfl ⟨rfl, _, .inr rfl, rfl⟩

set_option maxHeartbeats 1000000 in
theorem oNum8F (p g o len c : Nat) (b0 b1 b2 b3 b4 b5 b6 b7 v1 v2 v3 v4 v5 v6 v7 : Int) (w : World) (h : w.cell? ⟨p, 0, none⟩ = some (.slice (some ⟨g, o, none⟩) len c)) (hf : w.frozen? ⟨p, 0, none⟩ = false) (c0 : w.cell? ⟨g, o, none⟩ = some (.int .u8 b0)) (c1 : w.cell? ⟨g, o + 1, none⟩ = some (.int .u8 b1)) (c2 : w.cell? ⟨g, o + 2, none⟩ = some (.int .u8 b2)) (c3 : w.cell? ⟨g, o + 3, none⟩ = some (.int .u8 b3)) (c4 : w.cell? ⟨g, o + 4, none⟩ = some (.int .u8 b4)) (c5 : w.cell? ⟨g, o + 5, none⟩ = some (.int .u8 b5)) (c6 : w.cell? ⟨g, o + 6, none⟩ = some (.int .u8 b6)) (c7 : w.cell? ⟨g, o + 7, none⟩ = some (.int .u8 b7))
    (r0 : 192 ≤ b0 ∧ b0 < 256) (r1 : 0 ≤ b1 ∧ b1 ≤ 255) (r2 : 0 ≤ b2 ∧ b2 ≤ 255) (r3 : 0 ≤ b3 ∧ b3 ≤ 255) (r4 : 0 ≤ b4 ∧ b4 ≤ 255) (r5 : 0 ≤ b5 ∧ b5 ≤ 255) (r6 : 0 ≤ b6 ∧ b6 ≤ 255) (r7 : 0 ≤ b7 ∧ b7 ≤ 255) (f1 : bits .or .u64 (b0 % 64 * 256) b1 = v1) (t1 : 0 ≤ v1 ∧ v1 ≤ 16383) (f2 : bits .or .u64 (v1 * 256) b2 = v2) (t2 : 0 ≤ v2 ∧ v2 ≤ 4194303) (f3 : bits .or .u64 (v2 * 256) b3 = v3) (t3 : 0 ≤ v3 ∧ v3 ≤ 1073741823) (f4 : bits .or .u64 (v3 * 256) b4 = v4) (t4 : 0 ≤ v4 ∧ v4 ≤ 274877906943) (f5 : bits .or .u64 (v4 * 256) b5 = v5) (t5 : 0 ≤ v5 ∧ v5 ≤ 70368744177663) (f6 : bits .or .u64 (v5 * 256) b6 = v6) (t6 : 0 ≤ v6 ∧ v6 ≤ 18014398509481983) (f7 : bits .or .u64 (v6 * 256) b7 = v7) (t7 : 0 ≤ v7 ∧ v7 ≤ 4611686018427387903) (hl : 8 ≤ len ∧ len ≤ c) (hc : c ≤ 9223372036854775807) (hs : (sizeI v7 != 8) = true) :
    Calls Try.prog 137 #[.pointer (some ⟨p, 0, none⟩)] w fun e w' => e = .returned (.tuple #[.int .u64 0, .int .i64 5]) ∧ w = w' := by
  have e1 : (8 : Int) ≤ (len : Int) := by omega
  have e2 : (len : Int) ≤ (c : Int) := by omega
  have e3 : (c : Int) ≤ 9223372036854775807 := by omega
  have e4 : b0 / 64 = 3 := by omega
  go_enter Try.func137, Try.ntmps137
  go_wp2_with fail
  refine wp_loop_rounds 8 ?_
  rw [rounds_succ]
  go_wp2_with fail
  rw [rounds_succ]
  go_wp2_with fail
  rw [rounds_succ]
  go_wp2_with fail
  rw [rounds_succ]
  go_wp2_with fail
  rw [rounds_succ]
  go_wp2_with fail
  rw [rounds_succ]
  go_wp2_with fail
  rw [rounds_succ]
  go_wp2_with fail
  rw [rounds_succ]
  go_wp2_with fail
  refine (oSize v7 _).mono ?_; rintro e' w' ⟨rfl, rfl⟩
  go_wp2_with fail
  exact bodyPost_ret (v := .tuple #[.int .u64 0, .int .i64 5]) (by simp [results, Try.results137, go_sem]) rfl ⟨rfl, rfl⟩

set_option maxHeartbeats 1000000 in
theorem oNum8S (p g o len c : Nat) (b0 b1 b2 b3 b4 b5 b6 b7 v1 v2 v3 v4 v5 v6 v7 : Int) (w : World) (h : w.cell? ⟨p, 0, none⟩ = some (.slice (some ⟨g, o, none⟩) len c)) (hf : w.frozen? ⟨p, 0, none⟩ = false) (c0 : w.cell? ⟨g, o, none⟩ = some (.int .u8 b0)) (c1 : w.cell? ⟨g, o + 1, none⟩ = some (.int .u8 b1)) (c2 : w.cell? ⟨g, o + 2, none⟩ = some (.int .u8 b2)) (c3 : w.cell? ⟨g, o + 3, none⟩ = some (.int .u8 b3)) (c4 : w.cell? ⟨g, o + 4, none⟩ = some (.int .u8 b4)) (c5 : w.cell? ⟨g, o + 5, none⟩ = some (.int .u8 b5)) (c6 : w.cell? ⟨g, o + 6, none⟩ = some (.int .u8 b6)) (c7 : w.cell? ⟨g, o + 7, none⟩ = some (.int .u8 b7))
    (r0 : 192 ≤ b0 ∧ b0 < 256) (r1 : 0 ≤ b1 ∧ b1 ≤ 255) (r2 : 0 ≤ b2 ∧ b2 ≤ 255) (r3 : 0 ≤ b3 ∧ b3 ≤ 255) (r4 : 0 ≤ b4 ∧ b4 ≤ 255) (r5 : 0 ≤ b5 ∧ b5 ≤ 255) (r6 : 0 ≤ b6 ∧ b6 ≤ 255) (r7 : 0 ≤ b7 ∧ b7 ≤ 255) (f1 : bits .or .u64 (b0 % 64 * 256) b1 = v1) (t1 : 0 ≤ v1 ∧ v1 ≤ 16383) (f2 : bits .or .u64 (v1 * 256) b2 = v2) (t2 : 0 ≤ v2 ∧ v2 ≤ 4194303) (f3 : bits .or .u64 (v2 * 256) b3 = v3) (t3 : 0 ≤ v3 ∧ v3 ≤ 1073741823) (f4 : bits .or .u64 (v3 * 256) b4 = v4) (t4 : 0 ≤ v4 ∧ v4 ≤ 274877906943) (f5 : bits .or .u64 (v4 * 256) b5 = v5) (t5 : 0 ≤ v5 ∧ v5 ≤ 70368744177663) (f6 : bits .or .u64 (v5 * 256) b6 = v6) (t6 : 0 ≤ v6 ∧ v6 ≤ 18014398509481983) (f7 : bits .or .u64 (v6 * 256) b7 = v7) (t7 : 0 ≤ v7 ∧ v7 ≤ 4611686018427387903) (hl : 8 ≤ len ∧ len ≤ c) (hc : c ≤ 9223372036854775807) (hs : sizeI v7 = 8) :
    Calls Try.prog 137 #[.pointer (some ⟨p, 0, none⟩)] w fun e w' => e = .returned (.tuple #[.int .u64 v7, .int .i64 0]) ∧ Moved p g o len c 8 w w' := by
  have e1 : (8 : Int) ≤ (len : Int) := by omega
  have e2 : (len : Int) ≤ (c : Int) := by omega
  have e3 : (c : Int) ≤ 9223372036854775807 := by omega
  have e4 : b0 / 64 = 3 := by omega
  by_cases hck : c = 8
  · subst hck
    obtain rfl : len = 8 := by omega
    go_enter Try.func137, Try.ntmps137
    go_wp2_with fail
    refine wp_loop_rounds 8 ?_
    rw [rounds_succ]
    go_wp2_with fail
    rw [rounds_succ]
    go_wp2_with fail
    rw [rounds_succ]
    go_wp2_with fail
    rw [rounds_succ]
    go_wp2_with fail
    rw [rounds_succ]
    go_wp2_with fail
    rw [rounds_succ]
    go_wp2_with fail
    rw [rounds_succ]
    go_wp2_with fail
    rw [rounds_succ]
    go_wp2_with fail
    refine (oSize v7 _).mono ?_; rintro e' w' ⟨rfl, rfl⟩
    rw [hs]
    go_wp2_with fail
    exact bodyPost_ret (v := .tuple #[.int .u64 v7, .int .i64 0]) (by simp [results, Try.results137, go_sem]) rfl ⟨rfl, _, .inl rfl, rfl⟩
  · skip
    go_enter Try.func137, Try.ntmps137
    go_wp2_with fail
    refine wp_loop_rounds 8 ?_
    rw [rounds_succ]
    go_wp2_with fail
    rw [rounds_succ]
    go_wp2_with fail
    rw [rounds_succ]
    go_wp2_with fail
    rw [rounds_succ]
    go_wp2_with fail
    rw [rounds_succ]
    go_wp2_with fail
    rw [rounds_succ]
    go_wp2_with fail
    rw [rounds_succ]
    go_wp2_with fail
    rw [rounds_succ]
    go_wp2_with fail
    refine (oSize v7 _).mono ?_; rintro e' w' ⟨rfl, rfl⟩
    rw [hs]
    go_wp2_with fail
    exact bodyPost_ret (v := .tuple #[.int .u64 v7, .int .i64 0]) (by simp [results, Try.results137, go_sem]) rfl ⟨rfl, _, .inr rfl, rfl⟩

end Go.Proofs.Ytikkmdbaekdolaa
