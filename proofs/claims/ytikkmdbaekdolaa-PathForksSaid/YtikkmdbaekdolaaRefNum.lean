/- the reference's Num, for any bytes. -/
import Derived.Test.YtikkmdbaekdolaaRefPut
namespace Go.Proofs.Ytikkmdbaekdolaa
open Go.RowKit Go.Lib
set_option linter.unusedVariables false
set_option maxRecDepth 100000

set_option maxHeartbeats 2000000 in
theorem rNumEnd (x : Option Addr) (len cap at' : Nat) (w : World) (h1 : len ≤ at') (h2 : at' ≤ 9223372036854775807) :
    Calls Try.prog 141 #[.slice x len cap, .int .i64 (at' : Int)] w fun e w' => e = .returned (.tuple #[.int .u64 0, .int .i64 (at' : Int), .int .i64 2]) ∧ w = w' := by
  have e1 : (len : Int) ≤ (at' : Int) := by omega
  have e2 : (at' : Int) ≤ 9223372036854775807 := by omega
  have e3 : (0 : Int) ≤ (at' : Int) := by omega
  have e4 : (len : Int) ≤ 9223372036854775807 := by omega
  go_enter Try.func141, Try.ntmps141
  go_wp2_with fail
  exact bodyPost_ret (v := .tuple #[.int .u64 0, .int .i64 (at' : Int), .int .i64 2]) (by simp [results, Try.results141, go_sem]) rfl ⟨rfl, rfl⟩

set_option maxHeartbeats 2000000 in
theorem rNumCut2 (g o len cap at' : Nat) (b0 : Int) (w : World) (c0 : w.cell? ⟨g, o + at', none⟩ = some (.int .u8 b0)) (r0 : 64 ≤ b0 ∧ b0 < 128) (h1 : at' < len) (h2 : len < at' + 2) (h3 : len ≤ 9223372036854775807) :
    Calls Try.prog 141 #[.slice (some ⟨g, o, none⟩) len cap, .int .i64 (at' : Int)] w fun e w' => e = .returned (.tuple #[.int .u64 0, .int .i64 (at' : Int), .int .i64 2]) ∧ w = w' := by
  have e1 : (at' : Int) < (len : Int) := by omega
  have e2 : (len : Int) < (at' : Int) + 2 := by omega
  have e5 : b0 / 64 = 1 := by omega
  have e3 : (0 : Int) ≤ (at' : Int) := by omega
  have e4 : (len : Int) ≤ 9223372036854775807 := by omega
  go_enter Try.func141, Try.ntmps141
  go_wp2_with fail
  exact bodyPost_ret (v := .tuple #[.int .u64 0, .int .i64 (at' : Int), .int .i64 2]) (by simp [results, Try.results141, go_sem]) rfl ⟨rfl, rfl⟩

set_option maxHeartbeats 2000000 in
theorem rNumCut4 (g o len cap at' : Nat) (b0 : Int) (w : World) (c0 : w.cell? ⟨g, o + at', none⟩ = some (.int .u8 b0)) (r0 : 128 ≤ b0 ∧ b0 < 192) (h1 : at' < len) (h2 : len < at' + 4) (h3 : len ≤ 9223372036854775807) :
    Calls Try.prog 141 #[.slice (some ⟨g, o, none⟩) len cap, .int .i64 (at' : Int)] w fun e w' => e = .returned (.tuple #[.int .u64 0, .int .i64 (at' : Int), .int .i64 2]) ∧ w = w' := by
  have e1 : (at' : Int) < (len : Int) := by omega
  have e2 : (len : Int) < (at' : Int) + 4 := by omega
  have e5 : b0 / 64 = 2 := by omega
  have e3 : (0 : Int) ≤ (at' : Int) := by omega
  have e4 : (len : Int) ≤ 9223372036854775807 := by omega
  go_enter Try.func141, Try.ntmps141
  go_wp2_with fail
  exact bodyPost_ret (v := .tuple #[.int .u64 0, .int .i64 (at' : Int), .int .i64 2]) (by simp [results, Try.results141, go_sem]) rfl ⟨rfl, rfl⟩

set_option maxHeartbeats 2000000 in
theorem rNumCut8 (g o len cap at' : Nat) (b0 : Int) (w : World) (c0 : w.cell? ⟨g, o + at', none⟩ = some (.int .u8 b0)) (r0 : 192 ≤ b0 ∧ b0 < 256) (h1 : at' < len) (h2 : len < at' + 8) (h3 : len ≤ 9223372036854775807) :
    Calls Try.prog 141 #[.slice (some ⟨g, o, none⟩) len cap, .int .i64 (at' : Int)] w fun e w' => e = .returned (.tuple #[.int .u64 0, .int .i64 (at' : Int), .int .i64 2]) ∧ w = w' := by
  have e1 : (at' : Int) < (len : Int) := by omega
  have e2 : (len : Int) < (at' : Int) + 8 := by omega
  have e5 : b0 / 64 = 3 := by omega
  have e3 : (0 : Int) ≤ (at' : Int) := by omega
  have e4 : (len : Int) ≤ 9223372036854775807 := by omega
  go_enter Try.func141, Try.ntmps141
  go_wp2_with fail
  exact bodyPost_ret (v := .tuple #[.int .u64 0, .int .i64 (at' : Int), .int .i64 2]) (by simp [results, Try.results141, go_sem]) rfl ⟨rfl, rfl⟩

set_option maxHeartbeats 2000000 in
theorem rNum1S (g o len cap at' : Nat) (b0  : Int) (w : World) (c0 : w.cell? ⟨g, o + at', none⟩ = some (.int .u8 b0))  (r0 : 0 ≤ b0 ∧ b0 < 64)   (h1 : at' + 1 ≤ len) (h3 : len ≤ 9223372036854775807) (hs : sizeI (b0 % 64) = 1) :
    Calls Try.prog 141 #[.slice (some ⟨g, o, none⟩) len cap, .int .i64 (at' : Int)] w fun e w' => e = .returned (.tuple #[.int .u64 (b0 % 64), .int .i64 ((at' : Int) + 1), .int .i64 0]) ∧ w = w' := by
  have e1 : (at' : Int) + 1 ≤ (len : Int) := by omega
  have e5 : b0 / 64 = 0 := by omega
  have e3 : (0 : Int) ≤ (at' : Int) := by omega
  have e4 : (len : Int) ≤ 9223372036854775807 := by omega
  go_enter Try.func141, Try.ntmps141
  go_wp2_with fail
  refine wp_loop_rounds 1 ?_
  rw [rounds_succ]
  go_wp2_with fail
  refine (rSize (b0 % 64) _).mono ?_; rintro e' w' ⟨rfl, rfl⟩
  rw [hs]
  go_wp2_with fail
  exact bodyPost_ret (v := .tuple #[.int .u64 (b0 % 64), .int .i64 ((at' : Int) + 1), .int .i64 0]) (by simp [results, Try.results141, go_sem]) rfl ⟨rfl, rfl⟩

set_option maxHeartbeats 2000000 in
theorem rNum2F (g o len cap at' : Nat) (b0 b1 v1 : Int) (w : World) (c0 : w.cell? ⟨g, o + at', none⟩ = some (.int .u8 b0)) (c1 : w.cell? ⟨g, o + (at' + 1), none⟩ = some (.int .u8 b1)) (r0 : 64 ≤ b0 ∧ b0 < 128) (r1 : 0 ≤ b1 ∧ b1 ≤ 255) (f1 : bits .or .u64 (b0 % 64 * 256) b1 = v1) (t1 : 0 ≤ v1 ∧ v1 ≤ 16383) (h1 : at' + 2 ≤ len) (h3 : len ≤ 9223372036854775807) (hs : (sizeI v1 != 2) = true) :
    Calls Try.prog 141 #[.slice (some ⟨g, o, none⟩) len cap, .int .i64 (at' : Int)] w fun e w' => e = .returned (.tuple #[.int .u64 0, .int .i64 (at' : Int), .int .i64 5]) ∧ w = w' := by
  have e1 : (at' : Int) + 2 ≤ (len : Int) := by omega
  have e5 : b0 / 64 = 1 := by omega
  have e3 : (0 : Int) ≤ (at' : Int) := by omega
  have e4 : (len : Int) ≤ 9223372036854775807 := by omega
  have a1 : ((at' : Int) + 1).toNat = at' + 1 := by omega
  go_enter Try.func141, Try.ntmps141
  go_wp2_with fail
  refine wp_loop_rounds 2 ?_
  rw [rounds_succ]
  go_wp2_with fail
  rw [rounds_succ]
  go_wp2_with fail
  refine (rSize v1 _).mono ?_; rintro e' w' ⟨rfl, rfl⟩
  go_wp2_with fail
  exact bodyPost_ret (v := .tuple #[.int .u64 0, .int .i64 (at' : Int), .int .i64 5]) (by simp [results, Try.results141, go_sem]) rfl ⟨rfl, rfl⟩

set_option maxHeartbeats 2000000 in
theorem rNum2S (g o len cap at' : Nat) (b0 b1 v1 : Int) (w : World) (c0 : w.cell? ⟨g, o + at', none⟩ = some (.int .u8 b0)) (c1 : w.cell? ⟨g, o + (at' + 1), none⟩ = some (.int .u8 b1)) (r0 : 64 ≤ b0 ∧ b0 < 128) (r1 : 0 ≤ b1 ∧ b1 ≤ 255) (f1 : bits .or .u64 (b0 % 64 * 256) b1 = v1) (t1 : 0 ≤ v1 ∧ v1 ≤ 16383) (h1 : at' + 2 ≤ len) (h3 : len ≤ 9223372036854775807) (hs : sizeI v1 = 2) :
    Calls Try.prog 141 #[.slice (some ⟨g, o, none⟩) len cap, .int .i64 (at' : Int)] w fun e w' => e = .returned (.tuple #[.int .u64 v1, .int .i64 ((at' : Int) + 2), .int .i64 0]) ∧ w = w' := by
  have e1 : (at' : Int) + 2 ≤ (len : Int) := by omega
  have e5 : b0 / 64 = 1 := by omega
  have e3 : (0 : Int) ≤ (at' : Int) := by omega
  have e4 : (len : Int) ≤ 9223372036854775807 := by omega
  have a1 : ((at' : Int) + 1).toNat = at' + 1 := by omega
  go_enter Try.func141, Try.ntmps141
  go_wp2_with fail
  refine wp_loop_rounds 2 ?_
  rw [rounds_succ]
  go_wp2_with fail
  rw [rounds_succ]
  go_wp2_with fail
  refine (rSize v1 _).mono ?_; rintro e' w' ⟨rfl, rfl⟩
  rw [hs]
  go_wp2_with fail
  exact bodyPost_ret (v := .tuple #[.int .u64 v1, .int .i64 ((at' : Int) + 2), .int .i64 0]) (by simp [results, Try.results141, go_sem]) rfl ⟨rfl, rfl⟩

set_option maxHeartbeats 2000000 in
theorem rNum4F (g o len cap at' : Nat) (b0 b1 b2 b3 v1 v2 v3 : Int) (w : World) (c0 : w.cell? ⟨g, o + at', none⟩ = some (.int .u8 b0)) (c1 : w.cell? ⟨g, o + (at' + 1), none⟩ = some (.int .u8 b1)) (c2 : w.cell? ⟨g, o + (at' + 2), none⟩ = some (.int .u8 b2)) (c3 : w.cell? ⟨g, o + (at' + 3), none⟩ = some (.int .u8 b3)) (r0 : 128 ≤ b0 ∧ b0 < 192) (r1 : 0 ≤ b1 ∧ b1 ≤ 255) (r2 : 0 ≤ b2 ∧ b2 ≤ 255) (r3 : 0 ≤ b3 ∧ b3 ≤ 255) (f1 : bits .or .u64 (b0 % 64 * 256) b1 = v1) (t1 : 0 ≤ v1 ∧ v1 ≤ 16383) (f2 : bits .or .u64 (v1 * 256) b2 = v2) (t2 : 0 ≤ v2 ∧ v2 ≤ 4194303) (f3 : bits .or .u64 (v2 * 256) b3 = v3) (t3 : 0 ≤ v3 ∧ v3 ≤ 1073741823) (h1 : at' + 4 ≤ len) (h3 : len ≤ 9223372036854775807) (hs : (sizeI v3 != 4) = true) :
    Calls Try.prog 141 #[.slice (some ⟨g, o, none⟩) len cap, .int .i64 (at' : Int)] w fun e w' => e = .returned (.tuple #[.int .u64 0, .int .i64 (at' : Int), .int .i64 5]) ∧ w = w' := by
  have e1 : (at' : Int) + 4 ≤ (len : Int) := by omega
  have e5 : b0 / 64 = 2 := by omega
  have e3 : (0 : Int) ≤ (at' : Int) := by omega
  have e4 : (len : Int) ≤ 9223372036854775807 := by omega
  have a1 : ((at' : Int) + 1).toNat = at' + 1 := by omega
  have a2 : ((at' : Int) + 2).toNat = at' + 2 := by omega
  have a3 : ((at' : Int) + 3).toNat = at' + 3 := by omega
  go_enter Try.func141, Try.ntmps141
  go_wp2_with fail
  refine wp_loop_rounds 4 ?_
  rw [rounds_succ]
  go_wp2_with fail
  rw [rounds_succ]
  go_wp2_with fail
  rw [rounds_succ]
  go_wp2_with fail
  rw [rounds_succ]
  go_wp2_with fail
  refine (rSize v3 _).mono ?_; rintro e' w' ⟨rfl, rfl⟩
  go_wp2_with fail
  exact bodyPost_ret (v := .tuple #[.int .u64 0, .int .i64 (at' : Int), .int .i64 5]) (by simp [results, Try.results141, go_sem]) rfl ⟨rfl, rfl⟩

set_option maxHeartbeats 2000000 in
theorem rNum4S (g o len cap at' : Nat) (b0 b1 b2 b3 v1 v2 v3 : Int) (w : World) (c0 : w.cell? ⟨g, o + at', none⟩ = some (.int .u8 b0)) (c1 : w.cell? ⟨g, o + (at' + 1), none⟩ = some (.int .u8 b1)) (c2 : w.cell? ⟨g, o + (at' + 2), none⟩ = some (.int .u8 b2)) (c3 : w.cell? ⟨g, o + (at' + 3), none⟩ = some (.int .u8 b3)) (r0 : 128 ≤ b0 ∧ b0 < 192) (r1 : 0 ≤ b1 ∧ b1 ≤ 255) (r2 : 0 ≤ b2 ∧ b2 ≤ 255) (r3 : 0 ≤ b3 ∧ b3 ≤ 255) (f1 : bits .or .u64 (b0 % 64 * 256) b1 = v1) (t1 : 0 ≤ v1 ∧ v1 ≤ 16383) (f2 : bits .or .u64 (v1 * 256) b2 = v2) (t2 : 0 ≤ v2 ∧ v2 ≤ 4194303) (f3 : bits .or .u64 (v2 * 256) b3 = v3) (t3 : 0 ≤ v3 ∧ v3 ≤ 1073741823) (h1 : at' + 4 ≤ len) (h3 : len ≤ 9223372036854775807) (hs : sizeI v3 = 4) :
    Calls Try.prog 141 #[.slice (some ⟨g, o, none⟩) len cap, .int .i64 (at' : Int)] w fun e w' => e = .returned (.tuple #[.int .u64 v3, .int .i64 ((at' : Int) + 4), .int .i64 0]) ∧ w = w' := by
  have e1 : (at' : Int) + 4 ≤ (len : Int) := by omega
  have e5 : b0 / 64 = 2 := by omega
  have e3 : (0 : Int) ≤ (at' : Int) := by omega
  have e4 : (len : Int) ≤ 9223372036854775807 := by omega
  have a1 : ((at' : Int) + 1).toNat = at' + 1 := by omega
  have a2 : ((at' : Int) + 2).toNat = at' + 2 := by omega
  have a3 : ((at' : Int) + 3).toNat = at' + 3 := by omega
  go_enter Try.func141, Try.ntmps141
  go_wp2_with fail
  refine wp_loop_rounds 4 ?_
  rw [rounds_succ]
  go_wp2_with fail
  rw [rounds_succ]
  go_wp2_with fail
  rw [rounds_succ]
  go_wp2_with fail
  rw [rounds_succ]
  go_wp2_with fail
  refine (rSize v3 _).mono ?_; rintro e' w' ⟨rfl, rfl⟩
  rw [hs]
  go_wp2_with fail
  exact bodyPost_ret (v := .tuple #[.int .u64 v3, .int .i64 ((at' : Int) + 4), .int .i64 0]) (by simp [results, Try.results141, go_sem]) rfl ⟨rfl, rfl⟩

set_option maxHeartbeats 2000000 in
theorem rNum8F (g o len cap at' : Nat) (b0 b1 b2 b3 b4 b5 b6 b7 v1 v2 v3 v4 v5 v6 v7 : Int) (w : World) (c0 : w.cell? ⟨g, o + at', none⟩ = some (.int .u8 b0)) (c1 : w.cell? ⟨g, o + (at' + 1), none⟩ = some (.int .u8 b1)) (c2 : w.cell? ⟨g, o + (at' + 2), none⟩ = some (.int .u8 b2)) (c3 : w.cell? ⟨g, o + (at' + 3), none⟩ = some (.int .u8 b3)) (c4 : w.cell? ⟨g, o + (at' + 4), none⟩ = some (.int .u8 b4)) (c5 : w.cell? ⟨g, o + (at' + 5), none⟩ = some (.int .u8 b5)) (c6 : w.cell? ⟨g, o + (at' + 6), none⟩ = some (.int .u8 b6)) (c7 : w.cell? ⟨g, o + (at' + 7), none⟩ = some (.int .u8 b7)) (r0 : 192 ≤ b0 ∧ b0 < 256) (r1 : 0 ≤ b1 ∧ b1 ≤ 255) (r2 : 0 ≤ b2 ∧ b2 ≤ 255) (r3 : 0 ≤ b3 ∧ b3 ≤ 255) (r4 : 0 ≤ b4 ∧ b4 ≤ 255) (r5 : 0 ≤ b5 ∧ b5 ≤ 255) (r6 : 0 ≤ b6 ∧ b6 ≤ 255) (r7 : 0 ≤ b7 ∧ b7 ≤ 255) (f1 : bits .or .u64 (b0 % 64 * 256) b1 = v1) (t1 : 0 ≤ v1 ∧ v1 ≤ 16383) (f2 : bits .or .u64 (v1 * 256) b2 = v2) (t2 : 0 ≤ v2 ∧ v2 ≤ 4194303) (f3 : bits .or .u64 (v2 * 256) b3 = v3) (t3 : 0 ≤ v3 ∧ v3 ≤ 1073741823) (f4 : bits .or .u64 (v3 * 256) b4 = v4) (t4 : 0 ≤ v4 ∧ v4 ≤ 274877906943) (f5 : bits .or .u64 (v4 * 256) b5 = v5) (t5 : 0 ≤ v5 ∧ v5 ≤ 70368744177663) (f6 : bits .or .u64 (v5 * 256) b6 = v6) (t6 : 0 ≤ v6 ∧ v6 ≤ 18014398509481983) (f7 : bits .or .u64 (v6 * 256) b7 = v7) (t7 : 0 ≤ v7 ∧ v7 ≤ 4611686018427387903) (h1 : at' + 8 ≤ len) (h3 : len ≤ 9223372036854775807) (hs : (sizeI v7 != 8) = true) :
    Calls Try.prog 141 #[.slice (some ⟨g, o, none⟩) len cap, .int .i64 (at' : Int)] w fun e w' => e = .returned (.tuple #[.int .u64 0, .int .i64 (at' : Int), .int .i64 5]) ∧ w = w' := by
  have e1 : (at' : Int) + 8 ≤ (len : Int) := by omega
  have e5 : b0 / 64 = 3 := by omega
  have e3 : (0 : Int) ≤ (at' : Int) := by omega
  have e4 : (len : Int) ≤ 9223372036854775807 := by omega
  have a1 : ((at' : Int) + 1).toNat = at' + 1 := by omega
  have a2 : ((at' : Int) + 2).toNat = at' + 2 := by omega
  have a3 : ((at' : Int) + 3).toNat = at' + 3 := by omega
  have a4 : ((at' : Int) + 4).toNat = at' + 4 := by omega
  have a5 : ((at' : Int) + 5).toNat = at' + 5 := by omega
  have a6 : ((at' : Int) + 6).toNat = at' + 6 := by omega
  have a7 : ((at' : Int) + 7).toNat = at' + 7 := by omega
  go_enter Try.func141, Try.ntmps141
  go_wp2_with fail
  refine wp_loop_rounds 8 ?_
  rw [rounds_succ]
  go_wp2_with fail
  rw [rounds_succ]
  go_wp2_with fail
  rw [rounds_succ]
  go_wp2_with fail
  rw [rounds_succ]
  go_wp2_with fail
  rw [rounds_succ]
  go_wp2_with fail
  rw [rounds_succ]
  go_wp2_with fail
  rw [rounds_succ]
  go_wp2_with fail
  rw [rounds_succ]
  go_wp2_with fail
  refine (rSize v7 _).mono ?_; rintro e' w' ⟨rfl, rfl⟩
  go_wp2_with fail
  exact bodyPost_ret (v := .tuple #[.int .u64 0, .int .i64 (at' : Int), .int .i64 5]) (by simp [results, Try.results141, go_sem]) rfl ⟨rfl, rfl⟩

set_option maxHeartbeats 2000000 in
theorem rNum8S (g o len cap at' : Nat) (b0 b1 b2 b3 b4 b5 b6 b7 v1 v2 v3 v4 v5 v6 v7 : Int) (w : World) (c0 : w.cell? ⟨g, o + at', none⟩ = some (.int .u8 b0)) (c1 : w.cell? ⟨g, o + (at' + 1), none⟩ = some (.int .u8 b1)) (c2 : w.cell? ⟨g, o + (at' + 2), none⟩ = some (.int .u8 b2)) (c3 : w.cell? ⟨g, o + (at' + 3), none⟩ = some (.int .u8 b3)) (c4 : w.cell? ⟨g, o + (at' + 4), none⟩ = some (.int .u8 b4)) (c5 : w.cell? ⟨g, o + (at' + 5), none⟩ = some (.int .u8 b5)) (c6 : w.cell? ⟨g, o + (at' + 6), none⟩ = some (.int .u8 b6)) (c7 : w.cell? ⟨g, o + (at' + 7), none⟩ = some (.int .u8 b7)) (r0 : 192 ≤ b0 ∧ b0 < 256) (r1 : 0 ≤ b1 ∧ b1 ≤ 255) (r2 : 0 ≤ b2 ∧ b2 ≤ 255) (r3 : 0 ≤ b3 ∧ b3 ≤ 255) (r4 : 0 ≤ b4 ∧ b4 ≤ 255) (r5 : 0 ≤ b5 ∧ b5 ≤ 255) (r6 : 0 ≤ b6 ∧ b6 ≤ 255) (r7 : 0 ≤ b7 ∧ b7 ≤ 255) (f1 : bits .or .u64 (b0 % 64 * 256) b1 = v1) (t1 : 0 ≤ v1 ∧ v1 ≤ 16383) (f2 : bits .or .u64 (v1 * 256) b2 = v2) (t2 : 0 ≤ v2 ∧ v2 ≤ 4194303) (f3 : bits .or .u64 (v2 * 256) b3 = v3) (t3 : 0 ≤ v3 ∧ v3 ≤ 1073741823) (f4 : bits .or .u64 (v3 * 256) b4 = v4) (t4 : 0 ≤ v4 ∧ v4 ≤ 274877906943) (f5 : bits .or .u64 (v4 * 256) b5 = v5) (t5 : 0 ≤ v5 ∧ v5 ≤ 70368744177663) (f6 : bits .or .u64 (v5 * 256) b6 = v6) (t6 : 0 ≤ v6 ∧ v6 ≤ 18014398509481983) (f7 : bits .or .u64 (v6 * 256) b7 = v7) (t7 : 0 ≤ v7 ∧ v7 ≤ 4611686018427387903) (h1 : at' + 8 ≤ len) (h3 : len ≤ 9223372036854775807) (hs : sizeI v7 = 8) :
    Calls Try.prog 141 #[.slice (some ⟨g, o, none⟩) len cap, .int .i64 (at' : Int)] w fun e w' => e = .returned (.tuple #[.int .u64 v7, .int .i64 ((at' : Int) + 8), .int .i64 0]) ∧ w = w' := by
  have e1 : (at' : Int) + 8 ≤ (len : Int) := by omega
  have e5 : b0 / 64 = 3 := by omega
  have e3 : (0 : Int) ≤ (at' : Int) := by omega
  have e4 : (len : Int) ≤ 9223372036854775807 := by omega
  have a1 : ((at' : Int) + 1).toNat = at' + 1 := by omega
  have a2 : ((at' : Int) + 2).toNat = at' + 2 := by omega
  have a3 : ((at' : Int) + 3).toNat = at' + 3 := by omega
  have a4 : ((at' : Int) + 4).toNat = at' + 4 := by omega
  have a5 : ((at' : Int) + 5).toNat = at' + 5 := by omega
  have a6 : ((at' : Int) + 6).toNat = at' + 6 := by omega
  have a7 : ((at' : Int) + 7).toNat = at' + 7 := by omega
  go_enter Try.func141, Try.ntmps141
  go_wp2_with fail
  refine wp_loop_rounds 8 ?_
  rw [rounds_succ]
  go_wp2_with fail
  rw [rounds_succ]
  go_wp2_with fail
  rw [rounds_succ]
  go_wp2_with fail
  rw [rounds_succ]
  go_wp2_with fail
  rw [rounds_succ]
  go_wp2_with fail
  rw [rounds_succ]
  go_wp2_with fail
  rw [rounds_succ]
  go_wp2_with fail
  rw [rounds_succ]
  go_wp2_with fail
  refine (rSize v7 _).mono ?_; rintro e' w' ⟨rfl, rfl⟩
  rw [hs]
  go_wp2_with fail
  exact bodyPost_ret (v := .tuple #[.int .u64 v7, .int .i64 ((at' : Int) + 8), .int .i64 0]) (by simp [results, Try.results141, go_sem]) rfl ⟨rfl, rfl⟩

end Go.Proofs.Ytikkmdbaekdolaa
