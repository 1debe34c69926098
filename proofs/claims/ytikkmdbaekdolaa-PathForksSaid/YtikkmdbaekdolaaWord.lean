/- Word: eight bytes of a reader, and the reference's. -/
import Derived.Test.YtikkmdbaekdolaaTake
namespace Go.Proofs.Ytikkmdbaekdolaa
open Go.RowKit Go.Lib
set_option linter.unusedVariables false
set_option maxRecDepth 100000

theorem ownBytes {w : World} {base n : Nat} {v : Value} {xs : List Int} (h : w.ownsRow base 5 1 v n (xs.map (.int .u8))) (hn : 0 < n) :
    ∃ g c, v = .slice (some ⟨g, 0, none⟩) n c ∧ base ≤ g ∧ n ≤ c ∧ c ≤ 9223372036854775807 ∧ BytesAt w g 0 xs := by
  obtain ⟨hlen, ⟨_, h2⟩ | ⟨g, c, cur, rfl, hg, hheap, hc, hm, hcs, htake⟩⟩ := h
  · omega
  · unfold maxLen at hm
    refine ⟨g, c, rfl, hg, hc, by omega, (Array.getElem?_eq_some_iff.1 hheap).1, fun i hi => ?_⟩
    rw [cell_of_row w g (0 + i) cur _ _ hheap, ← Array.getElem?_toList]
    have := congrArg (·[i]?) htake
    simp only [List.getElem?_take, List.getElem?_map] at this
    simp at hlen
    rw [if_pos (by omega)] at this
    rw [Nat.zero_add, this, List.getElem?_eq_getElem hi]
    simp [List.getD, List.getElem?_eq_getElem hi]

theorem oWordShort (p len c : Nat) (x : Option Addr) (hn : len < 8) (w : World) (h : w.cell? ⟨p, 0, none⟩ = some (.slice x len c)) :
    Calls Try.prog 124 #[.pointer (some ⟨p, 0, none⟩)] w fun e w' => e = .returned (.tuple #[.int .u64 0, .int .i64 2]) ∧ w = w' := by
  go_enter Try.func124, Try.ntmps124
  go_wp2_with fail
  refine (oTakeShort p len c x 8 (by omega) _ h).mono ?_; rintro e' w' ⟨rfl, rfl⟩
  go_wp2_with fail
  exact bodyPost_ret (v := .tuple #[.int .u64 0, .int .i64 2]) (by simp [results, Try.results124, go_sem]) rfl ⟨rfl, rfl⟩

set_option maxHeartbeats 2000000 in
theorem oWordYes (p g o len c : Nat) (zs : List Int) (b0 b1 b2 b3 b4 b5 b6 b7 v1 v2 v3 v4 v5 v6 v7 : Int) (hT : zs.take 8 = [b0, b1, b2, b3, b4, b5, b6, b7]) (f0 : bits .or .u64 0 b0 = b0) (r0 : 0 ≤ b0 ∧ b0 ≤ 255) (r1 : 0 ≤ b1 ∧ b1 ≤ 255) (r2 : 0 ≤ b2 ∧ b2 ≤ 255) (r3 : 0 ≤ b3 ∧ b3 ≤ 255) (r4 : 0 ≤ b4 ∧ b4 ≤ 255) (r5 : 0 ≤ b5 ∧ b5 ≤ 255) (r6 : 0 ≤ b6 ∧ b6 ≤ 255) (r7 : 0 ≤ b7 ∧ b7 ≤ 255) (f1 : bits .or .u64 (b0 * 256) b1 = v1) (t1 : 0 ≤ v1 ∧ v1 ≤ 65535) (f2 : bits .or .u64 (v1 * 256) b2 = v2) (t2 : 0 ≤ v2 ∧ v2 ≤ 16777215) (f3 : bits .or .u64 (v2 * 256) b3 = v3) (t3 : 0 ≤ v3 ∧ v3 ≤ 4294967295) (f4 : bits .or .u64 (v3 * 256) b4 = v4) (t4 : 0 ≤ v4 ∧ v4 ≤ 1099511627775) (f5 : bits .or .u64 (v4 * 256) b5 = v5) (t5 : 0 ≤ v5 ∧ v5 ≤ 281474976710655) (f6 : bits .or .u64 (v5 * 256) b6 = v6) (t6 : 0 ≤ v6 ∧ v6 ≤ 72057594037927935) (f7 : bits .or .u64 (v6 * 256) b7 = v7) (t7 : 0 ≤ v7 ∧ v7 ≤ 18446744073709551615)
    (w : World) (h : w.cell? ⟨p, 0, none⟩ = some (.slice (some ⟨g, o, none⟩) len c)) (hf : w.frozen? ⟨p, 0, none⟩ = false) (hp : p < w.heap.size)
    (B : BytesAt w g o zs) (hl : zs.length = len) (hm : 8 ≤ len) (hc : len ≤ c ∧ c ≤ 9223372036854775807) (hr : len ≤ 140737488351232) :
    Calls Try.prog 124 #[.pointer (some ⟨p, 0, none⟩)] w fun e w' => ∃ w1, Below w.heap.size w w1 ∧ e = .returned (.tuple #[.int .u64 v7, .int .i64 0]) ∧ Moved p g o len c 8 w1 w' := by
  go_enter Try.func124, Try.ntmps124
  go_wp2_with fail
  refine (oTake p g o len c 8 zs _ hT _ h hf hp B hl hm hc hr).mono ?_; rintro e' w2 ⟨w1, v, bel1, hown, rfl, hmv⟩
  obtain ⟨q, d, rfl, hq, hd, hdm, BQ⟩ := ownBytes hown (by omega)
  have s1 := bel1.size
  have BQ2 : BytesAt w2 q 0 [b0, b1, b2, b3, b4, b5, b6, b7] := by
    obtain ⟨x, hx, hw2⟩ := hmv
    rw [hw2]
    refine ⟨by simpa using BQ.1, fun i hi => ?_⟩
    rw [← BQ.2 i hi]
    have hne : p ≠ q := by omega
    have hne2 : (⟨p, 0, none⟩ : Addr) ≠ ⟨q, 0 + i, none⟩ := by intro e; injection e with e1; omega
    exact World.cell?_setCell_other _ _ _ _ hne2
  have c0 : w2.cell? ⟨q, 0, none⟩ = some (.int .u8 b0) := by have := BQ2.at 0 b0 rfl; simpa using this
  have c1 : w2.cell? ⟨q, 1, none⟩ = some (.int .u8 b1) := by have := BQ2.at 1 b1 rfl; simpa using this
  have c2 : w2.cell? ⟨q, 2, none⟩ = some (.int .u8 b2) := by have := BQ2.at 2 b2 rfl; simpa using this
  have c3 : w2.cell? ⟨q, 3, none⟩ = some (.int .u8 b3) := by have := BQ2.at 3 b3 rfl; simpa using this
  have c4 : w2.cell? ⟨q, 4, none⟩ = some (.int .u8 b4) := by have := BQ2.at 4 b4 rfl; simpa using this
  have c5 : w2.cell? ⟨q, 5, none⟩ = some (.int .u8 b5) := by have := BQ2.at 5 b5 rfl; simpa using this
  have c6 : w2.cell? ⟨q, 6, none⟩ = some (.int .u8 b6) := by have := BQ2.at 6 b6 rfl; simpa using this
  have c7 : w2.cell? ⟨q, 7, none⟩ = some (.int .u8 b7) := by have := BQ2.at 7 b7 rfl; simpa using this
  clear BQ BQ2 hown
  go_wp2_with fail
  refine wp_loop_rounds 9 ?_
  rw [rounds_succ]
  go_wp2_with fail
  rw [rounds_succ]
  go_wp2_with fail
  rw [rounds_succ]
  go_wp2_with fail
  rw [rounds_succ]
  go_wp2_with fail
  rw [rounds_succ]
  go_wp2_with fail
  rw [rounds_succ]
  go_wp2_with fail
  rw [rounds_succ]
  go_wp2_with fail
  rw [rounds_succ]
  go_wp2_with fail
  rw [rounds_succ]
  go_wp2_with fail
  exact bodyPost_ret (v := .tuple #[.int .u64 v7, .int .i64 0]) (by simp [results, Try.results124, go_sem]) rfl ⟨w1, bel1, rfl, hmv⟩

theorem rWordShort (x : Option Addr) (len cap at' : Nat) (h1 : at' ≤ len) (h2 : len < at' + 8) (h3 : len ≤ 9223372036854775807) (w : World) :
    Calls Try.prog 127 #[.slice x len cap, .int .i64 (at' : Int)] w fun e w' => e = .returned (.tuple #[.int .u64 0, .int .i64 (at' : Int), .int .i64 2]) ∧ w = w' := by
  have e1 : (at' : Int) ≤ (len : Int) := by omega
  have e2 : (len : Int) < (at' : Int) + 8 := by omega
  have e3 : (0 : Int) ≤ (at' : Int) := by omega
  have e4 : (len : Int) ≤ 9223372036854775807 := by omega
  go_enter Try.func127, Try.ntmps127
  go_wp2_with fail
  exact bodyPost_ret (v := .tuple #[.int .u64 0, .int .i64 (at' : Int), .int .i64 2]) (by simp [results, Try.results127, go_sem]) rfl ⟨rfl, rfl⟩

set_option maxHeartbeats 2000000 in
theorem rWordYes (g o len cap at' : Nat) (b0 b1 b2 b3 b4 b5 b6 b7 v1 v2 v3 v4 v5 v6 v7 : Int) (f0 : bits .or .u64 0 b0 = b0) (r0 : 0 ≤ b0 ∧ b0 ≤ 255) (r1 : 0 ≤ b1 ∧ b1 ≤ 255) (r2 : 0 ≤ b2 ∧ b2 ≤ 255) (r3 : 0 ≤ b3 ∧ b3 ≤ 255) (r4 : 0 ≤ b4 ∧ b4 ≤ 255) (r5 : 0 ≤ b5 ∧ b5 ≤ 255) (r6 : 0 ≤ b6 ∧ b6 ≤ 255) (r7 : 0 ≤ b7 ∧ b7 ≤ 255) (f1 : bits .or .u64 (b0 * 256) b1 = v1) (t1 : 0 ≤ v1 ∧ v1 ≤ 65535) (f2 : bits .or .u64 (v1 * 256) b2 = v2) (t2 : 0 ≤ v2 ∧ v2 ≤ 16777215) (f3 : bits .or .u64 (v2 * 256) b3 = v3) (t3 : 0 ≤ v3 ∧ v3 ≤ 4294967295) (f4 : bits .or .u64 (v3 * 256) b4 = v4) (t4 : 0 ≤ v4 ∧ v4 ≤ 1099511627775) (f5 : bits .or .u64 (v4 * 256) b5 = v5) (t5 : 0 ≤ v5 ∧ v5 ≤ 281474976710655) (f6 : bits .or .u64 (v5 * 256) b6 = v6) (t6 : 0 ≤ v6 ∧ v6 ≤ 72057594037927935) (f7 : bits .or .u64 (v6 * 256) b7 = v7) (t7 : 0 ≤ v7 ∧ v7 ≤ 18446744073709551615) (h2 : at' + 8 ≤ len) (h3 : len ≤ 9223372036854775807)
    (w : World) (c0 : w.cell? ⟨g, o + at', none⟩ = some (.int .u8 b0)) (c1 : w.cell? ⟨g, o + (at' + 1), none⟩ = some (.int .u8 b1)) (c2 : w.cell? ⟨g, o + (at' + 2), none⟩ = some (.int .u8 b2)) (c3 : w.cell? ⟨g, o + (at' + 3), none⟩ = some (.int .u8 b3)) (c4 : w.cell? ⟨g, o + (at' + 4), none⟩ = some (.int .u8 b4)) (c5 : w.cell? ⟨g, o + (at' + 5), none⟩ = some (.int .u8 b5)) (c6 : w.cell? ⟨g, o + (at' + 6), none⟩ = some (.int .u8 b6)) (c7 : w.cell? ⟨g, o + (at' + 7), none⟩ = some (.int .u8 b7)) :
    Calls Try.prog 127 #[.slice (some ⟨g, o, none⟩) len cap, .int .i64 (at' : Int)] w fun e w' => e = .returned (.tuple #[.int .u64 v7, .int .i64 ((at' : Int) + 8), .int .i64 0]) ∧ w = w' := by
  have e1 : (at' : Int) + 8 ≤ (len : Int) := by omega
  have e3 : (0 : Int) ≤ (at' : Int) := by omega
  have e4 : (len : Int) ≤ 9223372036854775807 := by omega
  have a1 : ((at' : Int) + 1).toNat = at' + 1 := by omega
  have a2 : ((at' : Int) + 2).toNat = at' + 2 := by omega
  have a3 : ((at' : Int) + 3).toNat = at' + 3 := by omega
  have a4 : ((at' : Int) + 4).toNat = at' + 4 := by omega
  have a5 : ((at' : Int) + 5).toNat = at' + 5 := by omega
  have a6 : ((at' : Int) + 6).toNat = at' + 6 := by omega
  have a7 : ((at' : Int) + 7).toNat = at' + 7 := by omega
  go_enter Try.func127, Try.ntmps127
  go_wp2_with fail
  refine wp_loop_rounds 9 ?_
  rw [rounds_succ]
  go_wp2_with fail
  rw [rounds_succ]
  go_wp2_with fail
  rw [rounds_succ]
  go_wp2_with fail
  rw [rounds_succ]
  go_wp2_with fail
  rw [rounds_succ]
  go_wp2_with fail
  rw [rounds_succ]
  go_wp2_with fail
  rw [rounds_succ]
  go_wp2_with fail
  rw [rounds_succ]
  go_wp2_with fail
  rw [rounds_succ]
  go_wp2_with fail
  exact bodyPost_ret (v := .tuple #[.int .u64 v7, .int .i64 ((at' : Int) + 8), .int .i64 0]) (by simp [results, Try.results127, go_sem]) rfl ⟨rfl, rfl⟩

end Go.Proofs.Ytikkmdbaekdolaa
