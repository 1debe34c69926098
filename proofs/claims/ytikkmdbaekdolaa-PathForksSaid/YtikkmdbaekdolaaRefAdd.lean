/- the reference's Put and Eight behind a row of the call's own. -/
import Derived.Test.YtikkmdbaekdolaaRefPut
namespace Go.Proofs.Ytikkmdbaekdolaa
open Go.RowKit Go.Lib
set_option linter.unusedVariables false
set_option maxRecDepth 100000

set_option maxHeartbeats 2000000 in
theorem rEightOn (x : Int) (hx : W64 x) (B n0 : Nat) (v0 : Value) (xs : List Int) (w : World) (hB : B ≤ w.heap.size) (hn0 : n0 ≤ 1000000) (hown : w.ownsRow B 5 1 v0 n0 (xs.map (.int .u8))) :
    Calls Try.prog 87 #[v0, .int .u64 x] w fun e w' => ∃ v', e = .returned v' ∧ Below B w w' ∧ w'.ownsRow B 5 1 v' (n0 + 8) ((xs ++ eightL x).map (.int .u8)) := by
  have hown0 : w.ownsRow B 5 1 v0 (n0 + 0) (xs.map (.int .u8)) := hown
  obtain ⟨i, hi, hz, hs, hb⟩ := info_parts (P := Try.prog) (e := 5) (z := .int .u8 0) (size := 1) (bytes := 1) (by kernel_rfl)
  obtain ⟨x0, x1⟩ := hx
  have d0 : bits .and .u64 (x / 72057594037927936) 255 = x / 72057594037927936 % 256 := and255 _ (by omega)
  have d1 : bits .and .u64 (x / 281474976710656) 255 = x / 281474976710656 % 256 := and255 _ (by omega)
  have d2 : bits .and .u64 (x / 1099511627776) 255 = x / 1099511627776 % 256 := and255 _ (by omega)
  have d3 : bits .and .u64 (x / 4294967296) 255 = x / 4294967296 % 256 := and255 _ (by omega)
  have d4 : bits .and .u64 (x / 16777216) 255 = x / 16777216 % 256 := and255 _ (by omega)
  have d5 : bits .and .u64 (x / 65536) 255 = x / 65536 % 256 := and255 _ (by omega)
  have d6 : bits .and .u64 (x / 256) 255 = x / 256 % 256 := and255 _ (by omega)
  have d7 : bits .and .u64 (x) 255 = x % 256 := and255 _ (by omega)
  have dx : x / 72057594037927936 % 256 = x / 72057594037927936 := by omega
  go_enter Try.func87, Try.ntmps87
  go_wp2_with fail
  refine wp_loop_rounds 9 ?_
  rw [rounds_succ]
  go_wp2_with (at_builtin; refine wpList_append_own _ rfl (.tmp 10) (.tmp 18) 44 rfl B 5 i (.int .u8 0) 1 1 Try.underlying44 hi hz hs hb rfl (by decide) _ (n0 + 0) _ rfl (hown0.alloc _) ⟨w.heap.size, 0, none⟩ 1 1 [.int .u8 (x / 72057594037927936)] rfl rfl (news1 _ _ _) (one1 _) (by simp [maxLen]; omega) (by omega) (by simp; omega) ?_; intro v1 w1 hown1 hgrow1 hnil1; simp only [Nat.add_assoc, Nat.reduceAdd] at hown1; have bl1 : Below B w w1 := below_grownR ((Below.refl _ _).alloc hB _) hgrow1 (by simp; omega) (fun k hk => (hown0.lt k hk).1))
  rw [rounds_succ]
  go_wp2_with (at_builtin; refine wpList_append_own _ rfl (.tmp 10) (.tmp 18) 44 rfl B 5 i (.int .u8 0) 1 1 Try.underlying44 hi hz hs hb rfl (by decide) _ (n0 + 1) _ rfl (hown1.alloc _) ⟨w1.heap.size, 0, none⟩ 1 1 [.int .u8 (x / 281474976710656 % 256)] rfl rfl (news1 _ _ _) (one1 _) (by simp [maxLen]; omega) (by omega) (by simp; have := bl1.size; omega) ?_; intro v2 w2 hown2 hgrow2 hnil2; simp only [Nat.add_assoc, Nat.reduceAdd, List.append_assoc, List.cons_append, List.nil_append] at hown2; have bl2 : Below B w w2 := below_grownR (bl1.alloc (by have := bl1.size; omega) _) hgrow2 (by simp; have := bl1.size; omega) (fun k hk => (hown1.lt k hk).1))
  rw [rounds_succ]
  go_wp2_with (at_builtin; refine wpList_append_own _ rfl (.tmp 10) (.tmp 18) 44 rfl B 5 i (.int .u8 0) 1 1 Try.underlying44 hi hz hs hb rfl (by decide) _ (n0 + 2) _ rfl (hown2.alloc _) ⟨w2.heap.size, 0, none⟩ 1 1 [.int .u8 (x / 1099511627776 % 256)] rfl rfl (news1 _ _ _) (one1 _) (by simp [maxLen]; omega) (by omega) (by simp; have := bl2.size; omega) ?_; intro v3 w3 hown3 hgrow3 hnil3; simp only [Nat.add_assoc, Nat.reduceAdd, List.append_assoc, List.cons_append, List.nil_append] at hown3; have bl3 : Below B w w3 := below_grownR (bl2.alloc (by have := bl2.size; omega) _) hgrow3 (by simp; have := bl2.size; omega) (fun k hk => (hown2.lt k hk).1))
  rw [rounds_succ]
  go_wp2_with (at_builtin; refine wpList_append_own _ rfl (.tmp 10) (.tmp 18) 44 rfl B 5 i (.int .u8 0) 1 1 Try.underlying44 hi hz hs hb rfl (by decide) _ (n0 + 3) _ rfl (hown3.alloc _) ⟨w3.heap.size, 0, none⟩ 1 1 [.int .u8 (x / 4294967296 % 256)] rfl rfl (news1 _ _ _) (one1 _) (by simp [maxLen]; omega) (by omega) (by simp; have := bl3.size; omega) ?_; intro v4 w4 hown4 hgrow4 hnil4; simp only [Nat.add_assoc, Nat.reduceAdd, List.append_assoc, List.cons_append, List.nil_append] at hown4; have bl4 : Below B w w4 := below_grownR (bl3.alloc (by have := bl3.size; omega) _) hgrow4 (by simp; have := bl3.size; omega) (fun k hk => (hown3.lt k hk).1))
  rw [rounds_succ]
  go_wp2_with (at_builtin; refine wpList_append_own _ rfl (.tmp 10) (.tmp 18) 44 rfl B 5 i (.int .u8 0) 1 1 Try.underlying44 hi hz hs hb rfl (by decide) _ (n0 + 4) _ rfl (hown4.alloc _) ⟨w4.heap.size, 0, none⟩ 1 1 [.int .u8 (x / 16777216 % 256)] rfl rfl (news1 _ _ _) (one1 _) (by simp [maxLen]; omega) (by omega) (by simp; have := bl4.size; omega) ?_; intro v5 w5 hown5 hgrow5 hnil5; simp only [Nat.add_assoc, Nat.reduceAdd, List.append_assoc, List.cons_append, List.nil_append] at hown5; have bl5 : Below B w w5 := below_grownR (bl4.alloc (by have := bl4.size; omega) _) hgrow5 (by simp; have := bl4.size; omega) (fun k hk => (hown4.lt k hk).1))
  rw [rounds_succ]
  go_wp2_with (at_builtin; refine wpList_append_own _ rfl (.tmp 10) (.tmp 18) 44 rfl B 5 i (.int .u8 0) 1 1 Try.underlying44 hi hz hs hb rfl (by decide) _ (n0 + 5) _ rfl (hown5.alloc _) ⟨w5.heap.size, 0, none⟩ 1 1 [.int .u8 (x / 65536 % 256)] rfl rfl (news1 _ _ _) (one1 _) (by simp [maxLen]; omega) (by omega) (by simp; have := bl5.size; omega) ?_; intro v6 w6 hown6 hgrow6 hnil6; simp only [Nat.add_assoc, Nat.reduceAdd, List.append_assoc, List.cons_append, List.nil_append] at hown6; have bl6 : Below B w w6 := below_grownR (bl5.alloc (by have := bl5.size; omega) _) hgrow6 (by simp; have := bl5.size; omega) (fun k hk => (hown5.lt k hk).1))
  rw [rounds_succ]
  go_wp2_with (at_builtin; refine wpList_append_own _ rfl (.tmp 10) (.tmp 18) 44 rfl B 5 i (.int .u8 0) 1 1 Try.underlying44 hi hz hs hb rfl (by decide) _ (n0 + 6) _ rfl (hown6.alloc _) ⟨w6.heap.size, 0, none⟩ 1 1 [.int .u8 (x / 256 % 256)] rfl rfl (news1 _ _ _) (one1 _) (by simp [maxLen]; omega) (by omega) (by simp; have := bl6.size; omega) ?_; intro v7 w7 hown7 hgrow7 hnil7; simp only [Nat.add_assoc, Nat.reduceAdd, List.append_assoc, List.cons_append, List.nil_append] at hown7; have bl7 : Below B w w7 := below_grownR (bl6.alloc (by have := bl6.size; omega) _) hgrow7 (by simp; have := bl6.size; omega) (fun k hk => (hown6.lt k hk).1))
  rw [rounds_succ]
  go_wp2_with (at_builtin; refine wpList_append_own _ rfl (.tmp 10) (.tmp 18) 44 rfl B 5 i (.int .u8 0) 1 1 Try.underlying44 hi hz hs hb rfl (by decide) _ (n0 + 7) _ rfl (hown7.alloc _) ⟨w7.heap.size, 0, none⟩ 1 1 [.int .u8 (x % 256)] rfl rfl (news1 _ _ _) (one1 _) (by simp [maxLen]; omega) (by omega) (by simp; have := bl7.size; omega) ?_; intro v8 w8 hown8 hgrow8 hnil8; simp only [Nat.add_assoc, Nat.reduceAdd, List.append_assoc, List.cons_append, List.nil_append] at hown8; have bl8 : Below B w w8 := below_grownR (bl7.alloc (by have := bl7.size; omega) _) hgrow8 (by simp; have := bl7.size; omega) (fun k hk => (hown7.lt k hk).1))
  rw [rounds_succ]
  go_wp2_with fail
  go_ret
  exact ⟨_, rfl, bl8, by rw [List.map_append]; exact hown8⟩
set_option maxHeartbeats 2000000 in
theorem rPutOn1 (n : Int) (h1 : n < 64) (h2 : 0 ≤ n) (B n0 : Nat) (v0 : Value) (xs : List Int) (w : World) (hB : B ≤ w.heap.size) (hn0 : n0 ≤ 1000000) (hown : w.ownsRow B 5 1 v0 n0 (xs.map (.int .u8))) :
    Calls Try.prog 128 #[v0, .int .u64 n] w fun e w' => ∃ v', e = .returned v' ∧ Below B w w' ∧ w'.ownsRow B 5 1 v' (n0 + 1) ((xs ++ putA n).map (.int .u8)) := by
  have hown0 : w.ownsRow B 5 1 v0 (n0 + 0) (xs.map (.int .u8)) := hown
  obtain ⟨i, hi, hz, hs, hb⟩ := info_parts (P := Try.prog) (e := 5) (z := .int .u8 0) (size := 1) (bytes := 1) (by kernel_rfl)
  have hsz : sizeI n = 1 := by unfold sizeI; rw [if_pos (by omega)]
  have hp : putA n = [n] := by unfold putA; rw [if_pos (by omega)]
  have f0 : n % 256 = n := by omega
  have f1 : bits .or .u8 n 0 = n := by have := or_top n 0 (by omega) (by omega); simpa using this
  have d0 : bits .and .u64 (n) 255 = n % 256 := and255 _ (by omega)
  go_enter Try.func128, Try.ntmps128
  go_wp2_with fail
  refine (rSize n _).mono ?_; rintro e' w' ⟨rfl, rfl⟩
  rw [hsz]
  go_wp2_with fail
  refine wp_loop_rounds 1 ?_
  rw [rounds_succ]
  go_wp2_with fail
  refine wp_loop_rounds 2 ?_
  rw [rounds_succ]
  go_wp2_with (at_builtin; refine wpList_append_own _ rfl (.tmp 41) (.tmp 43) 44 rfl B 5 i (.int .u8 0) 1 1 Try.underlying44 hi hz hs hb rfl (by decide) _ (n0 + 0) _ rfl (hown0.alloc _) ⟨w.heap.size, 0, none⟩ 1 1 [.int .u8 (n)] rfl rfl (news1 _ _ _) (one1 _) (by simp [maxLen]; omega) (by omega) (by simp; omega) ?_; intro v1 w1 hown1 hgrow1 hnil1; simp only [Nat.add_assoc, Nat.reduceAdd] at hown1; have bl1 : Below B w w1 := below_grownR ((Below.refl _ _).alloc hB _) hgrow1 (by simp; omega) (fun k hk => (hown0.lt k hk).1))
  rw [rounds_succ]
  go_wp2_with fail
  rw [hp]
  go_ret
  exact ⟨_, rfl, bl1, by rw [List.map_append]; exact hown1⟩

set_option maxHeartbeats 2000000 in
theorem rPutOn2 (n : Int) (h1 : 64 ≤ n) (h2 : n < 16384) (B n0 : Nat) (v0 : Value) (xs : List Int) (w : World) (hB : B ≤ w.heap.size) (hn0 : n0 ≤ 1000000) (hown : w.ownsRow B 5 1 v0 n0 (xs.map (.int .u8))) :
    Calls Try.prog 128 #[v0, .int .u64 n] w fun e w' => ∃ v', e = .returned v' ∧ Below B w w' ∧ w'.ownsRow B 5 1 v' (n0 + 2) ((xs ++ putA n).map (.int .u8)) := by
  have hown0 : w.ownsRow B 5 1 v0 (n0 + 0) (xs.map (.int .u8)) := hown
  obtain ⟨i, hi, hz, hs, hb⟩ := info_parts (P := Try.prog) (e := 5) (z := .int .u8 0) (size := 1) (bytes := 1) (by kernel_rfl)
  have hsz : sizeI n = 2 := by unfold sizeI; rw [if_neg (by omega), if_pos (by omega)]
  have hp : putA n = [n / 256 + 64, n % 256] := by unfold putA; rw [if_neg (by omega), if_pos (by omega)]
  have f0 : n / 256 % 256 = n / 256 := by omega
  have f1 : bits .or .u8 (n / 256) 64 = n / 256 + 64 := by have := or_top (n / 256) 1 (by omega) (by omega); simpa using this
  have d0 : bits .and .u64 (n / 256) 255 = n / 256 % 256 := and255 _ (by omega)
  have d1 : bits .and .u64 (n) 255 = n % 256 := and255 _ (by omega)
  go_enter Try.func128, Try.ntmps128
  go_wp2_with fail
  refine (rSize n _).mono ?_; rintro e' w' ⟨rfl, rfl⟩
  rw [hsz]
  go_wp2_with fail
  refine wp_loop_rounds 2 ?_
  rw [rounds_succ]
  go_wp2_with fail
  rw [rounds_succ]
  go_wp2_with fail
  refine wp_loop_rounds 3 ?_
  rw [rounds_succ]
  go_wp2_with (at_builtin; refine wpList_append_own _ rfl (.tmp 41) (.tmp 43) 44 rfl B 5 i (.int .u8 0) 1 1 Try.underlying44 hi hz hs hb rfl (by decide) _ (n0 + 0) _ rfl (hown0.alloc _) ⟨w.heap.size, 0, none⟩ 1 1 [.int .u8 (n / 256 + 64)] rfl rfl (news1 _ _ _) (one1 _) (by simp [maxLen]; omega) (by omega) (by simp; omega) ?_; intro v1 w1 hown1 hgrow1 hnil1; simp only [Nat.add_assoc, Nat.reduceAdd] at hown1; have bl1 : Below B w w1 := below_grownR ((Below.refl _ _).alloc hB _) hgrow1 (by simp; omega) (fun k hk => (hown0.lt k hk).1))
  rw [rounds_succ]
  go_wp2_with (at_builtin; refine wpList_append_own _ rfl (.tmp 41) (.tmp 43) 44 rfl B 5 i (.int .u8 0) 1 1 Try.underlying44 hi hz hs hb rfl (by decide) _ (n0 + 1) _ rfl (hown1.alloc _) ⟨w1.heap.size, 0, none⟩ 1 1 [.int .u8 (n % 256)] rfl rfl (news1 _ _ _) (one1 _) (by simp [maxLen]; omega) (by omega) (by simp; have := bl1.size; omega) ?_; intro v2 w2 hown2 hgrow2 hnil2; simp only [Nat.add_assoc, Nat.reduceAdd, List.append_assoc, List.cons_append, List.nil_append] at hown2; have bl2 : Below B w w2 := below_grownR (bl1.alloc (by have := bl1.size; omega) _) hgrow2 (by simp; have := bl1.size; omega) (fun k hk => (hown1.lt k hk).1))
  rw [rounds_succ]
  go_wp2_with fail
  rw [hp]
  go_ret
  exact ⟨_, rfl, bl2, by rw [List.map_append]; exact hown2⟩

set_option maxHeartbeats 2000000 in
theorem rPutOn4 (n : Int) (h1 : 16384 ≤ n) (h2 : n < 1073741824) (B n0 : Nat) (v0 : Value) (xs : List Int) (w : World) (hB : B ≤ w.heap.size) (hn0 : n0 ≤ 1000000) (hown : w.ownsRow B 5 1 v0 n0 (xs.map (.int .u8))) :
    Calls Try.prog 128 #[v0, .int .u64 n] w fun e w' => ∃ v', e = .returned v' ∧ Below B w w' ∧ w'.ownsRow B 5 1 v' (n0 + 4) ((xs ++ putA n).map (.int .u8)) := by
  have hown0 : w.ownsRow B 5 1 v0 (n0 + 0) (xs.map (.int .u8)) := hown
  obtain ⟨i, hi, hz, hs, hb⟩ := info_parts (P := Try.prog) (e := 5) (z := .int .u8 0) (size := 1) (bytes := 1) (by kernel_rfl)
  have hsz : sizeI n = 4 := by unfold sizeI; rw [if_neg (by omega), if_neg (by omega), if_pos (by omega)]
  have hp : putA n = [n / 16777216 + 128, n / 65536 % 256, n / 256 % 256, n % 256] := by unfold putA; rw [if_neg (by omega), if_neg (by omega), if_pos (by omega)]
  have f0 : n / 16777216 % 256 = n / 16777216 := by omega
  have f1 : bits .or .u8 (n / 16777216) 128 = n / 16777216 + 128 := by have := or_top (n / 16777216) 2 (by omega) (by omega); simpa using this
  have d0 : bits .and .u64 (n / 16777216) 255 = n / 16777216 % 256 := and255 _ (by omega)
  have d1 : bits .and .u64 (n / 65536) 255 = n / 65536 % 256 := and255 _ (by omega)
  have d2 : bits .and .u64 (n / 256) 255 = n / 256 % 256 := and255 _ (by omega)
  have d3 : bits .and .u64 (n) 255 = n % 256 := and255 _ (by omega)
  go_enter Try.func128, Try.ntmps128
  go_wp2_with fail
  refine (rSize n _).mono ?_; rintro e' w' ⟨rfl, rfl⟩
  rw [hsz]
  go_wp2_with fail
  refine wp_loop_rounds 3 ?_
  rw [rounds_succ]
  go_wp2_with fail
  rw [rounds_succ]
  go_wp2_with fail
  rw [rounds_succ]
  go_wp2_with fail
  refine wp_loop_rounds 5 ?_
  rw [rounds_succ]
  go_wp2_with (at_builtin; refine wpList_append_own _ rfl (.tmp 41) (.tmp 43) 44 rfl B 5 i (.int .u8 0) 1 1 Try.underlying44 hi hz hs hb rfl (by decide) _ (n0 + 0) _ rfl (hown0.alloc _) ⟨w.heap.size, 0, none⟩ 1 1 [.int .u8 (n / 16777216 + 128)] rfl rfl (news1 _ _ _) (one1 _) (by simp [maxLen]; omega) (by omega) (by simp; omega) ?_; intro v1 w1 hown1 hgrow1 hnil1; simp only [Nat.add_assoc, Nat.reduceAdd] at hown1; have bl1 : Below B w w1 := below_grownR ((Below.refl _ _).alloc hB _) hgrow1 (by simp; omega) (fun k hk => (hown0.lt k hk).1))
  rw [rounds_succ]
  go_wp2_with (at_builtin; refine wpList_append_own _ rfl (.tmp 41) (.tmp 43) 44 rfl B 5 i (.int .u8 0) 1 1 Try.underlying44 hi hz hs hb rfl (by decide) _ (n0 + 1) _ rfl (hown1.alloc _) ⟨w1.heap.size, 0, none⟩ 1 1 [.int .u8 (n / 65536 % 256)] rfl rfl (news1 _ _ _) (one1 _) (by simp [maxLen]; omega) (by omega) (by simp; have := bl1.size; omega) ?_; intro v2 w2 hown2 hgrow2 hnil2; simp only [Nat.add_assoc, Nat.reduceAdd, List.append_assoc, List.cons_append, List.nil_append] at hown2; have bl2 : Below B w w2 := below_grownR (bl1.alloc (by have := bl1.size; omega) _) hgrow2 (by simp; have := bl1.size; omega) (fun k hk => (hown1.lt k hk).1))
  rw [rounds_succ]
  go_wp2_with (at_builtin; refine wpList_append_own _ rfl (.tmp 41) (.tmp 43) 44 rfl B 5 i (.int .u8 0) 1 1 Try.underlying44 hi hz hs hb rfl (by decide) _ (n0 + 2) _ rfl (hown2.alloc _) ⟨w2.heap.size, 0, none⟩ 1 1 [.int .u8 (n / 256 % 256)] rfl rfl (news1 _ _ _) (one1 _) (by simp [maxLen]; omega) (by omega) (by simp; have := bl2.size; omega) ?_; intro v3 w3 hown3 hgrow3 hnil3; simp only [Nat.add_assoc, Nat.reduceAdd, List.append_assoc, List.cons_append, List.nil_append] at hown3; have bl3 : Below B w w3 := below_grownR (bl2.alloc (by have := bl2.size; omega) _) hgrow3 (by simp; have := bl2.size; omega) (fun k hk => (hown2.lt k hk).1))
  rw [rounds_succ]
  go_wp2_with (at_builtin; refine wpList_append_own _ rfl (.tmp 41) (.tmp 43) 44 rfl B 5 i (.int .u8 0) 1 1 Try.underlying44 hi hz hs hb rfl (by decide) _ (n0 + 3) _ rfl (hown3.alloc _) ⟨w3.heap.size, 0, none⟩ 1 1 [.int .u8 (n % 256)] rfl rfl (news1 _ _ _) (one1 _) (by simp [maxLen]; omega) (by omega) (by simp; have := bl3.size; omega) ?_; intro v4 w4 hown4 hgrow4 hnil4; simp only [Nat.add_assoc, Nat.reduceAdd, List.append_assoc, List.cons_append, List.nil_append] at hown4; have bl4 : Below B w w4 := below_grownR (bl3.alloc (by have := bl3.size; omega) _) hgrow4 (by simp; have := bl3.size; omega) (fun k hk => (hown3.lt k hk).1))
  rw [rounds_succ]
  go_wp2_with fail
  rw [hp]
  go_ret
  exact ⟨_, rfl, bl4, by rw [List.map_append]; exact hown4⟩

set_option maxHeartbeats 2000000 in
theorem rPutOn8 (n : Int) (h1 : 1073741824 ≤ n) (h2 : n ≤ 4611686018427387903) (B n0 : Nat) (v0 : Value) (xs : List Int) (w : World) (hB : B ≤ w.heap.size) (hn0 : n0 ≤ 1000000) (hown : w.ownsRow B 5 1 v0 n0 (xs.map (.int .u8))) :
    Calls Try.prog 128 #[v0, .int .u64 n] w fun e w' => ∃ v', e = .returned v' ∧ Below B w w' ∧ w'.ownsRow B 5 1 v' (n0 + 8) ((xs ++ putA n).map (.int .u8)) := by
  have hown0 : w.ownsRow B 5 1 v0 (n0 + 0) (xs.map (.int .u8)) := hown
  obtain ⟨i, hi, hz, hs, hb⟩ := info_parts (P := Try.prog) (e := 5) (z := .int .u8 0) (size := 1) (bytes := 1) (by kernel_rfl)
  have hsz : sizeI n = 8 := by unfold sizeI; rw [if_neg (by omega), if_neg (by omega), if_neg (by omega), if_pos (by omega)]
  have hp : putA n = [n / 72057594037927936 + 192, n / 281474976710656 % 256, n / 1099511627776 % 256, n / 4294967296 % 256, n / 16777216 % 256, n / 65536 % 256, n / 256 % 256, n % 256] := by unfold putA; rw [if_neg (by omega), if_neg (by omega), if_neg (by omega)]
  have f0 : n / 72057594037927936 % 256 = n / 72057594037927936 := by omega
  have f1 : bits .or .u8 (n / 72057594037927936) 192 = n / 72057594037927936 + 192 := by have := or_top (n / 72057594037927936) 3 (by omega) (by omega); simpa using this
  have d0 : bits .and .u64 (n / 72057594037927936) 255 = n / 72057594037927936 % 256 := and255 _ (by omega)
  have d1 : bits .and .u64 (n / 281474976710656) 255 = n / 281474976710656 % 256 := and255 _ (by omega)
  have d2 : bits .and .u64 (n / 1099511627776) 255 = n / 1099511627776 % 256 := and255 _ (by omega)
  have d3 : bits .and .u64 (n / 4294967296) 255 = n / 4294967296 % 256 := and255 _ (by omega)
  have d4 : bits .and .u64 (n / 16777216) 255 = n / 16777216 % 256 := and255 _ (by omega)
  have d5 : bits .and .u64 (n / 65536) 255 = n / 65536 % 256 := and255 _ (by omega)
  have d6 : bits .and .u64 (n / 256) 255 = n / 256 % 256 := and255 _ (by omega)
  have d7 : bits .and .u64 (n) 255 = n % 256 := and255 _ (by omega)
  go_enter Try.func128, Try.ntmps128
  go_wp2_with fail
  refine (rSize n _).mono ?_; rintro e' w' ⟨rfl, rfl⟩
  rw [hsz]
  go_wp2_with fail
  refine wp_loop_rounds 4 ?_
  rw [rounds_succ]
  go_wp2_with fail
  rw [rounds_succ]
  go_wp2_with fail
  rw [rounds_succ]
  go_wp2_with fail
  rw [rounds_succ]
  go_wp2_with fail
  refine wp_loop_rounds 9 ?_
  rw [rounds_succ]
  go_wp2_with (at_builtin; refine wpList_append_own _ rfl (.tmp 41) (.tmp 43) 44 rfl B 5 i (.int .u8 0) 1 1 Try.underlying44 hi hz hs hb rfl (by decide) _ (n0 + 0) _ rfl (hown0.alloc _) ⟨w.heap.size, 0, none⟩ 1 1 [.int .u8 (n / 72057594037927936 + 192)] rfl rfl (news1 _ _ _) (one1 _) (by simp [maxLen]; omega) (by omega) (by simp; omega) ?_; intro v1 w1 hown1 hgrow1 hnil1; simp only [Nat.add_assoc, Nat.reduceAdd] at hown1; have bl1 : Below B w w1 := below_grownR ((Below.refl _ _).alloc hB _) hgrow1 (by simp; omega) (fun k hk => (hown0.lt k hk).1))
  rw [rounds_succ]
  go_wp2_with (at_builtin; refine wpList_append_own _ rfl (.tmp 41) (.tmp 43) 44 rfl B 5 i (.int .u8 0) 1 1 Try.underlying44 hi hz hs hb rfl (by decide) _ (n0 + 1) _ rfl (hown1.alloc _) ⟨w1.heap.size, 0, none⟩ 1 1 [.int .u8 (n / 281474976710656 % 256)] rfl rfl (news1 _ _ _) (one1 _) (by simp [maxLen]; omega) (by omega) (by simp; have := bl1.size; omega) ?_; intro v2 w2 hown2 hgrow2 hnil2; simp only [Nat.add_assoc, Nat.reduceAdd, List.append_assoc, List.cons_append, List.nil_append] at hown2; have bl2 : Below B w w2 := below_grownR (bl1.alloc (by have := bl1.size; omega) _) hgrow2 (by simp; have := bl1.size; omega) (fun k hk => (hown1.lt k hk).1))
  rw [rounds_succ]
  go_wp2_with (at_builtin; refine wpList_append_own _ rfl (.tmp 41) (.tmp 43) 44 rfl B 5 i (.int .u8 0) 1 1 Try.underlying44 hi hz hs hb rfl (by decide) _ (n0 + 2) _ rfl (hown2.alloc _) ⟨w2.heap.size, 0, none⟩ 1 1 [.int .u8 (n / 1099511627776 % 256)] rfl rfl (news1 _ _ _) (one1 _) (by simp [maxLen]; omega) (by omega) (by simp; have := bl2.size; omega) ?_; intro v3 w3 hown3 hgrow3 hnil3; simp only [Nat.add_assoc, Nat.reduceAdd, List.append_assoc, List.cons_append, List.nil_append] at hown3; have bl3 : Below B w w3 := below_grownR (bl2.alloc (by have := bl2.size; omega) _) hgrow3 (by simp; have := bl2.size; omega) (fun k hk => (hown2.lt k hk).1))
  rw [rounds_succ]
  go_wp2_with (at_builtin; refine wpList_append_own _ rfl (.tmp 41) (.tmp 43) 44 rfl B 5 i (.int .u8 0) 1 1 Try.underlying44 hi hz hs hb rfl (by decide) _ (n0 + 3) _ rfl (hown3.alloc _) ⟨w3.heap.size, 0, none⟩ 1 1 [.int .u8 (n / 4294967296 % 256)] rfl rfl (news1 _ _ _) (one1 _) (by simp [maxLen]; omega) (by omega) (by simp; have := bl3.size; omega) ?_; intro v4 w4 hown4 hgrow4 hnil4; simp only [Nat.add_assoc, Nat.reduceAdd, List.append_assoc, List.cons_append, List.nil_append] at hown4; have bl4 : Below B w w4 := below_grownR (bl3.alloc (by have := bl3.size; omega) _) hgrow4 (by simp; have := bl3.size; omega) (fun k hk => (hown3.lt k hk).1))
  rw [rounds_succ]
  go_wp2_with (at_builtin; refine wpList_append_own _ rfl (.tmp 41) (.tmp 43) 44 rfl B 5 i (.int .u8 0) 1 1 Try.underlying44 hi hz hs hb rfl (by decide) _ (n0 + 4) _ rfl (hown4.alloc _) ⟨w4.heap.size, 0, none⟩ 1 1 [.int .u8 (n / 16777216 % 256)] rfl rfl (news1 _ _ _) (one1 _) (by simp [maxLen]; omega) (by omega) (by simp; have := bl4.size; omega) ?_; intro v5 w5 hown5 hgrow5 hnil5; simp only [Nat.add_assoc, Nat.reduceAdd, List.append_assoc, List.cons_append, List.nil_append] at hown5; have bl5 : Below B w w5 := below_grownR (bl4.alloc (by have := bl4.size; omega) _) hgrow5 (by simp; have := bl4.size; omega) (fun k hk => (hown4.lt k hk).1))
  rw [rounds_succ]
  go_wp2_with (at_builtin; refine wpList_append_own _ rfl (.tmp 41) (.tmp 43) 44 rfl B 5 i (.int .u8 0) 1 1 Try.underlying44 hi hz hs hb rfl (by decide) _ (n0 + 5) _ rfl (hown5.alloc _) ⟨w5.heap.size, 0, none⟩ 1 1 [.int .u8 (n / 65536 % 256)] rfl rfl (news1 _ _ _) (one1 _) (by simp [maxLen]; omega) (by omega) (by simp; have := bl5.size; omega) ?_; intro v6 w6 hown6 hgrow6 hnil6; simp only [Nat.add_assoc, Nat.reduceAdd, List.append_assoc, List.cons_append, List.nil_append] at hown6; have bl6 : Below B w w6 := below_grownR (bl5.alloc (by have := bl5.size; omega) _) hgrow6 (by simp; have := bl5.size; omega) (fun k hk => (hown5.lt k hk).1))
  rw [rounds_succ]
  go_wp2_with (at_builtin; refine wpList_append_own _ rfl (.tmp 41) (.tmp 43) 44 rfl B 5 i (.int .u8 0) 1 1 Try.underlying44 hi hz hs hb rfl (by decide) _ (n0 + 6) _ rfl (hown6.alloc _) ⟨w6.heap.size, 0, none⟩ 1 1 [.int .u8 (n / 256 % 256)] rfl rfl (news1 _ _ _) (one1 _) (by simp [maxLen]; omega) (by omega) (by simp; have := bl6.size; omega) ?_; intro v7 w7 hown7 hgrow7 hnil7; simp only [Nat.add_assoc, Nat.reduceAdd, List.append_assoc, List.cons_append, List.nil_append] at hown7; have bl7 : Below B w w7 := below_grownR (bl6.alloc (by have := bl6.size; omega) _) hgrow7 (by simp; have := bl6.size; omega) (fun k hk => (hown6.lt k hk).1))
  rw [rounds_succ]
  go_wp2_with (at_builtin; refine wpList_append_own _ rfl (.tmp 41) (.tmp 43) 44 rfl B 5 i (.int .u8 0) 1 1 Try.underlying44 hi hz hs hb rfl (by decide) _ (n0 + 7) _ rfl (hown7.alloc _) ⟨w7.heap.size, 0, none⟩ 1 1 [.int .u8 (n % 256)] rfl rfl (news1 _ _ _) (one1 _) (by simp [maxLen]; omega) (by omega) (by simp; have := bl7.size; omega) ?_; intro v8 w8 hown8 hgrow8 hnil8; simp only [Nat.add_assoc, Nat.reduceAdd, List.append_assoc, List.cons_append, List.nil_append] at hown8; have bl8 : Below B w w8 := below_grownR (bl7.alloc (by have := bl7.size; omega) _) hgrow8 (by simp; have := bl7.size; omega) (fun k hk => (hown7.lt k hk).1))
  rw [rounds_succ]
  go_wp2_with fail
  rw [hp]
  go_ret
  exact ⟨_, rfl, bl8, by rw [List.map_append]; exact hown8⟩

theorem rPutOn (n : Int) (hn : 0 ≤ n ∧ n ≤ 4611686018427387903) (B n0 : Nat) (v0 : Value) (xs : List Int) (w : World) (hB : B ≤ w.heap.size) (hn0 : n0 ≤ 1000000) (hown : w.ownsRow B 5 1 v0 n0 (xs.map (.int .u8))) :
    Calls Try.prog 128 #[v0, .int .u64 n] w fun e w' => ∃ v', e = .returned v' ∧ Below B w w' ∧ w'.ownsRow B 5 1 v' (n0 + (putA n).length) ((xs ++ putA n).map (.int .u8)) := by
  by_cases h1 : n < 64
  · have hl : (putA n).length = 1 := by unfold putA; rw [if_pos h1]; rfl
    rw [hl]; exact rPutOn1 n h1 hn.1 B n0 v0 xs w hB hn0 hown
  by_cases h2 : n < 16384
  · have hl : (putA n).length = 2 := by unfold putA; rw [if_neg h1, if_pos h2]; rfl
    rw [hl]; exact rPutOn2 n (by omega) h2 B n0 v0 xs w hB hn0 hown
  by_cases h4 : n < 1073741824
  · have hl : (putA n).length = 4 := by unfold putA; rw [if_neg h1, if_neg h2, if_pos h4]; rfl
    rw [hl]; exact rPutOn4 n (by omega) h4 B n0 v0 xs w hB hn0 hown
  · have hl : (putA n).length = 8 := by unfold putA; rw [if_neg h1, if_neg h2, if_neg h4]; rfl
    rw [hl]; exact rPutOn8 n (by omega) hn.2 B n0 v0 xs w hB hn0 hown


end Go.Proofs.Ytikkmdbaekdolaa
