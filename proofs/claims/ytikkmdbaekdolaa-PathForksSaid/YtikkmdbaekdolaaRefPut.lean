/- the reference's Size, Put and Eight; octet.Eight. -/
import Derived.Test.YtikkmdbaekdolaaOrder
namespace Go.Proofs.Ytikkmdbaekdolaa
open Go.RowKit Go.Lib
set_option linter.unusedVariables false
set_option maxRecDepth 100000

theorem rSize (n : Int) (w : World) :
    Calls Try.prog 147 #[.int .u64 n] w fun e w' => e = .returned (.int .i64 (sizeI n)) ∧ w = w' := by
  unfold sizeI
  by_cases h4 : 4611686018427387903 < n
  · rw [if_neg (by omega), if_neg (by omega), if_neg (by omega), if_neg (by omega)]
    go_enter Try.func147, Try.ntmps147
    go_wp2_with fail
    go_ret
    exact ⟨rfl, rfl⟩
  by_cases h3 : 1073741824 ≤ n
  · rw [if_neg (by omega), if_neg (by omega), if_neg (by omega), if_pos (by omega)]
    go_enter Try.func147, Try.ntmps147
    go_wp2_with fail
    go_ret
    exact ⟨rfl, rfl⟩
  by_cases h2 : 16384 ≤ n
  · rw [if_neg (by omega), if_neg (by omega), if_pos (by omega)]
    go_enter Try.func147, Try.ntmps147
    go_wp2_with fail
    go_ret
    exact ⟨rfl, rfl⟩
  by_cases h1 : 64 ≤ n
  · rw [if_neg (by omega), if_pos (by omega)]
    go_enter Try.func147, Try.ntmps147
    go_wp2_with fail
    go_ret
    exact ⟨rfl, rfl⟩
  · rw [if_pos (by omega)]
    go_enter Try.func147, Try.ntmps147
    go_wp2_with fail
    go_ret
    exact ⟨rfl, rfl⟩

theorem bytes_own {w : World} {base n : Nat} {v : Value} {xs : List Int} (h : w.ownsRow base 5 1 v n (xs.map (.int .u8))) (hn : 0 < n) :
    ∃ g c, v = .slice (some ⟨g, 0, none⟩) n c ∧ base ≤ g ∧ n ≤ c ∧ c ≤ 9223372036854775807 ∧ BytesAt w g 0 xs := by
  obtain ⟨hlen, ⟨_, h2⟩ | ⟨g, c, cur, rfl, hg, hheap, hc, hm, hcs, htake⟩⟩ := h
  · omega
  · unfold maxLen at hm
    refine ⟨g, c, rfl, hg, hc, by omega, (Array.getElem?_eq_some_iff.1 hheap).1, fun i hi => ?_⟩
    rw [cell_of_row w g (0 + i) cur _ _ hheap, ← Array.getElem?_toList]
    have := congrArg (·[i]?) htake
    simp only [List.getElem?_take, List.getElem?_map] at this
    simp at hlen
    rw [if_pos (by omega)] at this
    rw [Nat.zero_add, this, List.getElem?_eq_getElem hi]
    simp [List.getD, List.getElem?_eq_getElem hi]
theorem below_grownR {B : Nat} {a w w' : World} {row : Option Nat} (h : Below B a w) (hg : w.grownBy w' row) (hB : B ≤ w.heap.size) (hr : ∀ k, row = some k → B ≤ k) : Below B a w' :=
  h.trans ⟨hg.os, hg.tape, hg.output, hg.size, fun k hk => hg.block k (by omega) (fun e => by have := hr k e.symm; omega)⟩

theorem and255 (y : Int) (h : 0 ≤ y ∧ y ≤ 18446744073709551615) : bits .and .u64 y 255 = y % 256 := by
  obtain ⟨Y, rfl⟩ := Int.eq_ofNat_of_zero_le h.1
  have e := u64_and_nat Y 255 (by omega) (by omega)
  rw [show (255 : Int) = ((255 : Nat) : Int) from rfl, e, show Y &&& 255 = Y % 256 from Nat.and_two_pow_sub_one_eq_mod Y 8]
  omega
theorem news1 (W : World) (v : Value) (t : TypeId) : ∀ (j : Nat) (u : Value), [v][j]? = some u → (W.alloc (.cells #[v] t)).cell? ((⟨W.heap.size, 0, none⟩ : Addr).add j) = some u := by
  intro j u hu
  rcases j with _ | j
  · simp at hu
    subst hu
    rw [addr_add, cell_of_row _ _ _ _ _ _ (heap_alloc_new W _)]
    rfl
  · simp at hu
theorem one1 (x : Int) : ∀ u ∈ [Value.int .u8 x], u.oneCell' = true := by
  intro u hu
  simp at hu
  subst hu
  rfl

/-- the bytes of a word -/
def eightL (x : Int) : List Int := [x / 72057594037927936, x / 281474976710656 % 256, x / 1099511627776 % 256, x / 4294967296 % 256, x / 16777216 % 256, x / 65536 % 256, x / 256 % 256, x % 256]

set_option maxHeartbeats 1000000 in
theorem oEight (x : Int) (hx : W64 x) (w : World) :
    Calls Try.prog 140 #[.int .u64 x] w fun e w' => e = .returned (.slice (some ⟨w.heap.size, 0, none⟩) 8 8) ∧ w' = w.alloc (.cells #[.int .u8 (x / 72057594037927936), .int .u8 (x / 281474976710656 % 256), .int .u8 (x / 1099511627776 % 256), .int .u8 (x / 4294967296 % 256), .int .u8 (x / 16777216 % 256), .int .u8 (x / 65536 % 256), .int .u8 (x / 256 % 256), .int .u8 (x % 256)] 5) := by
  obtain ⟨x0, x1⟩ := hx
  go_enter Try.func140, Try.ntmps140
  go_wp2_with fail
  refine wp_loop_rounds 9 ?_
  rw [rounds_succ]
  go_wp2_with fail
  rw [rounds_succ]
  go_wp2_with fail
  rw [rounds_succ]
  go_wp2_with fail
  rw [rounds_succ]
  go_wp2_with fail
  rw [rounds_succ]
  go_wp2_with fail
  rw [rounds_succ]
  go_wp2_with fail
  rw [rounds_succ]
  go_wp2_with fail
  rw [rounds_succ]
  go_wp2_with fail
  rw [rounds_succ]
  go_wp2_with fail
  go_ret
  exact ⟨rfl, rfl⟩
theorem oEightB (x : Int) (hx : W64 x) (w : World) :
    Calls Try.prog 140 #[.int .u64 x] w fun e w' => e = .returned (.slice (some ⟨w.heap.size, 0, none⟩) 8 8) ∧ Below w.heap.size w w' ∧ BytesAt w' w.heap.size 0 (eightL x) := by
  refine (oEight x hx w).mono fun e w' h => ⟨h.1, by rw [h.2]; exact (Below.refl _ _).alloc (Nat.le_refl _) _, ?_⟩
  rw [h.2]
  unfold eightL
  refine ⟨by simp, fun i hi => ?_⟩
  rcases (by simp at hi; omega : i = 0 ∨ i = 1 ∨ i = 2 ∨ i = 3 ∨ i = 4 ∨ i = 5 ∨ i = 6 ∨ i = 7) with rfl | rfl | rfl | rfl | rfl | rfl | rfl | rfl <;> go_simp

set_option maxHeartbeats 2000000 in
theorem rEight (x : Int) (hx : W64 x) (w : World) :
    Calls Try.prog 87 #[.slice none 0 0, .int .u64 x] w fun e w' => ∃ g c, e = .returned (.slice (some ⟨g, 0, none⟩) 8 c) ∧ Below w.heap.size w w' ∧ w.heap.size ≤ g ∧ BytesAt w' g 0 (eightL x) := by
  obtain ⟨i, hi, hz, hs, hb⟩ := info_parts (P := Try.prog) (e := 5) (z := .int .u8 0) (size := 1) (bytes := 1) (by kernel_rfl)
  obtain ⟨x0, x1⟩ := hx
  have d0 : bits .and .u64 (x / 72057594037927936) 255 = x / 72057594037927936 % 256 := and255 _ (by omega)
  have d1 : bits .and .u64 (x / 281474976710656) 255 = x / 281474976710656 % 256 := and255 _ (by omega)
  have d2 : bits .and .u64 (x / 1099511627776) 255 = x / 1099511627776 % 256 := and255 _ (by omega)
  have d3 : bits .and .u64 (x / 4294967296) 255 = x / 4294967296 % 256 := and255 _ (by omega)
  have d4 : bits .and .u64 (x / 16777216) 255 = x / 16777216 % 256 := and255 _ (by omega)
  have d5 : bits .and .u64 (x / 65536) 255 = x / 65536 % 256 := and255 _ (by omega)
  have d6 : bits .and .u64 (x / 256) 255 = x / 256 % 256 := and255 _ (by omega)
  have d7 : bits .and .u64 (x) 255 = x % 256 := and255 _ (by omega)
  have dx : x / 72057594037927936 % 256 = x / 72057594037927936 := by omega
  go_enter Try.func87, Try.ntmps87
  go_wp2_with fail
  refine wp_loop_rounds 9 ?_
  rw [rounds_succ]
  go_wp2_with (at_builtin; refine wpList_append_own _ rfl (.tmp 10) (.tmp 18) 44 rfl w.heap.size 5 i (.int .u8 0) 1 1 Try.underlying44 hi hz hs hb rfl (by decide) (.slice none 0 0) 0 [] rfl (World.ownsRow_nil _ _ _ _) ⟨w.heap.size, 0, none⟩ 1 1 [.int .u8 (x / 72057594037927936)] rfl rfl (news1 _ _ _) (one1 _) (by simp [maxLen]) (by omega) (by simp) ?_; intro v1 w1 hown1 hgrow1 hnil1; simp only [Nat.zero_add, List.nil_append] at hown1; have bl1 : Below w.heap.size w w1 := below_grownR ((Below.refl _ _).alloc (Nat.le_refl _) _) hgrow1 (by simp) (fun k hk => by cases hk))
  rw [rounds_succ]
  go_wp2_with (at_builtin; refine wpList_append_own _ rfl (.tmp 10) (.tmp 18) 44 rfl w.heap.size 5 i (.int .u8 0) 1 1 Try.underlying44 hi hz hs hb rfl (by decide) _ 1 _ rfl (hown1.alloc _) ⟨w1.heap.size, 0, none⟩ 1 1 [.int .u8 (x / 281474976710656 % 256)] rfl rfl (news1 _ _ _) (one1 _) (by simp [maxLen]) (by omega) (by simp; have := bl1.size; omega) ?_; intro v2 w2 hown2 hgrow2 hnil2; simp only [List.nil_append, List.cons_append, Nat.reduceAdd] at hown2; have bl2 : Below w.heap.size w w2 := below_grownR (bl1.alloc bl1.size _) hgrow2 (by simp; have := bl1.size; omega) (fun k hk => (hown1.lt k hk).1))
  rw [rounds_succ]
  go_wp2_with (at_builtin; refine wpList_append_own _ rfl (.tmp 10) (.tmp 18) 44 rfl w.heap.size 5 i (.int .u8 0) 1 1 Try.underlying44 hi hz hs hb rfl (by decide) _ 2 _ rfl (hown2.alloc _) ⟨w2.heap.size, 0, none⟩ 1 1 [.int .u8 (x / 1099511627776 % 256)] rfl rfl (news1 _ _ _) (one1 _) (by simp [maxLen]) (by omega) (by simp; have := bl2.size; omega) ?_; intro v3 w3 hown3 hgrow3 hnil3; simp only [List.nil_append, List.cons_append, Nat.reduceAdd] at hown3; have bl3 : Below w.heap.size w w3 := below_grownR (bl2.alloc bl2.size _) hgrow3 (by simp; have := bl2.size; omega) (fun k hk => (hown2.lt k hk).1))
  rw [rounds_succ]
  go_wp2_with (at_builtin; refine wpList_append_own _ rfl (.tmp 10) (.tmp 18) 44 rfl w.heap.size 5 i (.int .u8 0) 1 1 Try.underlying44 hi hz hs hb rfl (by decide) _ 3 _ rfl (hown3.alloc _) ⟨w3.heap.size, 0, none⟩ 1 1 [.int .u8 (x / 4294967296 % 256)] rfl rfl (news1 _ _ _) (one1 _) (by simp [maxLen]) (by omega) (by simp; have := bl3.size; omega) ?_; intro v4 w4 hown4 hgrow4 hnil4; simp only [List.nil_append, List.cons_append, Nat.reduceAdd] at hown4; have bl4 : Below w.heap.size w w4 := below_grownR (bl3.alloc bl3.size _) hgrow4 (by simp; have := bl3.size; omega) (fun k hk => (hown3.lt k hk).1))
  rw [rounds_succ]
  go_wp2_with (at_builtin; refine wpList_append_own _ rfl (.tmp 10) (.tmp 18) 44 rfl w.heap.size 5 i (.int .u8 0) 1 1 Try.underlying44 hi hz hs hb rfl (by decide) _ 4 _ rfl (hown4.alloc _) ⟨w4.heap.size, 0, none⟩ 1 1 [.int .u8 (x / 16777216 % 256)] rfl rfl (news1 _ _ _) (one1 _) (by simp [maxLen]) (by omega) (by simp; have := bl4.size; omega) ?_; intro v5 w5 hown5 hgrow5 hnil5; simp only [List.nil_append, List.cons_append, Nat.reduceAdd] at hown5; have bl5 : Below w.heap.size w w5 := below_grownR (bl4.alloc bl4.size _) hgrow5 (by simp; have := bl4.size; omega) (fun k hk => (hown4.lt k hk).1))
  rw [rounds_succ]
  go_wp2_with (at_builtin; refine wpList_append_own _ rfl (.tmp 10) (.tmp 18) 44 rfl w.heap.size 5 i (.int .u8 0) 1 1 Try.underlying44 hi hz hs hb rfl (by decide) _ 5 _ rfl (hown5.alloc _) ⟨w5.heap.size, 0, none⟩ 1 1 [.int .u8 (x / 65536 % 256)] rfl rfl (news1 _ _ _) (one1 _) (by simp [maxLen]) (by omega) (by simp; have := bl5.size; omega) ?_; intro v6 w6 hown6 hgrow6 hnil6; simp only [List.nil_append, List.cons_append, Nat.reduceAdd] at hown6; have bl6 : Below w.heap.size w w6 := below_grownR (bl5.alloc bl5.size _) hgrow6 (by simp; have := bl5.size; omega) (fun k hk => (hown5.lt k hk).1))
  rw [rounds_succ]
  go_wp2_with (at_builtin; refine wpList_append_own _ rfl (.tmp 10) (.tmp 18) 44 rfl w.heap.size 5 i (.int .u8 0) 1 1 Try.underlying44 hi hz hs hb rfl (by decide) _ 6 _ rfl (hown6.alloc _) ⟨w6.heap.size, 0, none⟩ 1 1 [.int .u8 (x / 256 % 256)] rfl rfl (news1 _ _ _) (one1 _) (by simp [maxLen]) (by omega) (by simp; have := bl6.size; omega) ?_; intro v7 w7 hown7 hgrow7 hnil7; simp only [List.nil_append, List.cons_append, Nat.reduceAdd] at hown7; have bl7 : Below w.heap.size w w7 := below_grownR (bl6.alloc bl6.size _) hgrow7 (by simp; have := bl6.size; omega) (fun k hk => (hown6.lt k hk).1))
  rw [rounds_succ]
  go_wp2_with (at_builtin; refine wpList_append_own _ rfl (.tmp 10) (.tmp 18) 44 rfl w.heap.size 5 i (.int .u8 0) 1 1 Try.underlying44 hi hz hs hb rfl (by decide) _ 7 _ rfl (hown7.alloc _) ⟨w7.heap.size, 0, none⟩ 1 1 [.int .u8 (x % 256)] rfl rfl (news1 _ _ _) (one1 _) (by simp [maxLen]) (by omega) (by simp; have := bl7.size; omega) ?_; intro v8 w8 hown8 hgrow8 hnil8; simp only [List.nil_append, List.cons_append, Nat.reduceAdd] at hown8; have bl8 : Below w.heap.size w w8 := below_grownR (bl7.alloc bl7.size _) hgrow8 (by simp; have := bl7.size; omega) (fun k hk => (hown7.lt k hk).1))
  rw [rounds_succ]
  go_wp2_with fail
  obtain ⟨g, c, rfl, hg, hc, hm, B⟩ := bytes_own (xs := eightL x) hown8 (by omega)
  go_ret
  exact ⟨g, c, rfl, bl8, hg, B⟩
set_option maxHeartbeats 2000000 in
theorem rPut1 (n : Int) (h1 : n < 64) (h2 : 0 ≤ n) (w : World) :
    Calls Try.prog 128 #[.slice none 0 0, .int .u64 n] w fun e w' => ∃ g c, e = .returned (.slice (some ⟨g, 0, none⟩) 1 c) ∧ Below w.heap.size w w' ∧ w.heap.size ≤ g ∧ BytesAt w' g 0 (putA n) := by
  obtain ⟨i, hi, hz, hs, hb⟩ := info_parts (P := Try.prog) (e := 5) (z := .int .u8 0) (size := 1) (bytes := 1) (by kernel_rfl)
  have hsz : sizeI n = 1 := by unfold sizeI; rw [if_pos (by omega)]
  have hp : putA n = [n] := by unfold putA; rw [if_pos (by omega)]
  have f0 : n % 256 = n := by omega
  have f1 : bits .or .u8 n 0 = n := by have := or_top n 0 (by omega) (by omega); simpa using this
  have d0 : bits .and .u64 (n) 255 = n % 256 := and255 _ (by omega)
  go_enter Try.func128, Try.ntmps128
  go_wp2_with fail
  refine (rSize n _).mono ?_; rintro e' w' ⟨rfl, rfl⟩
  rw [hsz]
  go_wp2_with fail
  refine wp_loop_rounds 1 ?_
  rw [rounds_succ]
  go_wp2_with fail
  refine wp_loop_rounds 2 ?_
  rw [rounds_succ]
  go_wp2_with (at_builtin; refine wpList_append_own _ rfl (.tmp 41) (.tmp 43) 44 rfl w.heap.size 5 i (.int .u8 0) 1 1 Try.underlying44 hi hz hs hb rfl (by decide) (.slice none 0 0) 0 [] rfl (World.ownsRow_nil _ _ _ _) ⟨w.heap.size, 0, none⟩ 1 1 [.int .u8 (n)] rfl rfl (news1 _ _ _) (one1 _) (by simp [maxLen]) (by omega) (by simp) ?_; intro v1 w1 hown1 hgrow1 hnil1; simp only [Nat.zero_add, List.nil_append] at hown1; have bl1 : Below w.heap.size w w1 := below_grownR ((Below.refl _ _).alloc (Nat.le_refl _) _) hgrow1 (by simp) (fun k hk => by cases hk))
  rw [rounds_succ]
  go_wp2_with fail
  rw [hp]
  obtain ⟨g, c, rfl, hg, hc, hm, B⟩ := bytes_own (xs := [n]) hown1 (by omega)
  go_ret
  exact ⟨g, c, rfl, bl1, hg, B⟩

set_option maxHeartbeats 2000000 in
theorem rPut2 (n : Int) (h1 : 64 ≤ n) (h2 : n < 16384) (w : World) :
    Calls Try.prog 128 #[.slice none 0 0, .int .u64 n] w fun e w' => ∃ g c, e = .returned (.slice (some ⟨g, 0, none⟩) 2 c) ∧ Below w.heap.size w w' ∧ w.heap.size ≤ g ∧ BytesAt w' g 0 (putA n) := by
  obtain ⟨i, hi, hz, hs, hb⟩ := info_parts (P := Try.prog) (e := 5) (z := .int .u8 0) (size := 1) (bytes := 1) (by kernel_rfl)
  have hsz : sizeI n = 2 := by unfold sizeI; rw [if_neg (by omega), if_pos (by omega)]
  have hp : putA n = [n / 256 + 64, n % 256] := by unfold putA; rw [if_neg (by omega), if_pos (by omega)]
  have f0 : n / 256 % 256 = n / 256 := by omega
  have f1 : bits .or .u8 (n / 256) 64 = n / 256 + 64 := by have := or_top (n / 256) 1 (by omega) (by omega); simpa using this
  have d0 : bits .and .u64 (n / 256) 255 = n / 256 % 256 := and255 _ (by omega)
  have d1 : bits .and .u64 (n) 255 = n % 256 := and255 _ (by omega)
  go_enter Try.func128, Try.ntmps128
  go_wp2_with fail
  refine (rSize n _).mono ?_; rintro e' w' ⟨rfl, rfl⟩
  rw [hsz]
  go_wp2_with fail
  refine wp_loop_rounds 2 ?_
  rw [rounds_succ]
  go_wp2_with fail
  rw [rounds_succ]
  go_wp2_with fail
  refine wp_loop_rounds 3 ?_
  rw [rounds_succ]
  go_wp2_with (at_builtin; refine wpList_append_own _ rfl (.tmp 41) (.tmp 43) 44 rfl w.heap.size 5 i (.int .u8 0) 1 1 Try.underlying44 hi hz hs hb rfl (by decide) (.slice none 0 0) 0 [] rfl (World.ownsRow_nil _ _ _ _) ⟨w.heap.size, 0, none⟩ 1 1 [.int .u8 (n / 256 + 64)] rfl rfl (news1 _ _ _) (one1 _) (by simp [maxLen]) (by omega) (by simp) ?_; intro v1 w1 hown1 hgrow1 hnil1; simp only [Nat.zero_add, List.nil_append] at hown1; have bl1 : Below w.heap.size w w1 := below_grownR ((Below.refl _ _).alloc (Nat.le_refl _) _) hgrow1 (by simp) (fun k hk => by cases hk))
  rw [rounds_succ]
  go_wp2_with (at_builtin; refine wpList_append_own _ rfl (.tmp 41) (.tmp 43) 44 rfl w.heap.size 5 i (.int .u8 0) 1 1 Try.underlying44 hi hz hs hb rfl (by decide) _ 1 _ rfl (hown1.alloc _) ⟨w1.heap.size, 0, none⟩ 1 1 [.int .u8 (n % 256)] rfl rfl (news1 _ _ _) (one1 _) (by simp [maxLen]) (by omega) (by simp; have := bl1.size; omega) ?_; intro v2 w2 hown2 hgrow2 hnil2; simp only [List.nil_append, List.cons_append, Nat.reduceAdd] at hown2; have bl2 : Below w.heap.size w w2 := below_grownR (bl1.alloc bl1.size _) hgrow2 (by simp; have := bl1.size; omega) (fun k hk => (hown1.lt k hk).1))
  rw [rounds_succ]
  go_wp2_with fail
  rw [hp]
  obtain ⟨g, c, rfl, hg, hc, hm, B⟩ := bytes_own (xs := [n / 256 + 64, n % 256]) hown2 (by omega)
  go_ret
  exact ⟨g, c, rfl, bl2, hg, B⟩

set_option maxHeartbeats 2000000 in
theorem rPut4 (n : Int) (h1 : 16384 ≤ n) (h2 : n < 1073741824) (w : World) :
    Calls Try.prog 128 #[.slice none 0 0, .int .u64 n] w fun e w' => ∃ g c, e = .returned (.slice (some ⟨g, 0, none⟩) 4 c) ∧ Below w.heap.size w w' ∧ w.heap.size ≤ g ∧ BytesAt w' g 0 (putA n) := by
  obtain ⟨i, hi, hz, hs, hb⟩ := info_parts (P := Try.prog) (e := 5) (z := .int .u8 0) (size := 1) (bytes := 1) (by kernel_rfl)
  have hsz : sizeI n = 4 := by unfold sizeI; rw [if_neg (by omega), if_neg (by omega), if_pos (by omega)]
  have hp : putA n = [n / 16777216 + 128, n / 65536 % 256, n / 256 % 256, n % 256] := by unfold putA; rw [if_neg (by omega), if_neg (by omega), if_pos (by omega)]
  have f0 : n / 16777216 % 256 = n / 16777216 := by omega
  have f1 : bits .or .u8 (n / 16777216) 128 = n / 16777216 + 128 := by have := or_top (n / 16777216) 2 (by omega) (by omega); simpa using this
  have d0 : bits .and .u64 (n / 16777216) 255 = n / 16777216 % 256 := and255 _ (by omega)
  have d1 : bits .and .u64 (n / 65536) 255 = n / 65536 % 256 := and255 _ (by omega)
  have d2 : bits .and .u64 (n / 256) 255 = n / 256 % 256 := and255 _ (by omega)
  have d3 : bits .and .u64 (n) 255 = n % 256 := and255 _ (by omega)
  go_enter Try.func128, Try.ntmps128
  go_wp2_with fail
  refine (rSize n _).mono ?_; rintro e' w' ⟨rfl, rfl⟩
  rw [hsz]
  go_wp2_with fail
  refine wp_loop_rounds 3 ?_
  rw [rounds_succ]
  go_wp2_with fail
  rw [rounds_succ]
  go_wp2_with fail
  rw [rounds_succ]
  go_wp2_with fail
  refine wp_loop_rounds 5 ?_
  rw [rounds_succ]
  go_wp2_with (at_builtin; refine wpList_append_own _ rfl (.tmp 41) (.tmp 43) 44 rfl w.heap.size 5 i (.int .u8 0) 1 1 Try.underlying44 hi hz hs hb rfl (by decide) (.slice none 0 0) 0 [] rfl (World.ownsRow_nil _ _ _ _) ⟨w.heap.size, 0, none⟩ 1 1 [.int .u8 (n / 16777216 + 128)] rfl rfl (news1 _ _ _) (one1 _) (by simp [maxLen]) (by omega) (by simp) ?_; intro v1 w1 hown1 hgrow1 hnil1; simp only [Nat.zero_add, List.nil_append] at hown1; have bl1 : Below w.heap.size w w1 := below_grownR ((Below.refl _ _).alloc (Nat.le_refl _) _) hgrow1 (by simp) (fun k hk => by cases hk))
  rw [rounds_succ]
  go_wp2_with (at_builtin; refine wpList_append_own _ rfl (.tmp 41) (.tmp 43) 44 rfl w.heap.size 5 i (.int .u8 0) 1 1 Try.underlying44 hi hz hs hb rfl (by decide) _ 1 _ rfl (hown1.alloc _) ⟨w1.heap.size, 0, none⟩ 1 1 [.int .u8 (n / 65536 % 256)] rfl rfl (news1 _ _ _) (one1 _) (by simp [maxLen]) (by omega) (by simp; have := bl1.size; omega) ?_; intro v2 w2 hown2 hgrow2 hnil2; simp only [List.nil_append, List.cons_append, Nat.reduceAdd] at hown2; have bl2 : Below w.heap.size w w2 := below_grownR (bl1.alloc bl1.size _) hgrow2 (by simp; have := bl1.size; omega) (fun k hk => (hown1.lt k hk).1))
  rw [rounds_succ]
  go_wp2_with (at_builtin; refine wpList_append_own _ rfl (.tmp 41) (.tmp 43) 44 rfl w.heap.size 5 i (.int .u8 0) 1 1 Try.underlying44 hi hz hs hb rfl (by decide) _ 2 _ rfl (hown2.alloc _) ⟨w2.heap.size, 0, none⟩ 1 1 [.int .u8 (n / 256 % 256)] rfl rfl (news1 _ _ _) (one1 _) (by simp [maxLen]) (by omega) (by simp; have := bl2.size; omega) ?_; intro v3 w3 hown3 hgrow3 hnil3; simp only [List.nil_append, List.cons_append, Nat.reduceAdd] at hown3; have bl3 : Below w.heap.size w w3 := below_grownR (bl2.alloc bl2.size _) hgrow3 (by simp; have := bl2.size; omega) (fun k hk => (hown2.lt k hk).1))
  rw [rounds_succ]
  go_wp2_with (at_builtin; refine wpList_append_own _ rfl (.tmp 41) (.tmp 43) 44 rfl w.heap.size 5 i (.int .u8 0) 1 1 Try.underlying44 hi hz hs hb rfl (by decide) _ 3 _ rfl (hown3.alloc _) ⟨w3.heap.size, 0, none⟩ 1 1 [.int .u8 (n % 256)] rfl rfl (news1 _ _ _) (one1 _) (by simp [maxLen]) (by omega) (by simp; have := bl3.size; omega) ?_; intro v4 w4 hown4 hgrow4 hnil4; simp only [List.nil_append, List.cons_append, Nat.reduceAdd] at hown4; have bl4 : Below w.heap.size w w4 := below_grownR (bl3.alloc bl3.size _) hgrow4 (by simp; have := bl3.size; omega) (fun k hk => (hown3.lt k hk).1))
  rw [rounds_succ]
  go_wp2_with fail
  rw [hp]
  obtain ⟨g, c, rfl, hg, hc, hm, B⟩ := bytes_own (xs := [n / 16777216 + 128, n / 65536 % 256, n / 256 % 256, n % 256]) hown4 (by omega)
  go_ret
  exact ⟨g, c, rfl, bl4, hg, B⟩

set_option maxHeartbeats 2000000 in
theorem rPut8 (n : Int) (h1 : 1073741824 ≤ n) (h2 : n ≤ 4611686018427387903) (w : World) :
    Calls Try.prog 128 #[.slice none 0 0, .int .u64 n] w fun e w' => ∃ g c, e = .returned (.slice (some ⟨g, 0, none⟩) 8 c) ∧ Below w.heap.size w w' ∧ w.heap.size ≤ g ∧ BytesAt w' g 0 (putA n) := by
  obtain ⟨i, hi, hz, hs, hb⟩ := info_parts (P := Try.prog) (e := 5) (z := .int .u8 0) (size := 1) (bytes := 1) (by kernel_rfl)
  have hsz : sizeI n = 8 := by unfold sizeI; rw [if_neg (by omega), if_neg (by omega), if_neg (by omega), if_pos (by omega)]
  have hp : putA n = [n / 72057594037927936 + 192, n / 281474976710656 % 256, n / 1099511627776 % 256, n / 4294967296 % 256, n / 16777216 % 256, n / 65536 % 256, n / 256 % 256, n % 256] := by unfold putA; rw [if_neg (by omega), if_neg (by omega), if_neg (by omega)]
  have f0 : n / 72057594037927936 % 256 = n / 72057594037927936 := by omega
  have f1 : bits .or .u8 (n / 72057594037927936) 192 = n / 72057594037927936 + 192 := by have := or_top (n / 72057594037927936) 3 (by omega) (by omega); simpa using this
  have d0 : bits .and .u64 (n / 72057594037927936) 255 = n / 72057594037927936 % 256 := and255 _ (by omega)
  have d1 : bits .and .u64 (n / 281474976710656) 255 = n / 281474976710656 % 256 := and255 _ (by omega)
  have d2 : bits .and .u64 (n / 1099511627776) 255 = n / 1099511627776 % 256 := and255 _ (by omega)
  have d3 : bits .and .u64 (n / 4294967296) 255 = n / 4294967296 % 256 := and255 _ (by omega)
  have d4 : bits .and .u64 (n / 16777216) 255 = n / 16777216 % 256 := and255 _ (by omega)
  have d5 : bits .and .u64 (n / 65536) 255 = n / 65536 % 256 := and255 _ (by omega)
  have d6 : bits .and .u64 (n / 256) 255 = n / 256 % 256 := and255 _ (by omega)
  have d7 : bits .and .u64 (n) 255 = n % 256 := and255 _ (by omega)
  go_enter Try.func128, Try.ntmps128
  go_wp2_with fail
  refine (rSize n _).mono ?_; rintro e' w' ⟨rfl, rfl⟩
  rw [hsz]
  go_wp2_with fail
  refine wp_loop_rounds 4 ?_
  rw [rounds_succ]
  go_wp2_with fail
  rw [rounds_succ]
  go_wp2_with fail
  rw [rounds_succ]
  go_wp2_with fail
  rw [rounds_succ]
  go_wp2_with fail
  refine wp_loop_rounds 9 ?_
  rw [rounds_succ]
  go_wp2_with (at_builtin; refine wpList_append_own _ rfl (.tmp 41) (.tmp 43) 44 rfl w.heap.size 5 i (.int .u8 0) 1 1 Try.underlying44 hi hz hs hb rfl (by decide) (.slice none 0 0) 0 [] rfl (World.ownsRow_nil _ _ _ _) ⟨w.heap.size, 0, none⟩ 1 1 [.int .u8 (n / 72057594037927936 + 192)] rfl rfl (news1 _ _ _) (one1 _) (by simp [maxLen]) (by omega) (by simp) ?_; intro v1 w1 hown1 hgrow1 hnil1; simp only [Nat.zero_add, List.nil_append] at hown1; have bl1 : Below w.heap.size w w1 := below_grownR ((Below.refl _ _).alloc (Nat.le_refl _) _) hgrow1 (by simp) (fun k hk => by cases hk))
  rw [rounds_succ]
  go_wp2_with (at_builtin; refine wpList_append_own _ rfl (.tmp 41) (.tmp 43) 44 rfl w.heap.size 5 i (.int .u8 0) 1 1 Try.underlying44 hi hz hs hb rfl (by decide) _ 1 _ rfl (hown1.alloc _) ⟨w1.heap.size, 0, none⟩ 1 1 [.int .u8 (n / 281474976710656 % 256)] rfl rfl (news1 _ _ _) (one1 _) (by simp [maxLen]) (by omega) (by simp; have := bl1.size; omega) ?_; intro v2 w2 hown2 hgrow2 hnil2; simp only [List.nil_append, List.cons_append, Nat.reduceAdd] at hown2; have bl2 : Below w.heap.size w w2 := below_grownR (bl1.alloc bl1.size _) hgrow2 (by simp; have := bl1.size; omega) (fun k hk => (hown1.lt k hk).1))
  rw [rounds_succ]
  go_wp2_with (at_builtin; refine wpList_append_own _ rfl (.tmp 41) (.tmp 43) 44 rfl w.heap.size 5 i (.int .u8 0) 1 1 Try.underlying44 hi hz hs hb rfl (by decide) _ 2 _ rfl (hown2.alloc _) ⟨w2.heap.size, 0, none⟩ 1 1 [.int .u8 (n / 1099511627776 % 256)] rfl rfl (news1 _ _ _) (one1 _) (by simp [maxLen]) (by omega) (by simp; have := bl2.size; omega) ?_; intro v3 w3 hown3 hgrow3 hnil3; simp only [List.nil_append, List.cons_append, Nat.reduceAdd] at hown3; have bl3 : Below w.heap.size w w3 := below_grownR (bl2.alloc bl2.size _) hgrow3 (by simp; have := bl2.size; omega) (fun k hk => (hown2.lt k hk).1))
  rw [rounds_succ]
  go_wp2_with (at_builtin; refine wpList_append_own _ rfl (.tmp 41) (.tmp 43) 44 rfl w.heap.size 5 i (.int .u8 0) 1 1 Try.underlying44 hi hz hs hb rfl (by decide) _ 3 _ rfl (hown3.alloc _) ⟨w3.heap.size, 0, none⟩ 1 1 [.int .u8 (n / 4294967296 % 256)] rfl rfl (news1 _ _ _) (one1 _) (by simp [maxLen]) (by omega) (by simp; have := bl3.size; omega) ?_; intro v4 w4 hown4 hgrow4 hnil4; simp only [List.nil_append, List.cons_append, Nat.reduceAdd] at hown4; have bl4 : Below w.heap.size w w4 := below_grownR (bl3.alloc bl3.size _) hgrow4 (by simp; have := bl3.size; omega) (fun k hk => (hown3.lt k hk).1))
  rw [rounds_succ]
  go_wp2_with (at_builtin; refine wpList_append_own _ rfl (.tmp 41) (.tmp 43) 44 rfl w.heap.size 5 i (.int .u8 0) 1 1 Try.underlying44 hi hz hs hb rfl (by decide) _ 4 _ rfl (hown4.alloc _) ⟨w4.heap.size, 0, none⟩ 1 1 [.int .u8 (n / 16777216 % 256)] rfl rfl (news1 _ _ _) (one1 _) (by simp [maxLen]) (by omega) (by simp; have := bl4.size; omega) ?_; intro v5 w5 hown5 hgrow5 hnil5; simp only [List.nil_append, List.cons_append, Nat.reduceAdd] at hown5; have bl5 : Below w.heap.size w w5 := below_grownR (bl4.alloc bl4.size _) hgrow5 (by simp; have := bl4.size; omega) (fun k hk => (hown4.lt k hk).1))
  rw [rounds_succ]
  go_wp2_with (at_builtin; refine wpList_append_own _ rfl (.tmp 41) (.tmp 43) 44 rfl w.heap.size 5 i (.int .u8 0) 1 1 Try.underlying44 hi hz hs hb rfl (by decide) _ 5 _ rfl (hown5.alloc _) ⟨w5.heap.size, 0, none⟩ 1 1 [.int .u8 (n / 65536 % 256)] rfl rfl (news1 _ _ _) (one1 _) (by simp [maxLen]) (by omega) (by simp; have := bl5.size; omega) ?_; intro v6 w6 hown6 hgrow6 hnil6; simp only [List.nil_append, List.cons_append, Nat.reduceAdd] at hown6; have bl6 : Below w.heap.size w w6 := below_grownR (bl5.alloc bl5.size _) hgrow6 (by simp; have := bl5.size; omega) (fun k hk => (hown5.lt k hk).1))
  rw [rounds_succ]
  go_wp2_with (at_builtin; refine wpList_append_own _ rfl (.tmp 41) (.tmp 43) 44 rfl w.heap.size 5 i (.int .u8 0) 1 1 Try.underlying44 hi hz hs hb rfl (by decide) _ 6 _ rfl (hown6.alloc _) ⟨w6.heap.size, 0, none⟩ 1 1 [.int .u8 (n / 256 % 256)] rfl rfl (news1 _ _ _) (one1 _) (by simp [maxLen]) (by omega) (by simp; have := bl6.size; omega) ?_; intro v7 w7 hown7 hgrow7 hnil7; simp only [List.nil_append, List.cons_append, Nat.reduceAdd] at hown7; have bl7 : Below w.heap.size w w7 := below_grownR (bl6.alloc bl6.size _) hgrow7 (by simp; have := bl6.size; omega) (fun k hk => (hown6.lt k hk).1))
  rw [rounds_succ]
  go_wp2_with (at_builtin; refine wpList_append_own _ rfl (.tmp 41) (.tmp 43) 44 rfl w.heap.size 5 i (.int .u8 0) 1 1 Try.underlying44 hi hz hs hb rfl (by decide) _ 7 _ rfl (hown7.alloc _) ⟨w7.heap.size, 0, none⟩ 1 1 [.int .u8 (n % 256)] rfl rfl (news1 _ _ _) (one1 _) (by simp [maxLen]) (by omega) (by simp; have := bl7.size; omega) ?_; intro v8 w8 hown8 hgrow8 hnil8; simp only [List.nil_append, List.cons_append, Nat.reduceAdd] at hown8; have bl8 : Below w.heap.size w w8 := below_grownR (bl7.alloc bl7.size _) hgrow8 (by simp; have := bl7.size; omega) (fun k hk => (hown7.lt k hk).1))
  rw [rounds_succ]
  go_wp2_with fail
  rw [hp]
  obtain ⟨g, c, rfl, hg, hc, hm, B⟩ := bytes_own (xs := [n / 72057594037927936 + 192, n / 281474976710656 % 256, n / 1099511627776 % 256, n / 4294967296 % 256, n / 16777216 % 256, n / 65536 % 256, n / 256 % 256, n % 256]) hown8 (by omega)
  go_ret
  exact ⟨g, c, rfl, bl8, hg, B⟩


end Go.Proofs.Ytikkmdbaekdolaa
