/- For all words n, bytes cut and slices more of bytes, OctetBack returns true: reading an encoded number returns it, and every proper prefix is too short. No condition. -/
import Derived.Test.YtinbfjkonaohnaaBase
import Derived.SizedLaws
import Derived.Test.YtinbfjkonaohnaaAliveOctet
import Derived.Test.YtinbfjkonaohnaaNumPut
namespace Go.Proofs.Ytinbfjkonaohnaa.octetBack
open Go.ChangeShapes Go.WideShapes Go.ChangeAt Go.RowKit Go.Lib
set_option linter.unusedVariables false

theorem and_le (l : Int) (h : W64 l) : 0 ≤ bits .and .u64 l 4611686018427387903 ∧ bits .and .u64 l 4611686018427387903 ≤ 4611686018427387903 := by
  obtain ⟨L, rfl⟩ := Int.eq_ofNat_of_zero_le h.1
  have h2 := h.2
  have hL : L < 18446744073709551616 := by omega
  have e : bits .and .u64 (L : Int) 4611686018427387903 = ((L % 4611686018427387904 : Nat) : Int) := by
    rw [show (4611686018427387903 : Int) = ((4611686018427387903 : Nat) : Int) from rfl, bits_and_u64_nat L 4611686018427387903 hL (by omega)]
    congr 1
    exact Nat.and_two_pow_sub_one_eq_mod L 62
  rw [e]
  omega

theorem putA_len (n : Int) : 1 ≤ (putA n).length ∧ (putA n).length ≤ 8 := by
  unfold putA
  repeat' split
  all_goals simp

/-- what a row of bytes of the call's own holds -/
theorem bytes_own {w : World} {base n : Nat} {v : Value} {xs : List Int} (h : w.ownsRow base 5 1 v n (xs.map (.int .u8))) (hn : 0 < n) :
    ∃ g c, v = .slice (some ⟨g, 0, none⟩) n c ∧ base ≤ g ∧ n ≤ c ∧ c ≤ 9223372036854775807 ∧ BytesAt w g 0 xs := by
  obtain ⟨hlen, ⟨_, h2⟩ | ⟨g, c, cur, rfl, hg, hheap, hc, hm, hcs, htake⟩⟩ := h
  · omega
  · unfold maxLen at hm
    refine ⟨g, c, rfl, hg, hc, by omega, (Array.getElem?_eq_some_iff.1 hheap).1, fun i hi => ?_⟩
    rw [cell_of_row w g (0 + i) cur _ _ hheap, ← Array.getElem?_toList]
    have := congrArg (·[i]?) htake
    simp only [List.getElem?_take, List.getElem?_map] at this
    simp at hlen
    rw [if_pos (by omega)] at this
    rw [Nat.zero_add, this, List.getElem?_eq_getElem hi]
    simp [List.getD, List.getElem?_eq_getElem hi]

theorem below_grownR {B : Nat} {a w w' : World} {row : Option Nat} (h : Below B a w) (hg : w.grownBy w' row) (hB : B ≤ w.heap.size) (hr : ∀ k, row = some k → B ≤ k) : Below B a w' :=
  h.trans ⟨hg.os, hg.tape, hg.output, hg.size, fun k hk => hg.block k (by omega) (fun e => by have := hr k e.symm; omega)⟩
theorem BytesAt.belowR {w w' : World} {B b off : Nat} {xs : List Int} (h : BytesAt w b off xs) (hb : Below B w w') (hB : b < B) : BytesAt w' b off xs :=
  ⟨Nat.lt_of_lt_of_le h.1 hb.size, fun i hi => by rw [hb.cell hB]; exact h.2 i hi⟩

theorem BytesAt.take {w : World} {b off : Nat} {xs : List Int} (h : BytesAt w b off xs) (n : Nat) : BytesAt w b off (xs.take n) :=
  ⟨h.1, fun i hi => by
    rw [List.length_take] at hi
    rw [h.2 i (by omega), List.getD_eq_getElem?_getD, List.getD_eq_getElem?_getD, List.getElem?_take, if_pos (by omega)]⟩

/-- what is appended lies there, wherever it lies -/
def NewsAt (w : World) (a : Addr) (zs : List Int) : Prop := ∀ j u, (zs.map (Value.int .u8))[j]? = some u → a.block < w.heap.size ∧ w.cell? (a.add j) = some u
theorem NewsAt.below {w w' : World} {a : Addr} {zs : List Int} (h : NewsAt w a zs) (hb : Below w.heap.size w w') : NewsAt w' a zs := fun j u hu =>
  ⟨Nat.lt_of_lt_of_le (h j u hu).1 hb.size, by
    have e : (a.add j).block = a.block := by unfold Addr.add; split <;> rfl
    rw [hb.cell (by rw [e]; exact (h j u hu).1)]
    exact (h j u hu).2⟩

set_option maxHeartbeats 2000000 in
theorem walkSome (n N c : Int) (ad : Addr) (len cap : Nat) (zs : List Int) (hN : bits .and .u64 n 4611686018427387903 = N) (h1 : 0 ≤ N ∧ N ≤ 4611686018427387903) (hc : 0 ≤ c ∧ c ≤ 255) (w : World)
    (hz : zs.length = len) (hlc : len ≤ cap) (hr : cap ≤ 140737488351232) (BZ : NewsAt w ad zs) :
    Calls Try.prog 7 #[.int .u64 n, .int .u8 c, .slice (some ad) len cap] w fun e w' => e = .returned (.bool true) ∧ Below w.heap.size w w' := by
  obtain ⟨i, hi, hzz, hs, hbb⟩ := info_parts (P := Try.prog) (e := 5) (z := .int .u8 0) (size := 1) (bytes := 1) (by kernel_rfl)
  have H1 := Lib.hid h1
  have hk := putA_len N
  obtain ⟨K, hK⟩ : ∃ K, (putA N).length = K := ⟨_, rfl⟩
  rw [hK] at hk
  clear h1
  go_enter Try.func7, Try.ntmps7
  go_wp2_with fail
  refine (oPut N H1.out _).mono ?_; rintro e' w1 ⟨rfl, ⟨cs1, hc1⟩, B1⟩
  have b1 : Below w.heap.size w w1 := by rw [hc1]; exact (Below.refl _ _).alloc (Nat.le_refl _) _
  have s1 : w1.heap.size = w.heap.size + 1 := by rw [hc1]; simp
  clear hc1
  have BZ1 := NewsAt.below BZ b1
  rw [hK]
  have s0 := b1.size
  have e8 : (1 : Int) ≤ (K : Int) := by omega
  have e7 : (K : Int) ≤ 8 := by omega
  go_wp2_with (first
    | (at_builtin; refine wpList_append_own _ rfl (.const (.slice none 0 0)) (.tmp 22) 34 rfl w1.heap.size 5 i (.int .u8 0) 1 1 Try.underlying34 hi hzz hs hbb rfl (by decide) (.slice none 0 0) 0 [] rfl (World.ownsRow_nil _ _ _ _) ⟨w.heap.size, 0, none⟩ K K ((putA N).map (.int .u8)) rfl (by simp [hK]) B1.news (oneCell_bytes _) (by simp [maxLen]; omega) (by omega) (by omega) ?_; intro v2 w2 hown2 hgrow2 hnil2; simp only [Nat.zero_add, List.nil_append] at hown2; obtain ⟨g2, c2, rfl, hg2, hc2, hm2, B2⟩ := bytes_own hown2 (by omega))
    | (at_builtin; have b2 : Below w1.heap.size w1 w2 := below_grown (Below.refl _ _) hgrow2 (Nat.le_refl _); have s2 := b2.size; have BZ2 := NewsAt.below BZ1 b2; have B1b := BytesAt.below B1 b2; refine wpList_append_own _ rfl (.tmp 23) (.tmp 24) 34 rfl w1.heap.size 5 i (.int .u8 0) 1 1 Try.underlying34 hi hzz hs hbb rfl (by decide) _ K _ rfl hown2 ad len cap (zs.map (.int .u8)) rfl (by simp [hz]) (fun j u hu => (BZ2 j u hu).2) (oneCell_bytes _) (by simp [maxLen]; omega) (by omega) (by omega) ?_; intro v3 w3 hown3 hgrow3 hnil3; rw [← List.map_append] at hown3; obtain ⟨g3, c3, rfl, hg3, hc3, hm3, B3⟩ := bytes_own hown3 (by omega)))
  have b2w : Below w1.heap.size w1 w2 := below_grown (Below.refl _ _) hgrow2 (Nat.le_refl _)
  have b3 : Below w1.heap.size w2 w3 := below_grownR (Below.refl _ _) hgrow3 (by omega) (fun k hk => by have hk2 : some g2 = some k := hk; cases hk2; exact hg2)
  have B1c : BytesAt w3 w.heap.size 0 (putA N) := BytesAt.belowR B1b b3 (by omega)
  have s3 := b3.size
  refine (oNew g3 0 (K + len) c3 (putA N ++ zs) (by simp [hz, hK]) (by omega) _ B3).mono ?_; rintro e' w' ⟨w4, v4, hgrow4, hown4, rfl, rfl⟩
  obtain ⟨g4, c4, rfl, hg4, hc4, hm4, B4⟩ := bytes_own hown4 (by omega)
  have b4 : Below w3.heap.size w3 w4 := below_grown (Below.refl _ _) hgrow4 (Nat.le_refl _)
  have s4 := b4.size
  obtain ⟨w5, hw5⟩ : ∃ w5, w5 = w4.alloc (.cells #[.slice (some ⟨g4, 0, none⟩) (K + len) c4] 70) := ⟨_, rfl⟩
  have b5 : Below w4.heap.size w4 w5 := by rw [hw5]; exact (Below.refl _ _).alloc (Nat.le_refl _) _
  have s5 : w5.heap.size = w4.heap.size + 1 := by rw [hw5]; simp
  have p5 : w5.cell? ⟨w4.heap.size, 0, none⟩ = some (.slice (some ⟨g4, 0, none⟩) (K + len) c4) := by rw [hw5]; go_simp
  have q5 : w5.frozen? ⟨w4.heap.size, 0, none⟩ = false := by rw [hw5]; go_simp
  rw [← hw5]
  clear hw5
  have B1d := BytesAt.below (BytesAt.below B1c b4) b5
  have B4b := BytesAt.below B4 b5
  clear hown2 hgrow2 hnil2 hown3 hgrow3 hnil3 hown4 hgrow4 B2 B3 B4 B1 B1b B1c
  go_wp2_with fail
  refine (aliveOctet _).mono ?_; rintro e' w6 ⟨rfl, b6⟩
  have s6 := b6.size
  have p6 : w6.cell? ⟨w4.heap.size, 0, none⟩ = some (.slice (some ⟨g4, 0, none⟩) (K + len) c4) := by rw [b6.cell (by simp; omega)]; exact p5
  have q6 : w6.frozen? ⟨w4.heap.size, 0, none⟩ = false := by rw [b6.frozen (by simp; omega)]; exact q5
  have B1e := BytesAt.below B1d b6
  have B4c := BytesAt.below B4b b6
  go_wp2_with fail
  refine (oNumPut N H1.out zs w4.heap.size g4 0 (K + len) c4 _ p6 q6 B4c (by simp [hz, hK]) ⟨hc4, hm4⟩).mono ?_; rintro e' w7 ⟨rfl, x7, hx7, hw7⟩
  rw [hK] at hw7
  have b7 : Below w4.heap.size w6 w7 := by rw [hw7]; exact Below.setCell (Below.refl w4.heap.size w6) (Nat.le_refl w4.heap.size) _
  have s7 : w7.heap.size = w6.heap.size := by rw [hw7]; simp
  have p7 : w7.cell? ⟨w4.heap.size, 0, none⟩ = some (.slice x7 (K + len - K) (c4 - K)) := by rw [hw7]; go_simp
  rw [Nat.add_sub_cancel_left] at p7
  clear hw7 hx7
  have B1f : BytesAt w7 w.heap.size 0 (putA N) := BytesAt.belowR B1e b7 (by omega)
  obtain ⟨J, hJ⟩ : ∃ J : Nat, c % (K : Int) = (J : Int) := ⟨(c % (K : Int)).toNat, by have := Int.emod_nonneg c (show (K : Int) ≠ 0 by omega); omega⟩
  have hJK : J < K := by have := Int.emod_lt_of_pos c (show (0 : Int) < (K : Int) by omega); omega
  have j1 : (J : Int) ≤ (K : Int) := by omega
  have j2 : (0 : Int) ≤ (J : Int) := by omega
  have j3 : c.tmod (K : Int) = (J : Int) := by rw [Int.tmod_eq_emod_of_nonneg hc.1]; exact hJ
  go_wp2_with fail
  have BT : BytesAt w7 w.heap.size 0 ((putA N).take J) := BytesAt.take B1f J
  have lt : ((putA N).take J).length = J := by rw [List.length_take, hK]; omega
  refine (oNew w.heap.size 0 J K ((putA N).take J) lt (by omega) _ BT).mono ?_; rintro e' w' ⟨w8, v8, hgrow8, hown8, rfl, rfl⟩
  have b8 : Below w7.heap.size w7 w8 := below_grown (Below.refl _ _) hgrow8 (Nat.le_refl _)
  have s8 := b8.size
  have hv := own_slice hown8
  obtain ⟨x8, c8, rfl⟩ := hv
  obtain ⟨w9, hw9⟩ : ∃ w9, w9 = w8.alloc (.cells #[.slice x8 J c8] 70) := ⟨_, rfl⟩
  have b9 : Below w8.heap.size w8 w9 := by rw [hw9]; exact (Below.refl _ _).alloc (Nat.le_refl _) _
  have p9 : w9.cell? ⟨w8.heap.size, 0, none⟩ = some (.slice x8 J c8) := by rw [hw9]; go_simp
  have p7b : w9.cell? ⟨w4.heap.size, 0, none⟩ = some (.slice x7 len (c4 - K)) := by rw [b9.cell (by simp; omega), b8.cell (by simp; omega)]; exact p7
  rw [← hw9]
  clear hw9
  have hnum : Calls Try.prog 27 #[.pointer (some ⟨w8.heap.size, 0, none⟩)] w9 fun e w' => e = .returned (.tuple #[.int .u64 0, .int .i64 2]) ∧ w9 = w' := by
    by_cases hJ0 : J = 0
    · rw [hJ0] at p9
      exact oNumNone _ c8 x8 _ p9
    · obtain ⟨g9, c9, heq, hg9, hc9, hm9, B9⟩ := bytes_own hown8 (by omega)
      injection heq with q1 q2 q3
      subst q1 q3
      have B9b := BytesAt.below B9 b9
      refine oNumShort N H1.out w8.heap.size g9 0 J c8 w9 p9 (fun _ => ⟨(putA N).getD 0 0, ?_, ?_⟩) (by rw [hK]; exact hJK) ⟨hc9, hm9⟩
      · rw [List.getD_eq_getElem?_getD, List.getElem?_eq_getElem (by omega)]
        rfl
      · have := B9b.2 0 (by omega)
        rw [List.getD_eq_getElem?_getD, List.getElem?_take, if_pos (by omega), ← List.getD_eq_getElem?_getD] at this
        exact this
  clear hown8 hgrow8
  go_wp2_with fail
  refine hnum.mono ?_; rintro e' w' ⟨rfl, rfl⟩
  go_wp2_with fail
  refine (oLeft w4.heap.size len (c4 - K) x7 _ p7b).mono ?_; rintro e' w' ⟨rfl, rfl⟩
  go_wp2_with fail
  go_ret
  refine ⟨rfl, ?_⟩
  exact b1.trans ((b2w.trans ((b3.mono (by omega)).trans ((b4.mono (by omega)).trans ((b5.mono (by omega)).trans ((b6.mono (by omega)).trans ((b7.mono (by omega)).trans ((b8.mono (by omega)).trans (b9.mono (by omega))))))))).mono (by omega))

set_option maxHeartbeats 2000000 in
theorem walkNil (n N c : Int) (hN : bits .and .u64 n 4611686018427387903 = N) (h1 : 0 ≤ N ∧ N ≤ 4611686018427387903) (hc : 0 ≤ c ∧ c ≤ 255) (w : World) :
    Calls Try.prog 7 #[.int .u64 n, .int .u8 c, .slice none 0 0] w fun e w' => e = .returned (.bool true) ∧ Below w.heap.size w w' := by
  obtain ⟨i, hi, hzz, hs, hbb⟩ := info_parts (P := Try.prog) (e := 5) (z := .int .u8 0) (size := 1) (bytes := 1) (by kernel_rfl)
  have H1 := Lib.hid h1
  have hk := putA_len N
  obtain ⟨K, hK⟩ : ∃ K, (putA N).length = K := ⟨_, rfl⟩
  rw [hK] at hk
  clear h1
  go_enter Try.func7, Try.ntmps7
  go_wp2_with fail
  refine (oPut N H1.out _).mono ?_; rintro e' w1 ⟨rfl, ⟨cs1, hc1⟩, B1⟩
  have b1 : Below w.heap.size w w1 := by rw [hc1]; exact (Below.refl _ _).alloc (Nat.le_refl _) _
  have s1 : w1.heap.size = w.heap.size + 1 := by rw [hc1]; simp
  clear hc1
  rw [hK]
  have s0 := b1.size
  have e8 : (1 : Int) ≤ (K : Int) := by omega
  have e7 : (K : Int) ≤ 8 := by omega
  go_wp2_with (first
    | (at_builtin; refine wpList_append_own _ rfl (.const (.slice none 0 0)) (.tmp 22) 34 rfl w1.heap.size 5 i (.int .u8 0) 1 1 Try.underlying34 hi hzz hs hbb rfl (by decide) (.slice none 0 0) 0 [] rfl (World.ownsRow_nil _ _ _ _) ⟨w.heap.size, 0, none⟩ K K ((putA N).map (.int .u8)) rfl (by simp [hK]) B1.news (oneCell_bytes _) (by simp [maxLen]; omega) (by omega) (by omega) ?_; intro v2 w2 hown2 hgrow2 hnil2; simp only [Nat.zero_add, List.nil_append] at hown2; obtain ⟨g2, c2, rfl, hg2, hc2, hm2, B2⟩ := bytes_own hown2 (by omega))
    | (at_builtin; have b2 : Below w1.heap.size w1 w2 := below_grown (Below.refl _ _) hgrow2 (Nat.le_refl _); have s2 := b2.size; have B1b := BytesAt.below B1 b2; refine wpList_append_own_none rfl (.tmp 23) (.tmp 24) 34 rfl w1.heap.size 5 i 1 Try.underlying34 hi _ K _ rfl hown2 rfl ?_))
  have b2w : Below w1.heap.size w1 w2 := below_grown (Below.refl _ _) hgrow2 (Nat.le_refl _)
  have b3 : Below w1.heap.size w2 w2 := Below.refl _ _
  have B1c : BytesAt w2 w.heap.size 0 (putA N) := B1b
  have s3 := b3.size
  refine (oNew g2 0 K c2 (putA N ++ []) (by simp [hK]) (by omega) _ (by rw [List.append_nil]; exact B2)).mono ?_; rintro e' w' ⟨w4, v4, hgrow4, hown4, rfl, rfl⟩
  obtain ⟨g4, c4, rfl, hg4, hc4, hm4, B4⟩ := bytes_own hown4 (by omega)
  have b4 : Below w2.heap.size w2 w4 := below_grown (Below.refl _ _) hgrow4 (Nat.le_refl _)
  have s4 := b4.size
  obtain ⟨w5, hw5⟩ : ∃ w5, w5 = w4.alloc (.cells #[.slice (some ⟨g4, 0, none⟩) K c4] 70) := ⟨_, rfl⟩
  have b5 : Below w4.heap.size w4 w5 := by rw [hw5]; exact (Below.refl _ _).alloc (Nat.le_refl _) _
  have s5 : w5.heap.size = w4.heap.size + 1 := by rw [hw5]; simp
  have p5 : w5.cell? ⟨w4.heap.size, 0, none⟩ = some (.slice (some ⟨g4, 0, none⟩) K c4) := by rw [hw5]; go_simp
  have q5 : w5.frozen? ⟨w4.heap.size, 0, none⟩ = false := by rw [hw5]; go_simp
  rw [← hw5]
  clear hw5
  have B1d := BytesAt.below (BytesAt.below B1c b4) b5
  have B4b := BytesAt.below B4 b5
  clear hown2 hgrow2 hnil2 hown4 hgrow4 B2 B4 B1 B1b B1c
  go_wp2_with fail
  refine (aliveOctet _).mono ?_; rintro e' w6 ⟨rfl, b6⟩
  have s6 := b6.size
  have p6 : w6.cell? ⟨w4.heap.size, 0, none⟩ = some (.slice (some ⟨g4, 0, none⟩) K c4) := by rw [b6.cell (by simp; omega)]; exact p5
  have q6 : w6.frozen? ⟨w4.heap.size, 0, none⟩ = false := by rw [b6.frozen (by simp; omega)]; exact q5
  have B1e := BytesAt.below B1d b6
  have B4c := BytesAt.below B4b b6
  go_wp2_with fail
  refine (oNumPut N H1.out [] w4.heap.size g4 0 K c4 _ p6 q6 B4c (by simp [hK]) ⟨hc4, hm4⟩).mono ?_; rintro e' w7 ⟨rfl, x7, hx7, hw7⟩
  rw [hK] at hw7
  have b7 : Below w4.heap.size w6 w7 := by rw [hw7]; exact Below.setCell (Below.refl w4.heap.size w6) (Nat.le_refl w4.heap.size) _
  have s7 : w7.heap.size = w6.heap.size := by rw [hw7]; simp
  have p7 : w7.cell? ⟨w4.heap.size, 0, none⟩ = some (.slice x7 (K - K) (c4 - K)) := by rw [hw7]; go_simp
  rw [Nat.sub_self] at p7
  clear hw7 hx7
  have B1f : BytesAt w7 w.heap.size 0 (putA N) := BytesAt.belowR B1e b7 (by omega)
  obtain ⟨J, hJ⟩ : ∃ J : Nat, c % (K : Int) = (J : Int) := ⟨(c % (K : Int)).toNat, by have := Int.emod_nonneg c (show (K : Int) ≠ 0 by omega); omega⟩
  have hJK : J < K := by have := Int.emod_lt_of_pos c (show (0 : Int) < (K : Int) by omega); omega
  have j1 : (J : Int) ≤ (K : Int) := by omega
  have j2 : (0 : Int) ≤ (J : Int) := by omega
  have j3 : c.tmod (K : Int) = (J : Int) := by rw [Int.tmod_eq_emod_of_nonneg hc.1]; exact hJ
  go_wp2_with fail
  have BT : BytesAt w7 w.heap.size 0 ((putA N).take J) := BytesAt.take B1f J
  have lt : ((putA N).take J).length = J := by rw [List.length_take, hK]; omega
  refine (oNew w.heap.size 0 J K ((putA N).take J) lt (by omega) _ BT).mono ?_; rintro e' w' ⟨w8, v8, hgrow8, hown8, rfl, rfl⟩
  have b8 : Below w7.heap.size w7 w8 := below_grown (Below.refl _ _) hgrow8 (Nat.le_refl _)
  have s8 := b8.size
  have hv := own_slice hown8
  obtain ⟨x8, c8, rfl⟩ := hv
  obtain ⟨w9, hw9⟩ : ∃ w9, w9 = w8.alloc (.cells #[.slice x8 J c8] 70) := ⟨_, rfl⟩
  have b9 : Below w8.heap.size w8 w9 := by rw [hw9]; exact (Below.refl _ _).alloc (Nat.le_refl _) _
  have p9 : w9.cell? ⟨w8.heap.size, 0, none⟩ = some (.slice x8 J c8) := by rw [hw9]; go_simp
  have p7b : w9.cell? ⟨w4.heap.size, 0, none⟩ = some (.slice x7 0 (c4 - K)) := by rw [b9.cell (by simp; omega), b8.cell (by simp; omega)]; exact p7
  rw [← hw9]
  clear hw9
  have hnum : Calls Try.prog 27 #[.pointer (some ⟨w8.heap.size, 0, none⟩)] w9 fun e w' => e = .returned (.tuple #[.int .u64 0, .int .i64 2]) ∧ w9 = w' := by
    by_cases hJ0 : J = 0
    · rw [hJ0] at p9
      exact oNumNone _ c8 x8 _ p9
    · obtain ⟨g9, c9, heq, hg9, hc9, hm9, B9⟩ := bytes_own hown8 (by omega)
      injection heq with q1 q2 q3
      subst q1 q3
      have B9b := BytesAt.below B9 b9
      refine oNumShort N H1.out w8.heap.size g9 0 J c8 w9 p9 (fun _ => ⟨(putA N).getD 0 0, ?_, ?_⟩) (by rw [hK]; exact hJK) ⟨hc9, hm9⟩
      · rw [List.getD_eq_getElem?_getD, List.getElem?_eq_getElem (by omega)]
        rfl
      · have := B9b.2 0 (by omega)
        rw [List.getD_eq_getElem?_getD, List.getElem?_take, if_pos (by omega), ← List.getD_eq_getElem?_getD] at this
        exact this
  clear hown8 hgrow8
  go_wp2_with fail
  refine hnum.mono ?_; rintro e' w' ⟨rfl, rfl⟩
  go_wp2_with fail
  refine (oLeft w4.heap.size 0 (c4 - K) x7 _ p7b).mono ?_; rintro e' w' ⟨rfl, rfl⟩
  go_wp2_with fail
  go_ret
  refine ⟨rfl, ?_⟩
  exact b1.trans ((b2w.trans ((b3.mono (by omega)).trans ((b4.mono (by omega)).trans ((b5.mono (by omega)).trans ((b6.mono (by omega)).trans ((b7.mono (by omega)).trans ((b8.mono (by omega)).trans (b9.mono (by omega))))))))).mono (by omega))

theorem walk (a0 a1 : Int) (a2 : Option Addr) (len2 cap2 : Nat) (z2 : List Int) (w : World) (w0 : W64 a0) (w1 : 0 ≤ a1 ∧ a1 ≤ 255) (w2 : IsRow .u8 w a2 len2 cap2 z2) (s2 : cap2 ≤ 140737488351232) :
    Calls Try.prog 7 #[.int .u64 a0, .int .u8 a1, .slice a2 len2 cap2] w fun e w' => e = .returned (.bool true) ∧ Below w.heap.size w w' := by
  rcases w2 with ⟨rfl, rfl, rfl, rfl⟩ | ⟨x, rfl, hl, hm, hz, hc, hw⟩
  · exact walkNil a0 _ a1 rfl (and_le a0 w0) w1 w
  · refine walkSome a0 _ a1 x len2 cap2 (z2.take len2) rfl (and_le a0 w0) w1 w (by rw [List.length_take]; omega) hl s2 (fun j u hu => ?_)
    rw [List.getElem?_map] at hu
    cases hx : (z2.take len2)[j]? with
    | none => rw [hx] at hu; cases hu
    | some y =>
      rw [hx] at hu
      rw [List.getElem?_take] at hx
      split at hx
      · have hj := (List.getElem?_eq_some_iff.1 hx).1
        have hcell := hc j hj
        have hy : z2.getD j 0 = y := by rw [List.getD_eq_getElem?_getD, hx]; rfl
        rw [hy] at hcell
        have hp := (cell_plain hcell).2
        have e : (x.add j).block = x.block := by unfold Addr.add; split <;> rfl
        rw [e] at hp
        exact ⟨hp, by rw [hcell]; simpa using hu⟩
      · cases hx

/-! ### the row's step -/
set_option maxRecDepth 100000 in
theorem lifted (os : Os) (started : os.Started) (H : Type) (enc : TypeId × Value → H) :
    ReturnsInHanded {} Try.checked os 7 .any (Rows.octetBackSpec.pre6 enc Try.prog Try.f7 Rows.octetBackRow.domain false) (Rows.octetBackSpec.post enc Try.prog Try.f7 false true false false) := by
  refine returnsInHanded_of_change_sized (C := Try.checked) own started (by kernel_rfl) Try.func7
    (ChangeSpec.witness6 (enc := enc) (C := Try.checked) false ⟨#[], #[.int .u64 0, .int .u8 0, .slice none 0 0], []⟩ 8 (by kernel_rfl) (by kernel_rfl) (by kernel_rfl) (by kernel_rfl)) ?_
  intro W base args ds gs before hval0 hW hcnd hsz0 _
  have hsz : (DataW.weightsEach Try.prog (Try.f7.params.toList ++ Rows.octetBackSpec.plain.varTypes Try.prog) (ds ++ gs)).all (· ≤ reachBytes) = true := hsz0
  clear hsz0
  have hval : ∀ (j : Nat) t v, Try.f7.params[j]? = some t → args[j]? = some v → Value.okWide Try.prog W .any base t v := hval0
  have hW' := hW
  obtain ⟨p, q, hA0, hV, rfl, hfz, hnd⟩ := hW
  have hA : DataW.TrodAll enc Try.prog W 0 (fun _ => true) true Try.f7.params.toList args.toList ds p := hA0
  rw [Try.params7] at hA hval hsz
  obtain ⟨v0, vs0, d0, ds0, p0, q0, hargs, rfl, rfl, h0, r0⟩ := trodAll_cons hA
  obtain ⟨v1, vs1, d1, ds1, p1, q1, rfl, rfl, rfl, h1, r1⟩ := trodAll_cons r0
  obtain ⟨v2, vs2, d2, ds2, p2, q2, rfl, rfl, rfl, h2, r2⟩ := trodAll_cons r1
  obtain ⟨rfl, rfl, rfl⟩ := trodAll_nil r2
  obtain rfl : args = #[v0, v1, v2] := by cases args; simp_all
  obtain ⟨rfl, rfl⟩ := trodVars_none hV
  obtain ⟨a0, rfl, rfl, rfl, w0⟩ := open_int Try.underlying22 (hval 0 22 v0 rfl rfl) h0
  obtain ⟨a1, rfl, rfl, rfl, w1⟩ := open_int Try.underlying5 (hval 1 5 v1 rfl rfl) h1
  obtain ⟨a2, len2, cap2, rfl⟩ := okWide_slice Try.underlying34 (hval 2 34 v2 rfl rfl)
  have k2 := h2
  have lt2 : ∀ x ∈ p2, x.block < W.heap.size := by obtain ⟨m, hm⟩ := k2; exact DataW.trod_lt m _ _ _ hm
  obtain ⟨z2, w2, s2⟩ : ∃ zs, IsRow .u8 W a2 len2 cap2 zs ∧ cap2 ≤ 140737488351232 := by
    obtain ⟨fuel, hf⟩ := h2
    rcases open_ints Try.underlying34 Try.underlying5 (by kernel_rfl) hf with ⟨hcs, _⟩ | ⟨x, l, c, zs, hcs, _, hl, hm, hz, hx, hcell, hwz⟩
    · simp [Value.cells] at hcs
      obtain ⟨rfl, rfl, rfl⟩ := hcs
      exact ⟨[], .inl ⟨rfl, rfl, rfl, rfl⟩, by omega⟩
    · simp [Value.cells] at hcs
      obtain ⟨rfl, rfl, rfl⟩ := hcs
      have hd := (Prod.mk.inj hx).1
      have hr := sized_slice hsz (j := 2) (t := 34) (e := 5) rfl (by rw [← hd]; rfl) Try.underlying34
      rw [show Try.prog.bytesOf 5 = 1 from by kernel_rfl] at hr
      simp only [lits, List.length_map, List.length_take, List.length_drop, reachBytes] at hr
      have hz' : zs.length = cap2 := by simpa using hz
      exact ⟨zs, .inr ⟨_, rfl, hl, hm, hz', hcell, hwz⟩, by omega⟩
  clear hA0 hval0
  refine (walk a0 a1 a2 len2 cap2 z2 W (wfU64 w0) (wfU8 w1) w2 s2).mono fun e W' ⟨he, bel⟩ => ?_
  subst he
  exact ⟨_, rfl, _, _, _, [], _, [], hW', trodAll_mk1 (shut_bool Try.underlying4 _), (trodAll_cons_mk (shut_int Try.underlying22 w0) (trodAll_cons_mk (shut_int Try.underlying5 w1) (trodAll_cons_mk (Below.trod laidOut (by kernel_rfl) (of_decide_eq_true (by kernel_rfl)) k2 bel lt2) trodAll_mk0))), rfl, bel.frame _, fun h => by cases h⟩

theorem over : Rows.octetBackRow.holds Try.pinned (OpenSpec.ofChange Rows.octetBackSpec) :=
  OpenClaim.holds_of_wide 7 Try.f7 rfl rfl rfl rfl rfl rfl rfl ⟨rfl, rfl, rfl, rfl, rfl⟩ rfl rfl rfl rfl rfl (by kernel_rfl) Try.func7 (by kernel_rfl)
    (of_decide_eq_true (by kernel_rfl)) (by unfold Func.isWrapper; first | (rw [if_pos (by decide +kernel)]; kernel_rfl) | (rw [if_neg (by decide +kernel)]; exact ⟨rfl, rfl⟩))
    (fun os started H enc _ => lifted os started H enc)

/-- THE STATEMENT -/
theorem proved : Rows.OctetBackSaid := over
end Go.Proofs.Ytinbfjkonaohnaa.octetBack
