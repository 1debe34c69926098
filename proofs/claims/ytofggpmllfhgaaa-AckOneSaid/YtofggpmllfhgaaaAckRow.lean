/- package ack: row of any good row; the reference's putRow. -/
import Derived.Test.YtofggpmllfhgaaaAckPlain
import Derived.Test.YtofggpmllfhgaaaAckOne
import Derived.StillTailTactics
namespace Go.Proofs.Ytofggpmllfhgaaa
open Go.RowKit Go.Lib
set_option linter.unusedVariables false
set_option maxRecDepth 100000

theorem putA_16 (a b : Int) : (putA a).length + (putA b).length ≤ 16 := by
  have := putA_len1 a
  have := putA_len1 b
  omega
theorem rowL_len : ∀ (l : List (Int × Int)) (low : Int), (rowL low l).length ≤ 16 * l.length
  | [], _ => by simp [rowL]
  | (lo, hi) :: l, low => by
    have ih := rowL_len l (hi + 2)
    have := putA_16 (lo - low) (hi - lo)
    rw [rowL]
    simp only [List.length_append, List.length_cons]
    omega
theorem putRowL_len (l : List (Int × Int)) : (putRowL l).length ≤ 1 + 16 * l.length := by
  have := rowL_len l 0
  rw [putRowL, List.length_cons]
  omega
theorem getD_mid (ls l2 : List (Int × Int)) (s : Int × Int) (k : Nat) (hk : ls.length = k) : (ls ++ s :: l2).getD k (0, 0) = s := by
  subst hk
  rw [List.getD_eq_getElem?_getD, List.getElem?_append_right (Nat.le_refl _), Nat.sub_self]
  rfl

theorem grow_spanR {w4 w5 : World} {row : Option Nat} {B P q0 n : Nat} {v5 : Value} {xs ys : List Int} {lo hi : Int} (hgrow : w4.grownBy w5 row) (hown : w5.ownsRow B 5 1 v5 n (xs.map (.int .u8))) (hn : 0 < n) (hx : 0 < xs.length) (k0 : w4.cell? ⟨P, 0, none⟩ = some (.int .u64 lo)) (k1 : w4.cell? ⟨P, 1, none⟩ = some (.int .u64 hi)) (hP : row ≠ some P) (B4 : BytesAt w4 q0 0 ys) (hq : row ≠ some q0) (hs : w4.heap.size ≤ w5.heap.size) :
    ∃ g5 c5, v5 = .slice (some ⟨g5, 0, none⟩) n c5 ∧ w5.cell? ⟨P, 1, none⟩ = some (.int .u64 hi) ∧ g5 ≠ P ∧ BytesAt w5 q0 0 ys := by
  obtain ⟨g5, c5, rfl, hg5, hc5, hm5, B5⟩ := ownBytes hown hn
  have x0 := hgrow.cell k0 (fun e => hP e.symm)
  have x1 := hgrow.cell k1 (fun e => hP e.symm)
  have h5 : w5.cell? ⟨g5, 0, none⟩ = some (.int .u8 (xs.getD 0 0)) := B5.2 0 hx
  refine ⟨g5, c5, rfl, x1, fun e => ?_, Nat.lt_of_lt_of_le B4.1 hs, fun j hj => hgrow.cell (B4.2 j hj) (fun e => hq e.symm)⟩
  rw [e, x0] at h5
  simp at h5

set_option maxHeartbeats 8000000 in
set_option maxRecDepth 100000 in
theorem aRowL (x : Option Addr) (c : Nat) (l : List (Int × Int)) (hg : GoodL 0 l) (hl : l.length ≤ 32) (w : World) (hS : SRow w x l) :
    Calls Try.prog 51 #[.slice x l.length c] w fun e w' => ∃ v, e = .returned v ∧ Below w.heap.size w w' ∧ w'.ownsRow w.heap.size 5 1 v (putRowL l).length ((putRowL l).map (.int .u8)) := by
  obtain ⟨i, hi', hz, hs, hbb⟩ := info_parts (P := Try.prog) (e := 5) (z := .int .u8 0) (size := 1) (bytes := 1) (by kernel_rfl)
  have HS := Lib.hid hS
  have HG := Lib.hid hg
  obtain ⟨n, hn⟩ : ∃ n, l.length = n := ⟨_, rfl⟩
  have HN := Lib.hid hn
  rw [hn] at hl ⊢
  clear hS hg hn
  have hnI : (n : Int) ≤ 32 := by omega
  have hn0 : (0 : Int) ≤ (n : Int) := by omega
  have hcv : IntKind.u8.wrap (n : Int) = (n : Int) := by rw [IntKind.wrap_u8]; omega
  go_enter Try.func51, Try.ntmps51
  go_wp2_with fail
  have own0 : (w.alloc (.cells #[.int .u8 (n : Int)] 5 (0, 0))).ownsRow w.heap.size 5 1 (.slice (some ⟨w.heap.size, 0, none⟩) 1 1) 1 ([(n : Int)].map (.int .u8)) := World.ownsRow_lit w #[.int .u8 (n : Int)] 1 (Nat.le_refl _) (by simp [maxLen]) rfl
  have b00 : Below w.heap.size w (w.alloc (.cells #[.int .u8 (n : Int)] 5 (0, 0))) := (Below.refl _ _).alloc (Nat.le_refl _) _
  have OWN0 := Lib.hid own0
  clear own0
  go_loopw [3, 4, 17] (fun bv lv iv wr => ∃ (k : Nat) (low : Int) (ls l' : List (Int × Int)) (bs : List Int), iv = .int .i64 (k : Int) ∧ lv = .int .u64 low ∧ k ≤ n ∧ ls.length = k ∧ ls ++ l' = l ∧ GoodL low l' ∧ (0 ≤ low ∧ low ≤ 4611686018427387905) ∧ (1 ≤ bs.length ∧ bs.length ≤ 1 + 16 * k) ∧ bs ++ rowL low l' = putRowL l ∧ wr.ownsRow w.heap.size 5 1 bv bs.length (bs.map (.int .u8)) ∧ Below w.heap.size w wr) (fun _ _ iv _ => (n - intOf iv).toNat)
  case atStart => exact ⟨0, 0, [], l, [(n : Int)], rfl, rfl, by omega, rfl, rfl, HG.out, by omega, by simp, by rw [putRowL, HN.out]; rfl, OWN0.out, b00⟩
  case round =>
    obtain ⟨k, low, ls, l', bs, rfl, rfl, hk, hlk, hll, hgood, hlow, hbl, hrest, own, bel⟩ := hrel
    have hk0 : (0 : Int) ≤ (k : Int) := by omega
    have HLK := Lib.hid hlk
    have HLL := Lib.hid hll
    have HRE := Lib.hid hrest
    have OWN := Lib.hid own
    have sb := bel.size
    clear hlk hll hrest own b00
    by_cases hlt : k < n
    · have hlt' : (k : Int) < (n : Int) := by omega
      rcases l' with _ | ⟨⟨lo, hi⟩, l2⟩
      · have e1 := congrArg List.length HLL.out
        rw [List.append_nil, HLK.out, HN.out] at e1
        omega
      obtain ⟨g1, g2, g3, g4⟩ := hgood
      have HG4 := Lib.hid g4
      obtain ⟨ga, oa, hxa, hga, c0, c1⟩ := (HS.out.below bel).at k (by rw [HN.out]; exact hlt)
      rw [← HLL.out, getD_mid ls l2 (lo, hi) k HLK.out] at c0 c1
      have c0 : wr.cell? ⟨ga, oa + k * 2, none⟩ = some (.int .u64 lo) := c0
      have c1 : wr.cell? ⟨ga, oa + k * 2 + 1, none⟩ = some (.int .u64 hi) := c1
      rw [hxa]
      clear hxa g4
      have pm : 0 ≤ lo - low ∧ lo - low ≤ 4611686018427387903 := by omega
      have ph : 0 ≤ hi - lo ∧ hi - lo ≤ 4611686018427387903 := by omega
      have K1 := putA_len1 (lo - low)
      have K2 := putA_len1 (hi - lo)
      have s0 : IntKind.u64.wrap (lo - low) = lo - low := by rw [IntKind.wrap_u64]; omega
      have s1 : IntKind.u64.wrap (hi - lo) = hi - lo := by rw [IntKind.wrap_u64]; omega
      have s2 : IntKind.u64.wrap (hi + 2) = hi + 2 := by rw [IntKind.wrap_u64]; omega
      go_wp2_with fail
      obtain ⟨P, hP⟩ : ∃ P, P = wr.heap.size := ⟨_, rfl⟩
      obtain ⟨w2, hw2⟩ : ∃ w2, w2 = wr.alloc (.cells #[.int .u64 lo, .int .u64 hi] 84 (0, 0)) := ⟨_, rfl⟩
      have z2 : w2.heap.size = P + 1 := by rw [hw2, hP]; simp
      have f0 : w2.cell? ⟨P, 0, none⟩ = some (.int .u64 lo) := by rw [hw2, hP]; go_simp
      have f1 : w2.cell? ⟨P, 1, none⟩ = some (.int .u64 hi) := by rw [hw2, hP]; go_simp
      have b2 : Below w.heap.size w w2 := by rw [hw2]; exact bel.alloc sb _
      have own2 : w2.ownsRow w.heap.size 5 1 u3 bs.length (bs.map (.int .u8)) := by rw [hw2]; exact OWN.out.alloc _
      have hrow : ∀ q, P ≤ q → u3.ownBlock ≠ some q := fun q hq e => by have := (OWN.out.lt q e).2; omega
      rw [← hw2, ← hP]
      have zP : w.heap.size ≤ P := by omega
      clear hw2 c0 c1 OWN hP
      refine (oPut (lo - low) pm _).mono ?_; rintro e' w3 ⟨rfl, ⟨cs3, hcs3⟩, B3⟩
      have b23 : Below w2.heap.size w2 w3 := by rw [hcs3]; exact (Below.refl _ _).alloc (Nat.le_refl _) _
      have z3 : w3.heap.size = P + 2 := by rw [hcs3]; simp [z2]
      have own3 := own_below own2 b23
      have e0 : w3.cell? ⟨P, 0, none⟩ = some (.int .u64 lo) := by rw [b23.cell (by simp; omega)]; exact f0
      have e1 : w3.cell? ⟨P, 1, none⟩ = some (.int .u64 hi) := by rw [b23.cell (by simp; omega)]; exact f1
      have b3 := b2.trans (b23.mono (by omega))
      rw [z2] at B3
      clear hcs3 b23 own2 f0 f1 b2
      rw [z2]
      clear z2
      go_wp2_with fail
      refine (oPut (hi - lo) ph _).mono ?_; rintro e' w4 ⟨rfl, ⟨cs4, hcs4⟩, B4⟩
      have b34 : Below w3.heap.size w3 w4 := by rw [hcs4]; exact (Below.refl _ _).alloc (Nat.le_refl _) _
      have z4 : w4.heap.size = P + 3 := by rw [hcs4]; simp [z3]
      have own4 := own_below own3 b34
      have k0 : w4.cell? ⟨P, 0, none⟩ = some (.int .u64 lo) := by rw [b34.cell (by simp; omega)]; exact e0
      have k1 : w4.cell? ⟨P, 1, none⟩ = some (.int .u64 hi) := by rw [b34.cell (by simp; omega)]; exact e1
      have b4 := b3.trans (b34.mono (by omega))
      have B34 := B3.below b34
      rw [z3] at B4
      clear hcs4 b34 own3 e0 e1 b3 B3
      rw [z3]
      clear z3
      go_wp2_with (first
        | (at_builtin; refine wpList_append_own _ rfl (.tmp 38) (.tmp 39) 23 rfl w.heap.size 5 i (.int .u8 0) 1 1 Try.underlying23 hi' hz hs hbb rfl (by decide) _ bs.length _ rfl own4 ⟨P + 1, 0, none⟩ (putA (lo - low)).length (putA (lo - low)).length ((putA (lo - low)).map (.int .u8)) rfl (by simp) B34.news (oneCell_bytes _) (by simp [maxLen]; omega) (by omega) (by omega) ?_; intro v5 w5 own5 hgrow5 hnil5; rw [← List.map_append] at own5)
        | (at_builtin; have b45 : Below w.heap.size w4 w5 := below_grownR (Below.refl _ _) hgrow5 (by omega) (fun k hk => (own4.lt k hk).1); obtain ⟨g5, c5, rfl, x1, ne5, B45⟩ := grow_spanR (B := w.heap.size) (P := P) (q0 := P + 2) hgrow5 own5 (by omega) (by simp; omega) k0 k1 (hrow P (Nat.le_refl _)) B4 (hrow (P + 2) (by omega)) b45.size; refine wpList_append_own _ rfl (.tmp 40) (.tmp 41) 23 rfl w.heap.size 5 i (.int .u8 0) 1 1 Try.underlying23 hi' hz hs hbb rfl (by decide) _ (bs.length + (putA (lo - low)).length) _ rfl own5 ⟨P + 2, 0, none⟩ (putA (hi - lo)).length (putA (hi - lo)).length ((putA (hi - lo)).map (.int .u8)) rfl (by simp) B45.news (oneCell_bytes _) (by simp [maxLen]; omega) (by omega) (by have := b45.size; omega) ?_; intro v6 w6 own6 hgrow6 hnil6; rw [← List.map_append] at own6; have y1 := hgrow6.cell x1 (fun e => ne5 (Option.some.inj e).symm); have b56 : Below w.heap.size w5 w6 := below_grownR (Below.refl _ _) hgrow6 (by have := b45.size; omega) (fun k hk => (own5.lt k hk).1)))
      go_roundw
      case rel =>
        have hr := HRE.out
        rw [rowL] at hr
        refine ⟨k + 1, hi + 2, ls ++ [(lo, hi)], l2, bs ++ putA (lo - low) ++ putA (hi - lo), by congr 1, rfl, by omega, by rw [List.length_append, HLK.out]; rfl, by rw [List.append_assoc]; exact HLL.out, HG4.out, by omega, by simp only [List.length_append]; omega, by rw [← hr]; simp only [List.append_assoc], ?_, b4.trans (b45.trans b56)⟩
        simp only [List.length_append]
        exact own6
      case measure => simp only [intOf]; omega
    · have hkn : k = n := by omega
      subst hkn
      have hd : decide ((k : Int) < (k : Int)) = false := by simp
      have hnil : l' = [] := by
        have e1 := congrArg List.length HLL.out
        rw [List.length_append, HLK.out, HN.out] at e1
        exact List.eq_nil_of_length_eq_zero (by omega)
      subst hnil
      have hr := HRE.out
      rw [rowL, List.append_nil] at hr
      have own := OWN.out
      rw [hr] at own
      go_wp2_with fail
      go_ret
      exact ⟨u3, rfl, bel, own⟩

/-- a row in blocks below -/
def SLow (w : World) (B : Nat) (x : Option Addr) (l : List (Int × Int)) : Prop := l = [] ∨ ∃ g o, x = some ⟨g, o, none⟩ ∧ g < B ∧ SpansAt w g o l
theorem SLow.below {w w' : World} {B : Nat} {x : Option Addr} {l : List (Int × Int)} (h : SLow w B x l) (hb : Below B w w') : SLow w' B x l := by
  rcases h with h | ⟨g, o, h1, h2, h3⟩
  · exact .inl h
  · exact .inr ⟨g, o, h1, h2, Nat.lt_of_lt_of_le h3.1 hb.size, fun i hi => by rw [hb.cell h2, hb.cell h2]; exact h3.2 i hi⟩
theorem SLow.row {w : World} {B : Nat} {x : Option Addr} {l : List (Int × Int)} (h : SLow w B x l) : SRow w x l := by
  rcases h with h | ⟨g, o, h1, h2, h3⟩
  · exact .inl h
  · exact .inr ⟨g, o, h1, h3⟩
theorem SRow.low {w : World} {x : Option Addr} {l : List (Int × Int)} (h : SRow w x l) {B : Nat} (hB : w.heap.size ≤ B) : SLow w B x l := by
  rcases h with h | ⟨g, o, h1, h2⟩
  · exact .inl h
  · exact .inr ⟨g, o, h1, Nat.lt_of_lt_of_le h2.1 hB, h2⟩

set_option maxHeartbeats 8000000 in
set_option maxRecDepth 100000 in
theorem rPutRow (B : Nat) (v0 : Value) (xs : List Int) (hxs : xs.length ≤ 100000) (x : Option Addr) (c : Nat) (l : List (Int × Int)) (hg : GoodL 0 l) (hl : l.length ≤ 32) (w : World) (hB : B ≤ w.heap.size) (hS : SLow w B x l) (hown : w.ownsRow B 5 1 v0 xs.length (xs.map (.int .u8))) :
    Calls Try.prog 55 #[v0, .slice x l.length c] w fun e w' => ∃ v, e = .returned v ∧ Below B w w' ∧ w'.ownsRow B 5 1 v (xs ++ putRowL l).length ((xs ++ putRowL l).map (.int .u8)) := by
  obtain ⟨i, hi', hz, hs, hbb⟩ := info_parts (P := Try.prog) (e := 5) (z := .int .u8 0) (size := 1) (bytes := 1) (by kernel_rfl)
  have HS := Lib.hid hS
  have HG := Lib.hid hg
  have OWN := Lib.hid hown
  obtain ⟨n, hn⟩ : ∃ n, l.length = n := ⟨_, rfl⟩
  have HN := Lib.hid hn
  rw [hn] at hl ⊢
  clear hS hg hn hown
  have hnI : (n : Int) ≤ 32 := by omega
  have hn0 : (0 : Int) ≤ (n : Int) := by omega
  have hcv : IntKind.u8.wrap (n : Int) = (n : Int) := by rw [IntKind.wrap_u8]; omega
  go_enter Try.func55, Try.ntmps55
  go_wp2_with (at_builtin; refine wpList_append_own _ rfl (.tmp 7) (.tmp 11) 23 rfl B 5 i (.int .u8 0) 1 1 Try.underlying23 hi' hz hs hbb rfl (by decide) _ xs.length _ rfl (OWN.out.alloc _) ⟨w.heap.size, 0, none⟩ 1 1 [.int .u8 (n : Int)] rfl rfl (news1 _ _ _) (one1 _) (by simp [maxLen]; omega) (by omega) (by simp; omega) ?_; intro v1 w1 own1 hgrow1 hnil1)
  have b01 : Below B w w1 := below_grownR ((Below.refl _ _).alloc hB _) hgrow1 (by simp; omega) (fun k hk => (OWN.out.lt k hk).1)
  rw [show [Value.int .u8 (n : Int)] = [(n : Int)].map (Value.int .u8) from rfl, ← List.map_append] at own1
  have OWN1 := Lib.hid own1
  clear own1 hgrow1 hnil1 OWN
  go_loopw [0, 5, 6] (fun bv lv iv wr => ∃ (k : Nat) (low : Int) (ls l' : List (Int × Int)) (bs : List Int), iv = .int .i64 (k : Int) ∧ lv = .int .u64 low ∧ k ≤ n ∧ ls.length = k ∧ ls ++ l' = l ∧ GoodL low l' ∧ (0 ≤ low ∧ low ≤ 4611686018427387905) ∧ bs.length ≤ 100001 + 16 * k ∧ bs ++ rowL low l' = xs ++ putRowL l ∧ wr.ownsRow B 5 1 bv bs.length (bs.map (.int .u8)) ∧ Below B w wr) (fun _ _ iv _ => (n - intOf iv).toNat)
  case atStart => exact ⟨0, 0, [], l, xs ++ [(n : Int)], rfl, rfl, by omega, rfl, rfl, HG.out, by omega, by simp; omega, by rw [putRowL, HN.out]; simp, by rw [List.length_append]; exact OWN1.out, b01⟩
  case round =>
    obtain ⟨k, low, ls, l', bs, rfl, rfl, hk, hlk, hll, hgood, hlow, hbl, hrest, own, bel⟩ := hrel
    have hk0 : (0 : Int) ≤ (k : Int) := by omega
    have HLK := Lib.hid hlk
    have HLL := Lib.hid hll
    have HRE := Lib.hid hrest
    have OWN := Lib.hid own
    have sb := bel.size
    clear hlk hll hrest own b01 OWN1
    by_cases hlt : k < n
    · have hlt' : (k : Int) < (n : Int) := by omega
      rcases l' with _ | ⟨⟨lo, hi⟩, l2⟩
      · have e1 := congrArg List.length HLL.out
        rw [List.append_nil, HLK.out, HN.out] at e1
        omega
      obtain ⟨g1, g2, g3, g4⟩ := hgood
      have HG4 := Lib.hid g4
      obtain ⟨ga, oa, hxa, hga, c0, c1⟩ : ∃ g o, x = some ⟨g, o, none⟩ ∧ g < B ∧ wr.cell? ⟨g, o + k * 2, none⟩ = some (.int .u64 lo) ∧ wr.cell? ⟨g, o + k * 2 + 1, none⟩ = some (.int .u64 hi) := by
        rcases HS.out.below bel with h | ⟨g, o, h1, h2, h3, h4⟩
        · have e1 := congrArg List.length h
          rw [HN.out] at e1
          simp at e1
          omega
        · obtain ⟨p, q⟩ := h4 k (by rw [HN.out]; exact hlt)
          rw [← HLL.out, getD_mid ls l2 (lo, hi) k HLK.out] at p q
          exact ⟨g, o, h1, h2, p, q⟩
      rw [hxa]
      clear hxa g4
      have pm : 0 ≤ lo - low ∧ lo - low ≤ 4611686018427387903 := by omega
      have ph : 0 ≤ hi - lo ∧ hi - lo ≤ 4611686018427387903 := by omega
      have K1 := putA_len1 (lo - low)
      have K2 := putA_len1 (hi - lo)
      have s0 : IntKind.u64.wrap (lo - low) = lo - low := by rw [IntKind.wrap_u64]; omega
      have s1 : IntKind.u64.wrap (hi - lo) = hi - lo := by rw [IntKind.wrap_u64]; omega
      have s2 : IntKind.u64.wrap (hi + 2) = hi + 2 := by rw [IntKind.wrap_u64]; omega
      go_wp2_with fail
      refine (rPutOn (lo - low) pm B bs.length u0 bs _ (Nat.le_trans hB sb) (by omega) OWN.out).mono ?_; rintro e' w3 ⟨v3, rfl, b23, own3⟩
      have b3 := bel.trans (b23.mono (Nat.le_refl _))
      have s3 := b23.size
      have f0 : w3.cell? ⟨ga, oa + k * 2, none⟩ = some (.int .u64 lo) := by rw [b23.cell hga]; exact c0
      have f1 : w3.cell? ⟨ga, oa + k * 2 + 1, none⟩ = some (.int .u64 hi) := by rw [b23.cell hga]; exact c1
      clear c0 c1 b23 OWN
      go_wp2_with fail
      refine wp_region_still_tail 12 (by kernel_rfl) (by kernel_rfl) ?_
      simp only [List.take_succ_cons, List.take_zero, List.drop_succ_cons, List.drop_zero]
      repeat still_step
      refine wpStill_nil ?_
      go_wp2_with fail
      refine (rPutOn (hi - lo) ph B (bs.length + (putA (lo - low)).length) v3 (bs ++ putA (lo - low)) w3.drew (by show B ≤ w3.heap.size; omega) (by omega) (own_below own3 (belDrew w3))).mono ?_; rintro e' w5 ⟨v5, rfl, b45, own5⟩
      have b5 := b3.trans (((belDrew w3).mono (by omega)).trans b45)
      have y1 : w5.cell? ⟨ga, oa + k * 2 + 1, none⟩ = some (.int .u64 hi) := by rw [b45.cell hga]; exact f1
      clear b45 own3 f0 f1 b3
      go_wp2_with fail
      go_roundw
      case rel =>
        have hr := HRE.out
        rw [rowL] at hr
        refine ⟨k + 1, hi + 2, ls ++ [(lo, hi)], l2, bs ++ putA (lo - low) ++ putA (hi - lo), by congr 1, rfl, by omega, by rw [List.length_append, HLK.out]; rfl, by rw [List.append_assoc]; exact HLL.out, HG4.out, by omega, by simp only [List.length_append]; omega, by rw [← hr]; simp only [List.append_assoc], ?_, b5⟩
        simp only [List.length_append]
        exact own5
      case measure => simp only [intOf]; omega
    · have hkn : k = n := by omega
      subst hkn
      have hd : decide ((k : Int) < (k : Int)) = false := by simp
      have hnil : l' = [] := by
        have e1 := congrArg List.length HLL.out
        rw [List.length_append, HLK.out, HN.out] at e1
        exact List.eq_nil_of_length_eq_zero (by omega)
      subst hnil
      have hr := HRE.out
      rw [rowL, List.append_nil] at hr
      have own := OWN.out
      rw [hr] at own
      go_wp2_with fail
      go_ret
      exact ⟨u0, rfl, bel, own⟩

end Go.Proofs.Ytofggpmllfhgaaa
