/- package ack: Challenge and Number; the reference's GetNumber. -/
import Derived.Test.YtofggpmllfhgaaaHead
import Derived.Test.YtofggpmllfhgaaaRefAdd
import Derived.Test.YtofggpmllfhgaaaHeld
import Derived.Laws.OwnMore
namespace Go.Proofs.Ytofggpmllfhgaaa
open Go.RowKit Go.Lib
set_option linter.unusedVariables false
set_option maxRecDepth 100000

theorem ownBase {w : World} {B B' n s : Nat} {e : TypeId} {v : Value} {xs : List Value} (h : w.ownsRow B e s v n xs) (hB : B' ≤ B) : w.ownsRow B' e s v n xs := by
  obtain ⟨h1, h2 | ⟨g, c, cur, h3, h4, h5⟩⟩ := h
  · exact ⟨h1, .inl h2⟩
  · exact ⟨h1, .inr ⟨g, c, cur, h3, Nat.le_trans hB h4, h5⟩⟩

theorem oPutNo (n : Int) (h : 4611686018427387903 < n) (w : World) :
    Calls Try.prog 40 #[.int .u64 n] w fun e w' => e = .returned (.tuple #[.slice none 0 0, .bool false]) ∧ w = w' := by
  have hs : sizeI n = 0 := by
    unfold sizeI
    rw [if_neg (by omega), if_neg (by omega), if_neg (by omega), if_neg (by omega)]
  go_enter Try.func40, Try.ntmps40
  go_wp2_with fail
  refine (oSize n _).mono ?_; rintro e' w' ⟨rfl, rfl⟩
  rw [hs]
  go_wp2_with fail
  exact bodyPost_ret (v := .tuple #[.slice none 0 0, .bool false]) (by simp [results, Try.results40, go_sem]) rfl ⟨rfl, rfl⟩

set_option maxHeartbeats 1000000 in
theorem aChalNo (n : Int) (h : 4611686018427387903 < n) (w : World) :
    Calls Try.prog 36 #[.int .u64 n] w fun e w' => e = .returned (.tuple #[.slice none 0 0, .bool false]) ∧ w = w' := by
  go_enter Try.func36, Try.ntmps36
  go_wp2_with fail
  refine (oPutNo n h _).mono ?_; rintro e' w' ⟨rfl, rfl⟩
  go_wp2_with fail
  exact bodyPost_ret (v := .tuple #[.slice none 0 0, .bool false]) (by simp [results, Try.results36, go_sem]) rfl ⟨rfl, rfl⟩

set_option maxHeartbeats 2000000 in
theorem aChal (n : Int) (h : 0 ≤ n ∧ n ≤ 4611686018427387903) (w : World) :
    Calls Try.prog 36 #[.int .u64 n] w fun e w' => ∃ v, e = .returned (.tuple #[v, .bool true]) ∧ Below w.heap.size w w' ∧ w'.ownsRow w.heap.size 5 1 v (1 + (putA n).length) ((3 :: putA n).map (.int .u8)) := by
  obtain ⟨i, hi, hz, hs, hbb⟩ := info_parts (P := Try.prog) (e := 5) (z := .int .u8 0) (size := 1) (bytes := 1) (by kernel_rfl)
  have HN := Lib.hid h
  have K := putA_len1 n
  clear h
  go_enter Try.func36, Try.ntmps36
  go_wp2_with fail
  refine (oPut n HN.out _).mono ?_; rintro e' w1 ⟨rfl, ⟨cs, hcs⟩, B1⟩
  have b01 : Below w.heap.size w w1 := by rw [hcs]; exact (Below.refl _ _).alloc (Nat.le_refl _) _
  have s1 := b01.size
  clear hcs
  have B2 : BytesAt (w1.alloc (.cells #[.int .u8 3] 5)) w.heap.size 0 (putA n) := B1.below ((Below.refl _ _).alloc (Nat.le_refl _) _)
  have own2 : (w1.alloc (.cells #[.int .u8 3] 5)).ownsRow w.heap.size 5 1 (.slice (some ⟨w1.heap.size, 0, none⟩) 1 1) 1 ([3].map (.int .u8)) := World.ownsRow_lit w1 #[.int .u8 3] 1 s1 (by simp [maxLen]) rfl
  go_wp2_with (at_builtin; refine wpList_append_own _ rfl (.tmp 13) (.tmp 14) 23 rfl w.heap.size 5 i (.int .u8 0) 1 1 Try.underlying23 hi hz hs hbb rfl (by decide) _ 1 _ rfl own2 ⟨w.heap.size, 0, none⟩ (putA n).length (putA n).length ((putA n).map (.int .u8)) rfl (by simp) B2.news (oneCell_bytes _) (by simp [maxLen]; omega) (by omega) (by simp; omega) ?_; intro v3 w3 own3 hgrow3 hnil3; rw [← List.map_append] at own3)
  have b3 : Below w.heap.size w w3 := below_grownR (b01.alloc s1 _) hgrow3 (by simp; omega) (fun k hk => (own2.lt k hk).1)
  refine bodyPost_ret (v := .tuple #[v3, .bool true]) (by simp [results, Try.results36, go_sem]) rfl ⟨v3, rfl, b3, own3⟩

/-- the number of which bytes are the challenge -/
def getN : List Int → Int × Int
  | [] => (0, 2)
  | k :: zs => if k = 3 then (if (numF zs).2.2 = 0 then (if (zs.drop (numF zs).2.1).length = 0 then ((numF zs).1, 0) else (0, 3)) else (0, (numF zs).2.2)) else (0, 4)

theorem getN_put (n : Int) (h : 0 ≤ n ∧ n ≤ 4611686018427387903) : getN (3 :: putA n) = (n, 0) := by
  have := numF_put n h []
  rw [List.append_nil] at this
  rw [getN, if_pos rfl, this, if_pos rfl, List.drop_length]
  rfl

set_option maxHeartbeats 2000000 in
theorem aNumber' (bv : Value) (bs : List Int) (hb : ∀ x ∈ bs, 0 ≤ x ∧ x ≤ 255) (hlen : bs.length ≤ 140737488351232) (w : World) (hB : BodyAt w bv bs) (N E : Int) (hG : getN bs = (N, E)) :
    Calls Try.prog 37 #[bv] w fun e w' => e = .returned (.tuple #[.int .u64 N, .int .i64 E]) ∧ Below w.heap.size w w' := by
  have HB := Lib.hid hB
  go_enter Try.func37, Try.ntmps37
  go_wp2_with fail
  refine (oNewAny bv bs hlen _ HB.out).mono ?_; rintro e' w1 ⟨p, rfl, hp, hp1, b01, R1⟩
  clear hB HB
  go_wp2_with fail
  rcases bs with _ | ⟨k, zs⟩
  · rw [getN, Prod.mk.injEq] at hG
    obtain ⟨rfl, rfl⟩ := hG
    refine (takeShort [] 1 (by simp) _ p R1).mono ?_; rintro e' w' ⟨rfl, rfl⟩
    go_wp2_with fail
    exact bodyPost_ret (v := .tuple #[.int .u64 0, .int .i64 2]) (by simp [results, Try.results37, go_sem]) rfl ⟨rfl, b01⟩
  have hk := hb k (by simp)
  have hz : ∀ x ∈ zs, 0 ≤ x ∧ x ≤ 255 := fun x hx => hb x (by simp [hx])
  simp only [List.length_cons] at hlen
  refine (takeHere (k :: zs) 1 (by omega) (by simp) (by simp only [List.length_cons]; omega) _ p R1).mono ?_; rintro e' w2 ⟨q, qc, rfl, BQ, b12, R2, _, _⟩
  have R2 : RdAt w2 p zs := R2
  have b02 := b01.trans (b12.mono (by omega))
  have ck : w2.cell? ⟨q, 0, none⟩ = some (.int .u8 k) := by simpa using BQ.at 0 k rfl
  have HZ := Lib.hid hz
  clear BQ b12 R1 b01 hz hb
  by_cases hk1 : k = 3
  case neg =>
    have hd : (k != 3) = true := by rw [bne_iff_ne]; exact hk1
    rw [getN, if_neg hk1, Prod.mk.injEq] at hG
    obtain ⟨rfl, rfl⟩ := hG
    go_wp2_with fail
    exact bodyPost_ret (v := .tuple #[.int .u64 0, .int .i64 4]) (by simp [results, Try.results37, go_sem]) rfl ⟨rfl, b02⟩
  subst hk1
  obtain ⟨hH, hK⟩ := numHere zs HZ.out (by omega)
  go_wp2_with fail
  refine (hH _ p R2).mono ?_; rintro e' w3 ⟨rfl, b23, R3, _⟩
  have b03 := b02.trans (b23.mono (by omega))
  rw [getN, if_pos rfl] at hG
  clear hH b23 R2 ck b02
  by_cases he : (numF zs).2.2 = 0
  case neg =>
    have hd : ((numF zs).2.2 != 0) = true := by rw [bne_iff_ne]; exact he
    rw [if_neg he, Prod.mk.injEq] at hG
    obtain ⟨rfl, hE⟩ := hG
    generalize (numF zs).2.2 = er at *
    generalize (numF zs).1 = nn at *
    subst hE
    go_wp2_with fail
    exact bodyPost_ret (v := .tuple #[.int .u64 0, .int .i64 er]) (by simp [results, Try.results37, go_sem]) rfl ⟨rfl, b03⟩
  rw [if_pos he] at hG
  rw [he]
  generalize (numF zs).1 = nn at *
  obtain ⟨L, hL⟩ : ∃ L, (zs.drop (numF zs).2.1).length = L := ⟨_, rfl⟩
  have hl := leftHere _ _ p R3
  rw [hL] at hl hG
  clear hL R3
  go_wp2_with fail
  refine hl.mono ?_; rintro e' w' ⟨rfl, rfl⟩
  by_cases h0 : L = 0
  · rw [if_pos h0, Prod.mk.injEq] at hG
    obtain ⟨rfl, rfl⟩ := hG
    subst h0
    go_wp2_with fail
    exact bodyPost_ret (v := .tuple #[.int .u64 nn, .int .i64 0]) (by simp [results, Try.results37, go_sem]) rfl ⟨rfl, b03⟩
  · have h1 : (0 : Int) < (L : Int) := by omega
    rw [if_neg h0, Prod.mk.injEq] at hG
    obtain ⟨rfl, rfl⟩ := hG
    go_wp2_with fail
    exact bodyPost_ret (v := .tuple #[.int .u64 0, .int .i64 3]) (by simp [results, Try.results37, go_sem]) rfl ⟨rfl, b03⟩

theorem aNumber (bv : Value) (bs : List Int) (hb : ∀ x ∈ bs, 0 ≤ x ∧ x ≤ 255) (hlen : bs.length ≤ 140737488351232) (w : World) (hB : BodyAt w bv bs) :
    Calls Try.prog 37 #[bv] w fun e w' => e = .returned (.tuple #[.int .u64 (getN bs).1, .int .i64 (getN bs).2]) ∧ Below w.heap.size w w' := aNumber' bv bs hb hlen w hB _ _ rfl

set_option maxHeartbeats 2000000 in
theorem rNumber (bv : Value) (bs : List Int) (hb : ∀ x ∈ bs, 0 ≤ x ∧ x ≤ 255) (hlen : bs.length ≤ 140737488351232) (w : World) (hB : BodyAt w bv bs) :
    Calls Try.prog 38 #[bv] w fun e w' => e = .returned (.tuple #[.int .u64 (getN bs).1, .int .i64 (getN bs).2]) ∧ w = w' := by
  rcases hB with ⟨x, c0, rfl, h0, rfl⟩ | ⟨g, o, cap, rfl, h1, h2, h3, B0⟩
  · go_enter Try.func38, Try.ntmps38
    go_wp2_with fail
    exact bodyPost_ret (v := .tuple #[.int .u64 0, .int .i64 2]) (by simp [results, Try.results38, go_sem]) rfl ⟨rfl, rfl⟩
  rcases bs with _ | ⟨k, zs⟩
  · simp at h1
  have ck : w.cell? ⟨g, o, none⟩ = some (.int .u8 k) := by simpa using B0.at 0 k rfl
  obtain ⟨hT, hK⟩ := numThere (k :: zs) 1 hb (by simp) (by omega)
  have HT := hT w g o cap B0
  rw [List.drop_succ_cons, List.drop_zero] at HT hK
  obtain ⟨len, hln⟩ : ∃ n, n = (k :: zs).length := ⟨_, rfl⟩
  rw [← hln] at h1 h2 hlen HT hK ⊢
  have hl0 : len ≠ 0 := by omega
  have hzl : zs.length = len - 1 := by rw [hln]; simp
  have HB := Lib.hid B0
  clear hT B0 hln hb
  by_cases hk1 : k = 3
  case neg =>
    have hd : (k != 3) = true := by rw [bne_iff_ne]; exact hk1
    rw [getN, if_neg hk1]
    go_enter Try.func38, Try.ntmps38
    go_wp2_with fail
    exact bodyPost_ret (v := .tuple #[.int .u64 0, .int .i64 4]) (by simp [results, Try.results38, go_sem]) rfl ⟨rfl, rfl⟩
  subst hk1
  rw [getN, if_pos rfl]
  have hdl : (zs.drop (numF zs).2.1).length = len - 1 - (numF zs).2.1 := by rw [List.length_drop, hzl]
  rw [hdl]
  clear hdl hzl
  by_cases he : (numF zs).2.2 = 0
  case neg =>
    have hd : ((numF zs).2.2 != 0) = true := by rw [bne_iff_ne]; exact he
    rw [if_neg he]
    generalize (numF zs).2.2 = er at *
    generalize (numF zs).1 = nn at *
    generalize (numF zs).2.1 = KK at *
    go_enter Try.func38, Try.ntmps38
    go_wp2_with fail
    refine HT.mono ?_; rintro e' w' ⟨rfl, rfl⟩
    go_wp2_with fail
    exact bodyPost_ret (v := .tuple #[.int .u64 0, .int .i64 er]) (by simp [results, Try.results38, go_sem]) rfl ⟨rfl, rfl⟩
  rw [if_pos he]
  rw [he] at HT
  generalize (numF zs).1 = nn at *
  generalize (numF zs).2.1 = KK at *
  by_cases hE : 1 + KK < len
  · have hE2 : (1 : Int) + (KK : Int) < (len : Int) := by omega
    rw [if_neg (by omega)]
    go_enter Try.func38, Try.ntmps38
    go_wp2_with fail
    refine HT.mono ?_; rintro e' w' ⟨rfl, rfl⟩
    go_wp2_with fail
    exact bodyPost_ret (v := .tuple #[.int .u64 0, .int .i64 3]) (by simp [results, Try.results38, go_sem]) rfl ⟨rfl, rfl⟩
  · have hE2 : ¬ (1 : Int) + (KK : Int) < (len : Int) := by omega
    rw [if_pos (by omega)]
    go_enter Try.func38, Try.ntmps38
    go_wp2_with fail
    refine HT.mono ?_; rintro e' w' ⟨rfl, rfl⟩
    go_wp2_with fail
    exact bodyPost_ret (v := .tuple #[.int .u64 nn, .int .i64 0]) (by simp [results, Try.results38, go_sem]) rfl ⟨rfl, rfl⟩

end Go.Proofs.Ytofggpmllfhgaaa
