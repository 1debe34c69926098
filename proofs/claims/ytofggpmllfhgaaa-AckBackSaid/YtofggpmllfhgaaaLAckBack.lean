/- For all rows l and m of 16-bit numbers, words trigger and xor, both values of odd, 16-bit cut and bytes more, AckBack returns true: an acknowledgment is read as it was written, a beginning of it is none, and what has more behind it neither. No condition. -/
import Derived.Test.YtofggpmllfhgaaaBase
import Derived.Test.YtofggpmllfhgaaaAliveAck
import Derived.Test.YtofggpmllfhgaaaAckEnc
import Derived.Test.YtofggpmllfhgaaaLawAck
namespace Go.Proofs.Ytofggpmllfhgaaa.ackBack
open Go.ChangeShapes Go.WideShapes Go.ChangeAt Go.RowKit Go.Lib
set_option linter.unusedVariables false
set_option maxRecDepth 100000

theorem rowL_byte : ∀ (l : List (Int × Int)) (low : Int), 0 ≤ low → GoodL low l → ∀ z ∈ rowL low l, 0 ≤ z ∧ z ≤ 255
  | [], _, _, _ => fun z hz => absurd hz (by simp [rowL])
  | (lo, hi) :: l, low, h0, ⟨g1, g2, g3, g4⟩ => fun z hz => by
    rw [rowL] at hz
    simp only [List.mem_append] at hz
    rcases hz with hz | hz | hz
    · exact putA_byte _ (by omega) z hz
    · exact putA_byte _ (by omega) z hz
    · exact rowL_byte l (hi + 2) (by omega) g4 z hz
theorem eightL_byte (x : Int) (hx : W64 x) : ∀ z ∈ eightL x, 0 ≤ z ∧ z ≤ 255 := by
  intro z hz
  unfold W64 at hx
  simp only [eightL, List.mem_cons, List.not_mem_nil, or_false] at hz
  rcases hz with rfl | rfl | rfl | rfl | rfl | rfl | rfl | rfl <;> omega
theorem putAck_byte (d : AckD) (h : MayA d) : ∀ z ∈ putAckL d, 0 ≤ z ∧ z ≤ 255 := by
  intro z hz
  have h1 := h.sl
  have h2 := h.ml
  simp only [putAckL, putRowL, List.mem_cons, List.mem_append, List.not_mem_nil, or_false] at hz
  rcases hz with rfl | (rfl | hz) | (rfl | hz) | hz | hz | rfl
  · omega
  · omega
  · exact rowL_byte _ 0 (Int.le_refl _) h.s z hz
  · omega
  · exact rowL_byte _ 0 (Int.le_refl _) h.m z hz
  · exact eightL_byte _ h.t z hz
  · exact eightL_byte _ h.x z hz
  · unfold parL; split <;> omega
theorem putAck_len (d : AckD) (h : MayA d) : 0 < (putAckL d).length ∧ (putAckL d).length ≤ 1100 := by
  have h1 := h.sl
  have h2 := h.ml
  have k1 := putRowL_len d.spans
  have k2 := putRowL_len d.marked
  simp only [putAckL, List.length_cons, List.length_append, eightL_len, List.length_nil]
  omega

set_option maxHeartbeats 8000000 in
theorem walkAny (a0 : Option Addr) (len0 cap0 : Nat) (z0 : Nat → Int) (a1 : Option Addr) (len1 cap1 : Nat) (z1 : Nat → Int) (a2 a3 : Int) (a4 : Bool) (a5 a6 : Int) (w : World) (l0 : len0 ≤ 9223372036854775807) (l1 : len1 ≤ 9223372036854775807) (w0 : U16Row w a0 len0 z0) (w1 : U16Row w a1 len1 z1) (w2 : W64 a2) (w3 : W64 a3) (w5 : 0 ≤ a5 ∧ a5 ≤ 65535) (w6 : 0 ≤ a6 ∧ a6 ≤ 255) :
    Calls Try.prog 11 #[.slice a0 len0 cap0, .slice a1 len1 cap1, .int .u64 a2, .int .u64 a3, .bool a4, .int .u16 a5, .int .u8 a6] w fun e w' => e = .returned (.bool true) ∧ Below w.heap.size w w' := by
  obtain ⟨i, hi, hz, hs, hbb⟩ := info_parts (P := Try.prog) (e := 5) (z := .int .u8 0) (size := 1) (bytes := 1) (by kernel_rfl)
  have W6 := Lib.hid w6
  have hw50 := w5.1
  have hl0 : (len0 : Int) ≤ 9223372036854775807 := by omega
  have hl1 : (len1 : Int) ≤ 9223372036854775807 := by omega
  have CK : ∀ W, U16Row W a0 len0 z0 → U16Row W a1 len1 z1 → _ := fun W A B => gAck a0 a1 len0 cap0 len1 cap1 z0 z1 l0 l1 a2 a3 a4 w2 w3 W A B
  have HCK := Lib.hid CK
  clear CK w2 w3 w6
  go_enter Try.func11, Try.ntmps11
  go_wp2_with fail
  refine (HCK.out _ w0 w1).mono ?_; rintro e' w1 ⟨d, v, u, ok, rfl, b01, hmay, hls, hlm, V1, U1⟩
  obtain ⟨x, c, rfl, S1⟩ := V1.form
  obtain ⟨y, e, rfl, M1⟩ := U1.form
  obtain ⟨s, m, t, r, p⟩ := d
  simp only at hls hlm S1 M1
  unfold ackV
  simp only
  have HM := Lib.hid hmay
  clear hmay V1 U1
  cases ok
  · go_wp2_with fail
    obtain ⟨w2, hw2⟩ : ∃ w2, w2 = w1.alloc (.cells #[.slice x s.length c, .slice y m.length e, .int .u64 t, .int .u64 r, .bool p] 52 (0, 0)) := ⟨_, rfl⟩
    have b12 : Below w1.heap.size w1 w2 := by rw [hw2]; exact (Below.refl _ _).alloc (Nat.le_refl _) _
    have b02 := b01.trans (b12.mono b01.size)
    rw [← hw2]
    clear hw2 b12 b01
    refine (aliveAck _).mono ?_; rintro e' wA ⟨rfl, bA⟩
    go_wp2_with fail
    refine (aliveAck _).mono ?_; rintro e' wB ⟨rfl, bB⟩
    go_wp2_with fail
    go_ret
    exact ⟨rfl, b02.trans ((bA.mono b02.size).trans (bB.mono (by have := b02.size; have := bA.size; omega)))⟩
  have hd := HM.out rfl
  clear HM
  have HD := Lib.hid hd
  clear hd
  go_wp2_with fail
  obtain ⟨w2, hw2⟩ : ∃ w2, w2 = w1.alloc (.cells #[.slice x s.length c, .slice y m.length e, .int .u64 t, .int .u64 r, .bool p] 52 (0, 0)) := ⟨_, rfl⟩
  have b12 : Below w1.heap.size w1 w2 := by rw [hw2]; exact (Below.refl _ _).alloc (Nat.le_refl _) _
  have D2 : AckAt w2 w1.heap.size (.slice x s.length c) (.slice y m.length e) (.int .u64 t) (.int .u64 r) (.bool p) := by rw [hw2]; exact AckAt.alloc w1 _ _ _ _ _
  have b02 := b01.trans (b12.mono b01.size)
  have S2 := S1.below b12
  have M2 := M1.below b12
  clear S1 M1
  rw [← hw2]
  obtain ⟨Q, hQ⟩ : ∃ Q, Q = w1.heap.size := ⟨_, rfl⟩
  rw [← hQ] at D2
  rw [← hQ]
  have hQw : w.heap.size ≤ Q := by rw [hQ]; exact b01.size
  clear hw2 b12 b01 hQ
  by_cases g0 : 200 < len0
  · have g0' : (200 : Int) < (len0 : Int) := by omega
    refine (aliveAck _).mono ?_; rintro e' wA ⟨rfl, bA⟩
    go_wp2_with fail
    refine (aliveAck _).mono ?_; rintro e' wB ⟨rfl, bB⟩
    go_wp2_with fail
    go_ret
    exact ⟨rfl, b02.trans ((bA.mono b02.size).trans (bB.mono (by have := b02.size; have := bA.size; omega)))⟩
  have g0' : ¬ (200 : Int) < (len0 : Int) := by omega
  by_cases g1 : 200 < len1
  · have g1' : (200 : Int) < (len1 : Int) := by omega
    refine (aliveAck _).mono ?_; rintro e' wA ⟨rfl, bA⟩
    go_wp2_with fail
    refine (aliveAck _).mono ?_; rintro e' wB ⟨rfl, bB⟩
    go_wp2_with fail
    go_ret
    exact ⟨rfl, b02.trans ((bA.mono b02.size).trans (bB.mono (by have := b02.size; have := bA.size; omega)))⟩
  have g1' : ¬ (200 : Int) < (len1 : Int) := by omega
  refine (aliveAck _).mono ?_; rintro e' w3 ⟨rfl, b23⟩
  have b03 := b02.trans (b23.mono b02.size)
  have S3 := S2.below b23
  have M3 := M2.below b23
  have D3 := D2.belowB D2.lt b23
  clear S2 M2 D2 b23 b02
  obtain ⟨d0, d1, d2, d3, d4⟩ := D3.cells.1
  go_wp2_with fail
  clear d0 d1 d2 d3 d4
  refine (aEncode x y c e s m t r p HD.out _ S3 M3).mono ?_; rintro e' w4 ⟨v4, rfl, b34, own4⟩
  have hpl := putAck_len _ HD.out
  obtain ⟨g, cc, rfl, hg, hc, hm, E4⟩ := ownBytes own4 hpl.1
  have b04 := b03.trans (b34.mono b03.size)
  have S4 := S3.below b34
  have M4 := M3.below b34
  have D4 := D3.belowB D3.lt b34
  clear own4 S3 M3 D3 b34 b03
  obtain ⟨bs, hbs⟩ : ∃ l, l = putAckL ⟨s, m, t, r, p⟩ := ⟨_, rfl⟩
  rw [← hbs] at E4 hc hpl ⊢
  have hbyt : ∀ z ∈ bs, 0 ≤ z ∧ z ≤ 255 := by rw [hbs]; exact putAck_byte _ HD.out
  have hN1 : bs.length ≤ 1100 := hpl.2
  have hN2 : 0 < bs.length := hpl.1
  have G0 : getA bs = (0, ⟨s, m, t, r, p⟩) := by rw [hbs]; exact getA_put _ HD.out
  have G2 : ∀ J, J < bs.length → getA (bs.take J) = (2, zeroA) := by rw [hbs]; exact getA_cut _ HD.out
  have G3 : getA (bs ++ [a6]) = (3, zeroA) := by rw [hbs]; exact getA_more _ HD.out a6
  have HG0 := Lib.hid G0
  have HG2 := Lib.hid G2
  have HG3 := Lib.hid G3
  have HYT := Lib.hid hbyt
  clear hbs G0 G2 G3 hbyt hpl
  obtain ⟨N, hN⟩ : ∃ N, bs.length = N := ⟨_, rfl⟩
  have HN := Lib.hid hN
  rw [hN] at hN1 hN2 hc ⊢
  have hN3 : ((N : Int) == 0) = false := by rw [beq_eq_false_iff_ne]; omega
  have hN4 : (0 : Int) < (N : Int) := by omega
  clear hN
  go_wp2_with fail
  have Y4 : BodyAt w4 (.slice (some ⟨g, 0, none⟩) N cc) bs := .inr ⟨g, 0, cc, by rw [HN.out], by have := HN.out; omega, by have := HN.out; omega, hm, E4⟩
  refine (aDecode _ bs HYT.out (by have := HN.out; omega) _ Y4 0 _ HG0.out).mono ?_; rintro e' w5 ⟨v5, u5, rfl, b45, V5, U5⟩
  simp only at V5 U5
  obtain ⟨x5, c5, rfl, S5⟩ := V5
  obtain ⟨y5, e5, rfl, M5⟩ := U5
  have b05 := b04.trans (b45.mono b04.size)
  have So5 := S4.below b45
  have Mo5 := M4.below b45
  have D5 := D4.belowB D4.lt b45
  have E5 := E4.below b45
  clear Y4 S4 M4 D4 E4 b45 b04
  unfold ackV
  simp only
  obtain ⟨J, hJ⟩ : ∃ J : Nat, a5.tmod (N : Int) = (J : Int) := ⟨(a5 % (N : Int)).toNat, by have := Int.emod_nonneg a5 (show (N : Int) ≠ 0 by omega); rw [Int.tmod_eq_emod_of_nonneg hw50]; omega⟩
  have hJN : J < N := by
    rw [Int.tmod_eq_emod_of_nonneg hw50] at hJ
    have := Int.emod_lt_of_pos a5 (show (0 : Int) < (N : Int) by omega)
    omega
  have j1 : (J : Int) ≤ (N : Int) := by omega
  have j2 : (0 : Int) ≤ (J : Int) := by omega
  have j3 : (N : Int) ≤ (cc : Int) := by omega
  have j4 : (J : Int) ≤ (cc : Int) := by omega
  have j5 : (N : Int) ≠ 0 := by omega
  go_wp2_with fail
  obtain ⟨w6, hw6⟩ : ∃ w6, w6 = w5.alloc (.cells #[.slice x5 s.length c5, .slice y5 m.length e5, .int .u64 t, .int .u64 r, .bool p] 52 (0, 0)) := ⟨_, rfl⟩
  have b56 : Below w5.heap.size w5 w6 := by rw [hw6]; exact (Below.refl _ _).alloc (Nat.le_refl _) _
  have X6 : AckAt w6 w5.heap.size (.slice x5 s.length c5) (.slice y5 m.length e5) (.int .u64 t) (.int .u64 r) (.bool p) := by rw [hw6]; exact AckAt.alloc w5 _ _ _ _ _
  have b06 := b05.trans (b56.mono b05.size)
  have So6 := So5.below b56
  have Mo6 := Mo5.below b56
  have S6 := S5.below b56
  have M6 := M5.below b56
  have D6 := D5.belowB D5.lt b56
  have E6 := E5.below b56
  rw [← hw6]
  obtain ⟨Q5, hQ5⟩ : ∃ Q, Q = w5.heap.size := ⟨_, rfl⟩
  rw [← hQ5] at X6
  rw [← hQ5]
  clear hw6 b56 b05 So5 Mo5 S5 M5 D5 E5 hQ5
  have EJ : BytesAt w6 g 0 (bs.take J) := E6.take' J
  have hlJ : (bs.take J).length = J := by rw [List.length_take]; have := HN.out; omega
  have Y6 : BodyAt w6 (.slice (some ⟨g, 0, none⟩) J cc) (bs.take J) := by
    by_cases h0 : J = 0
    · subst h0
      exact .inl ⟨_, cc, rfl, (fun e => by cases e), rfl⟩
    · exact .inr ⟨g, 0, cc, by rw [hlJ], by omega, by omega, hm, EJ⟩
  refine (aDecode _ (bs.take J) (fun z hz => HYT.out z (List.mem_of_mem_take hz)) (by omega) _ Y6 2 zeroA (HG2.out J (by rw [HN.out]; exact hJN))).mono ?_; rintro e' w7 ⟨v7, u7, rfl, b67, V7, U7⟩
  obtain ⟨x7, c7, rfl, _⟩ := V7
  obtain ⟨y7, e7, rfl, _⟩ := U7
  have b07 := b06.trans (b67.mono b06.size)
  have So7 := So6.below b67
  have Mo7 := Mo6.below b67
  have S7 := S6.below b67
  have M7 := M6.below b67
  have D7 := D6.belowB D6.lt b67
  have E7 := E6.below b67
  have X7 := X6.belowB X6.lt b67
  clear Y6 EJ So6 Mo6 S6 M6 D6 E6 X6 b67 b06
  unfold ackV zeroA
  simp only [List.length_nil]
  obtain ⟨w8, hw8⟩ : ∃ w8, w8 = w7.alloc (.cells #[.slice x7 0 c7, .slice y7 0 e7, .int .u64 0, .int .u64 0, .bool false] 52 (0, 0)) := ⟨_, rfl⟩
  have b78 : Below w7.heap.size w7 w8 := by rw [hw8]; exact (Below.refl _ _).alloc (Nat.le_refl _) _
  have E8 := E7.below b78
  have hlE : ((bs).map (Value.int .u8)).length = N * 1 := by rw [List.length_map, HN.out]; omega
  rw [hw8] at E8 b78
  go_wp2_with (first
    | (at_builtin; refine wpList_append_own _ rfl (.const (.slice none 0 0)) (.tmp 80) 23 rfl w7.heap.size 5 i (.int .u8 0) 1 1 Try.underlying23 hi hz hs hbb rfl (by decide) (.slice none 0 0) 0 [] rfl (World.ownsRow_nil _ _ _ _) ⟨g, 0, none⟩ N cc (bs.map (.int .u8)) rfl hlE E8.news (oneCell_bytes _) (by simp [maxLen]; omega) (by omega) (by simp) ?_; intro v9 w9 own9 hgrow9 hnil9; simp only [Nat.zero_add, List.nil_append] at own9; have b89 : Below w7.heap.size _ w9 := below_grown (Below.refl _ _) hgrow9 (by simp); have s89 := b89.size)
    | (at_builtin; refine wpList_append_own _ rfl (.tmp 81) (.tmp 83) 23 rfl w7.heap.size 5 i (.int .u8 0) 1 1 Try.underlying23 hi hz hs hbb rfl (by decide) _ N _ rfl (own9.alloc _) ⟨w9.heap.size, 0, none⟩ 1 1 [.int .u8 a6] rfl rfl (news1 _ _ _) (one1 _) (by simp [maxLen]; omega) (by omega) (by simp at s89 ⊢; omega) ?_; intro v10 w10 own10 hgrow10 hnil10))
  have b910 : Below w7.heap.size w9 w10 := below_grownR ((Below.refl _ _).alloc (by simp at s89; omega) _) hgrow10 (by simp at s89 ⊢; omega) (fun k hk => (own9.lt k hk).1)
  have b710 : Below w7.heap.size w7 w10 := b78.trans (b89.trans b910)
  rw [show [Value.int .u8 a6] = [a6].map (Value.int .u8) from rfl, ← List.map_append] at own10
  obtain ⟨g10, c10, rfl, hg10, hc10, hm10, E10⟩ := ownBytes own10 (by omega)
  clear own9 own10 hgrow9 hgrow10 hnil9 hnil10 b89 b910 b78 E8 hw8
  have b010 := b07.trans (b710.mono b07.size)
  have So10 := So7.below b710
  have Mo10 := Mo7.below b710
  have S10 := S7.below b710
  have M10 := M7.below b710
  have D10 := D7.belowB D7.lt b710
  have X10 := X7.belowB X7.lt b710
  clear So7 Mo7 S7 M7 D7 X7 E7 b710 b07
  have hl10 : (bs ++ [a6]).length = N + 1 := by rw [List.length_append, HN.out]; rfl
  have hb10 : ∀ z ∈ bs ++ [a6], 0 ≤ z ∧ z ≤ 255 := by
    intro z hz
    rcases List.mem_append.1 hz with h | h
    · exact HYT.out z h
    · rw [List.mem_singleton.1 h]; exact W6.out
  refine (aDecode (.slice (some ⟨g10, 0, none⟩) (N + 1) c10) (bs ++ [a6]) hb10 (by omega) _ (.inr ⟨g10, 0, c10, by rw [hl10], by omega, by omega, hm10, E10⟩) 3 zeroA HG3.out).mono ?_; rintro e' w11 ⟨v11, u11, rfl, b1011, V11, U11⟩
  obtain ⟨x11, c11, rfl, _⟩ := V11
  obtain ⟨y11, e11, rfl, _⟩ := U11
  have b011 := b010.trans (b1011.mono b010.size)
  have So11 := So10.below b1011
  have Mo11 := Mo10.below b1011
  have S11 := S10.below b1011
  have M11 := M10.below b1011
  have D11 := D10.belowB D10.lt b1011
  have X11 := X10.belowB X10.lt b1011
  clear So10 Mo10 S10 M10 D10 X10 E10 b1011 b010
  unfold ackV zeroA
  simp only [List.length_nil]
  obtain ⟨d0, d1, d2, d3, d4⟩ := D11.cells.1
  obtain ⟨k0, k1, k2, k3, k4⟩ := X11.cells.1
  have lD := D11.lt
  have lX := X11.lt
  have s11 := b011.size
  clear D11 X11
  have ba : ∀ z, Below w11.heap.size w11 (w11.alloc (.cells z 52 (0, 0))) := fun z => (Below.refl _ _).alloc (Nat.le_refl _) _
  have CS : ∀ W, Below w11.heap.size w11 W → _ := fun W hb => rSameAck ⟨s, m, t, r, p⟩ (.slice x s.length c) (.slice y m.length e) (.slice x5 s.length c5) (.slice y5 m.length e5) W hls hlm ⟨x, c, rfl, So11.below hb⟩ ⟨y, e, rfl, Mo11.below hb⟩ ⟨x5, c5, rfl, S11.below hb⟩ ⟨y5, e5, rfl, M11.below hb⟩
  have HCS := Lib.hid CS
  have HBA := Lib.hid ba
  clear CS ba So11 Mo11 S11 M11
  go_wp2_with fail
  refine (HCS.out _ (HBA.out _)).mono ?_; rintro e' w12 ⟨rfl, b12⟩
  have b012 := b011.trans (((HBA.out _).mono s11).trans (b12.mono (by simp; omega)))
  go_wp2_with fail
  go_ret
  exact ⟨rfl, b012⟩

theorem walk (a0 : Option Addr) (len0 cap0 : Nat) (z0 : List Int) (a1 : Option Addr) (len1 cap1 : Nat) (z1 : List Int) (a2 a3 : Int) (a4 : Bool) (a5 a6 : Int) (w : World) (w0 : IsRow .u16 w a0 len0 cap0 z0) (w1 : IsRow .u16 w a1 len1 cap1 z1) (w2 : W64 a2) (w3 : W64 a3) (w5 : 0 ≤ a5 ∧ a5 ≤ 65535) (w6 : 0 ≤ a6 ∧ a6 ≤ 255) :
    Calls Try.prog 11 #[.slice a0 len0 cap0, .slice a1 len1 cap1, .int .u64 a2, .int .u64 a3, .bool a4, .int .u16 a5, .int .u8 a6] w fun e w' => e = .returned (.bool true) ∧ Below w.heap.size w w' := by
  obtain ⟨u0, l0⟩ := U16Row.of w0
  obtain ⟨u1, l1⟩ := U16Row.of w1
  exact walkAny a0 len0 cap0 _ a1 len1 cap1 _ a2 a3 a4 a5 a6 w l0 l1 u0 u1 w2 w3 w5 w6

/-! ### the row's step -/
set_option maxRecDepth 100000 in
theorem lifted (os : Os) (started : os.Started) (H : Type) (enc : TypeId × Value → H) :
    ReturnsInHanded {} Try.checked os 11 .any (Rows.ackBackSpec.pre6 enc Try.prog Try.f11 Rows.ackBackRow.domain false) (Rows.ackBackSpec.post enc Try.prog Try.f11 false true false false) := by
  refine returnsInHanded_of_change (C := Try.checked) own started (by kernel_rfl) Try.func11
    (ChangeSpec.witness6 (enc := enc) (C := Try.checked) false ⟨#[], #[.slice none 0 0, .slice none 0 0, .int .u64 0, .int .u64 0, .bool false, .int .u16 0, .int .u8 0], []⟩ 8 (by kernel_rfl) (by kernel_rfl) (by kernel_rfl) (by kernel_rfl)) ?_
  intro W base args ds gs before hval0 hW hcnd _
  have hval : ∀ (j : Nat) t v, Try.f11.params[j]? = some t → args[j]? = some v → Value.okWide Try.prog W .any base t v := hval0
  have hW' := hW
  obtain ⟨p, q, hA0, hV, rfl, hfz, hnd⟩ := hW
  have hA : DataW.TrodAll enc Try.prog W 0 (fun _ => true) true Try.f11.params.toList args.toList ds p := hA0
  rw [Try.params11] at hA hval
  obtain ⟨v0, vs0, d0, ds0, p0, q0, hargs, rfl, rfl, h0, r0⟩ := trodAll_cons hA
  obtain ⟨v1, vs1, d1, ds1, p1, q1, rfl, rfl, rfl, h1, r1⟩ := trodAll_cons r0
  obtain ⟨v2, vs2, d2, ds2, p2, q2, rfl, rfl, rfl, h2, r2⟩ := trodAll_cons r1
  obtain ⟨v3, vs3, d3, ds3, p3, q3, rfl, rfl, rfl, h3, r3⟩ := trodAll_cons r2
  obtain ⟨v4, vs4, d4, ds4, p4, q4, rfl, rfl, rfl, h4, r4⟩ := trodAll_cons r3
  obtain ⟨v5, vs5, d5, ds5, p5, q5, rfl, rfl, rfl, h5, r5⟩ := trodAll_cons r4
  obtain ⟨v6, vs6, d6, ds6, p6, q6, rfl, rfl, rfl, h6, r6⟩ := trodAll_cons r5
  obtain ⟨rfl, rfl, rfl⟩ := trodAll_nil r6
  obtain rfl : args = #[v0, v1, v2, v3, v4, v5, v6] := by cases args; simp_all
  obtain ⟨rfl, rfl⟩ := trodVars_none hV
  obtain ⟨a0, len0, cap0, rfl⟩ := okWide_slice Try.underlying61 (hval 0 61 v0 rfl rfl)
  have k0 := h0
  have lt0 : ∀ x ∈ p0, x.block < W.heap.size := by obtain ⟨m, hm⟩ := k0; exact DataW.trod_lt m _ _ _ hm
  obtain ⟨z0, w0⟩ : ∃ zs, IsRow .u16 W a0 len0 cap0 zs := by
    obtain ⟨fuel, hf⟩ := h0
    rcases open_ints Try.underlying61 Try.underlying38 (by kernel_rfl) hf with ⟨hcs, _⟩ | ⟨x, l, c, zs, hcs, _, hl, hm, hz, _, hcell, hwz⟩
    · simp [Value.cells] at hcs
      obtain ⟨rfl, rfl, rfl⟩ := hcs
      exact ⟨[], .inl ⟨rfl, rfl, rfl, rfl⟩⟩
    · simp [Value.cells] at hcs
      obtain ⟨rfl, rfl, rfl⟩ := hcs
      exact ⟨zs, .inr ⟨_, rfl, hl, hm, by simpa using hz, hcell, hwz⟩⟩
  obtain ⟨a1, len1, cap1, rfl⟩ := okWide_slice Try.underlying61 (hval 1 61 v1 rfl rfl)
  have k1 := h1
  have lt1 : ∀ x ∈ p1, x.block < W.heap.size := by obtain ⟨m, hm⟩ := k1; exact DataW.trod_lt m _ _ _ hm
  obtain ⟨z1, w1⟩ : ∃ zs, IsRow .u16 W a1 len1 cap1 zs := by
    obtain ⟨fuel, hf⟩ := h1
    rcases open_ints Try.underlying61 Try.underlying38 (by kernel_rfl) hf with ⟨hcs, _⟩ | ⟨x, l, c, zs, hcs, _, hl, hm, hz, _, hcell, hwz⟩
    · simp [Value.cells] at hcs
      obtain ⟨rfl, rfl, rfl⟩ := hcs
      exact ⟨[], .inl ⟨rfl, rfl, rfl, rfl⟩⟩
    · simp [Value.cells] at hcs
      obtain ⟨rfl, rfl, rfl⟩ := hcs
      exact ⟨zs, .inr ⟨_, rfl, hl, hm, by simpa using hz, hcell, hwz⟩⟩
  obtain ⟨a2, rfl, rfl, rfl, w2⟩ := open_int Try.underlying22 (hval 2 22 v2 rfl rfl) h2
  obtain ⟨a3, rfl, rfl, rfl, w3⟩ := open_int Try.underlying22 (hval 3 22 v3 rfl rfl) h3
  obtain ⟨a4, rfl, rfl, rfl⟩ := open_bool Try.underlying4 (hval 4 4 v4 rfl rfl) h4
  obtain ⟨a5, rfl, rfl, rfl, w5⟩ := open_int Try.underlying38 (hval 5 38 v5 rfl rfl) h5
  obtain ⟨a6, rfl, rfl, rfl, w6⟩ := open_int Try.underlying5 (hval 6 5 v6 rfl rfl) h6
  clear hA0 hval0
  refine (walk a0 len0 cap0 z0 a1 len1 cap1 z1 a2 a3 a4 a5 a6 W w0 w1 (wfU64 w2) (wfU64 w3) (wfU16 w5) (wfU8 w6)).mono fun e W' ⟨he, bel⟩ => ?_
  subst he
  exact ⟨_, rfl, _, _, _, [], _, [], hW', trodAll_mk1 (shut_bool Try.underlying4 _), (trodAll_cons_mk (Below.trod laidOut (by kernel_rfl) (of_decide_eq_true (by kernel_rfl)) k0 bel lt0) (trodAll_cons_mk (Below.trod laidOut (by kernel_rfl) (of_decide_eq_true (by kernel_rfl)) k1 bel lt1) (trodAll_cons_mk (shut_int Try.underlying22 w2) (trodAll_cons_mk (shut_int Try.underlying22 w3) (trodAll_cons_mk (shut_bool Try.underlying4 _) (trodAll_cons_mk (shut_int Try.underlying38 w5) (trodAll_cons_mk (shut_int Try.underlying5 w6) trodAll_mk0))))))), rfl, bel.frame _, fun h => by cases h⟩

theorem over : Rows.ackBackRow.holds Try.pinned (OpenSpec.ofChange Rows.ackBackSpec) :=
  OpenClaim.holds_of_wide 11 Try.f11 rfl rfl rfl rfl rfl rfl rfl ⟨rfl, rfl, rfl, rfl, rfl⟩ rfl rfl rfl rfl rfl (by kernel_rfl) Try.func11 (by kernel_rfl)
    (of_decide_eq_true (by kernel_rfl)) (by unfold Func.isWrapper; first | (rw [if_pos (by decide +kernel)]; kernel_rfl) | (rw [if_neg (by decide +kernel)]; exact ⟨rfl, rfl⟩))
    (fun os started H enc _ => lifted os started H enc)

/-- THE STATEMENT -/
theorem proved : Rows.AckBackSaid := over
end Go.Proofs.Ytofggpmllfhgaaa.ackBack
