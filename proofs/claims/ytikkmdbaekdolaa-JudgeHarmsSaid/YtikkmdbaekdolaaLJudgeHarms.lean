/- For all rows sent, slices b of bytes, rows l and m of 16-bit numbers and bytes pick, JudgeHarms returns true: Harmless agrees with the definition. No condition. -/
import Derived.Test.YtikkmdbaekdolaaBase
import Derived.SizedLaws
import Derived.Test.YtikkmdbaekdolaaAliveJ
import Derived.Test.YtikkmdbaekdolaaJgC
import Derived.Test.YtikkmdbaekdolaaJgE
import Derived.Test.YtikkmdbaekdolaaJgD
namespace Go.Proofs.Ytikkmdbaekdolaa.judgeHarms
open Go.ChangeShapes Go.WideShapes Go.ChangeAt Go.RowKit Go.Lib
set_option linter.unusedVariables false
set_option maxRecDepth 100000

theorem rowL_byte : ∀ (l : List (Int × Int)) (low : Int), 0 ≤ low → GoodL low l → ∀ z ∈ rowL low l, 0 ≤ z ∧ z ≤ 255
  | [], _, _, _ => fun z hz => absurd hz (by simp [rowL])
  | (lo, hi) :: l, low, h0, ⟨g1, g2, g3, g4⟩ => fun z hz => by
    rw [rowL] at hz
    simp only [List.mem_append] at hz
    rcases hz with hz | hz | hz
    · exact putA_byte _ (by omega) z hz
    · exact putA_byte _ (by omega) z hz
    · exact rowL_byte l (hi + 2) (by omega) g4 z hz
theorem eightL_byte (x : Int) (hx : W64 x) : ∀ z ∈ eightL x, 0 ≤ z ∧ z ≤ 255 := by
  intro z hz
  unfold W64 at hx
  simp only [eightL, List.mem_cons, List.not_mem_nil, or_false] at hz
  rcases hz with rfl | rfl | rfl | rfl | rfl | rfl | rfl | rfl <;> omega
theorem putAck_byte (d : AckD) (h : MayA d) : ∀ z ∈ putAckL d, 0 ≤ z ∧ z ≤ 255 := by
  intro z hz
  have h1 := h.sl
  have h2 := h.ml
  simp only [putAckL, putRowL, List.mem_cons, List.mem_append, List.not_mem_nil, or_false] at hz
  rcases hz with rfl | (rfl | hz) | (rfl | hz) | hz | hz | rfl
  · omega
  · omega
  · exact rowL_byte _ 0 (Int.le_refl _) h.s z hz
  · omega
  · exact rowL_byte _ 0 (Int.le_refl _) h.m z hz
  · exact eightL_byte _ h.t z hz
  · exact eightL_byte _ h.x z hz
  · unfold parL; split <;> omega
theorem putAck_len (d : AckD) (h : MayA d) : 0 < (putAckL d).length ∧ (putAckL d).length ≤ 1100 := by
  have h1 := h.sl
  have h2 := h.ml
  have k1 := putRowL_len d.spans
  have k2 := putRowL_len d.marked
  simp only [putAckL, List.length_cons, List.length_append, eightL_len, List.length_nil]
  omega

theorem boolOf (p : Prop) : ∃ B : Bool, B = true ↔ p := by
  by_cases h : p
  · exact ⟨true, by simp [h]⟩
  · exact ⟨false, by simp [h]⟩

theorem body_of_row {w : World} {a : Option Addr} {len cap : Nat} {z : List Int} (h : IsRow .u8 w a len cap z) : ∃ bs, BodyAt w (.slice a len cap) bs ∧ (∀ x ∈ bs, 0 ≤ x ∧ x ≤ 255) ∧ bs.length ≤ cap := by
  rcases h with ⟨rfl, rfl, rfl, rfl⟩ | ⟨x, rfl, hl, hm, hz, hc, hw⟩
  · exact ⟨[], .inl ⟨none, 0, rfl, fun _ => rfl, rfl⟩, by simp, by simp⟩
  · by_cases h0 : len = 0
    · subst h0
      exact ⟨[], .inl ⟨some x, cap, rfl, (fun e => by cases e), rfl⟩, by simp, by simp⟩
    · obtain ⟨b, off, spot⟩ := x
      have h1 := hc 0 (by omega)
      obtain ⟨p1, p2⟩ := cell_plain h1
      have hs : spot = none := by simpa [Addr.add] using p1
      subst hs
      have ht : (z.take len).length = len := by rw [List.length_take]; omega
      refine ⟨z.take len, .inr ⟨b, off, cap, by rw [ht], by omega, by omega, by unfold maxLen at hm; omega, by simpa [Addr.add] using p2, fun i hi => ?_⟩, fun y hy => wfU8 (hw y (List.mem_of_mem_take hy)), by omega⟩
      rw [ht] at hi
      have h2 := hc i (by omega)
      rw [addr_add] at h2
      rw [h2, List.getD_eq_getElem?_getD, List.getD_eq_getElem?_getD, List.getElem?_take, if_pos (by omega)]

set_option maxHeartbeats 8000000 in
theorem walkN (x : Option Addr) (c : Nat) (l : List SentP) (hl : l.length ≤ 9223372036854775807) (hw : ∀ i, i < l.length → W64 (l.getD i zS).nonce) (bv : Value) (bs : List Int) (hb : ∀ x ∈ bs, 0 ≤ x ∧ x ≤ 255) (hlen : bs.length ≤ 140737488351232)
    (a2 : Option Addr) (len2 cap2 : Nat) (z2 : Nat → Int) (a3 : Option Addr) (len3 cap3 : Nat) (z3 : Nat → Int) (pick : Int) (w : World) (l2 : len2 ≤ 9223372036854775807) (l3 : len3 ≤ 9223372036854775807) (hS : SentRow w x l) (hB : BodyAt w bv bs) (w2 : U16Row w a2 len2 z2) (w3 : U16Row w a3 len3 z3) (hp : 0 ≤ pick ∧ pick ≤ 255) :
    Calls Try.prog 11 #[.slice x l.length c, bv, .slice a2 len2 cap2, .slice a3 len3 cap3, .int .u8 pick] w fun e w' => e = .returned (.bool true) ∧ Below w.heap.size w w' := by
  obtain ⟨E, d, hG⟩ : ∃ E d, getA bs = (E, d) := ⟨_, _, rfl⟩
  obtain ⟨B0, hB0⟩ : ∃ B0 : Bool, B0 = true ↔ (E ≠ 0 ∨ harmP l d.trig) := boolOf _
  have HJ := Lib.hid (fun W (h1 : BodyAt W bv bs) (h2 : SentRow W x l) => jHarm x c l hl bv bs hb hlen W h1 h2 E d hG B0 hB0)
  have HQ := Lib.hid (fun W (h1 : BodyAt W bv bs) (h2 : SentRow W x l) => qHarm x c l hl bv bs hb hlen W h1 h2 E d hG B0 hB0)
  have HJ2 := Lib.hid (fun (vv : Value) (ys : List Int) (d : AckD) (B : Bool) (k1 : ∀ y ∈ ys, 0 ≤ y ∧ y ≤ 255) (k2 : ys.length ≤ 140737488351232) (k3 : getA ys = (0, d)) (k4 : B = true ↔ ((0 : Int) ≠ 0 ∨ harmP l d.trig)) W (h1 : BodyAt W vv ys) (h2 : SentRow W x l) => jHarm x c l hl vv ys k1 k2 W h1 h2 0 d k3 B k4)
  have HQ2 := Lib.hid (fun (vv : Value) (ys : List Int) (d : AckD) (B : Bool) (k1 : ∀ y ∈ ys, 0 ≤ y ∧ y ≤ 255) (k2 : ys.length ≤ 140737488351232) (k3 : getA ys = (0, d)) (k4 : B = true ↔ ((0 : Int) ≠ 0 ∨ harmP l d.trig)) W (h1 : BodyAt W vv ys) (h2 : SentRow W x l) => qHarm x c l hl vv ys k1 k2 W h1 h2 0 d k3 B k4)
  have HACK := Lib.hid (fun (t : Int) (ht : W64 t) W (h1 : U16Row W a2 len2 z2) (h2 : U16Row W a3 len3 z3) => gAck a2 a3 len2 cap2 len3 cap3 z2 z3 l2 l3 t 5 true ht (Wlit (by omega)) W h1 h2)
  have HS := Lib.hid hS
  have HB := Lib.hid hB
  have H2 := Lib.hid w2
  have H3 := Lib.hid w3
  have HW := Lib.hid hw
  have hl2 : (len2 : Int) ≤ 9223372036854775807 := by omega
  have hl3 : (len3 : Int) ≤ 9223372036854775807 := by omega
  obtain ⟨n, hn⟩ : ∃ n, l.length = n := ⟨_, rfl⟩
  have HN := Lib.hid hn
  rw [hn] at hl HJ HQ HJ2 HQ2 ⊢
  have hnI : (n : Int) ≤ 9223372036854775807 := by omega
  clear hS hB w2 w3 hw hb hlen hG hB0 hn l2 l3
  go_enter Try.func11, Try.ntmps11
  go_wp2_with fail
  ((with_reducible refine (aliveJ _).mono ?_); rintro e' w1 ⟨rfl, b1⟩)
  by_cases hc : 60 < len2 ∨ 60 < len3
  · rcases Nat.lt_or_ge 60 len2 with h6 | h6
    · have d1 : decide ((60 : Int) < (len2 : Int)) = true := decide_eq_true (by omega)
      clear hc
      go_wp2_with fail
      ((with_reducible refine (aliveJ _).mono ?_); rintro e' wB ⟨rfl, bB⟩)
      go_wp2_with fail
      go_ret
      exact ⟨rfl, b1.trans (bB.mono b1.size)⟩
    · have d1 : decide ((60 : Int) < (len2 : Int)) = false := decide_eq_false (by omega)
      have d2 : decide ((60 : Int) < (len3 : Int)) = true := decide_eq_true (by omega)
      clear hc
      go_wp2_with fail
      ((with_reducible refine (aliveJ _).mono ?_); rintro e' wB ⟨rfl, bB⟩)
      go_wp2_with fail
      go_ret
      exact ⟨rfl, b1.trans (bB.mono b1.size)⟩
  have d1 : decide ((60 : Int) < (len2 : Int)) = false := decide_eq_false (by omega)
  have d2 : decide ((60 : Int) < (len3 : Int)) = false := decide_eq_false (by omega)
  clear hc
  go_wp2_with fail
  ((with_reducible refine (HJ.out _ (HB.out.below b1) (HS.out.below b1)).mono ?_); rintro e' w2 ⟨rfl, b2⟩)
  have c2 := b1.trans (b2.mono b1.size)
  clear b1 b2
  go_wp2_with fail
  ((with_reducible refine (HQ.out _ (HB.out.below c2) (HS.out.below c2)).mono ?_); rintro e' w3 ⟨rfl, b3⟩)
  have c3 := c2.trans (b3.mono c2.size)
  clear c2 b3 HJ HQ HB
  have hxk : ∃ t : Int, W64 t ∧ True := ⟨0, Wlit (by omega), trivial⟩
  clear hxk
  have hww : IntKind.u64.wrap pick = pick := by rw [IntKind.wrap_u64]; omega
  have hwi : IntKind.i64.wrap pick = pick := by rw [IntKind.wrap_i64]; omega
  have key : ∀ (K : Int), True := fun _ => trivial
  clear key
  by_cases h0 : n = 0
  · subst h0
    go_wp2_with fail
    ((with_reducible refine (HACK.out pick (by unfold W64; omega) _ (H2.out.below c3) (H3.out.below c3)).mono ?_); rintro e' w4 ⟨d5, v, u, ok, rfl, b4, hmay, hls, hlm, V1, U1⟩)
    obtain ⟨x5, c5, rfl, S1⟩ := V1.form
    obtain ⟨y5, e5, rfl, M1⟩ := U1.form
    obtain ⟨s, m, t, r, p⟩ := d5
    simp only at hls hlm S1 M1
    unfold ackV
    simp only
    have HM := Lib.hid hmay
    have c4 := c3.trans (b4.mono c3.size)
    clear hmay V1 U1 b4 c3 HACK H2 H3
    cases ok
    · go_wp2_with fail
      go_ret
      exact ⟨rfl, by repeat (first | with_reducible exact c4 | with_reducible refine Below.alloc ?_ c4.size _)⟩
    have hd := HM.out rfl
    have HD := Lib.hid hd
    clear HM hd
    have HSS := Lib.hid S1
    have HSM := Lib.hid M1
    clear S1 M1
    go_wp2_with fail
    obtain ⟨w5, hw5⟩ : ∃ w5, w5 = w4.alloc (.cells #[.slice x5 s.length c5, .slice y5 m.length e5, .int .u64 t, .int .u64 r, .bool p] 74 (0, 0)) := ⟨_, rfl⟩
    have b5 : Below w4.heap.size w4 w5 := by rw [hw5]; exact (Below.refl _ _).alloc (Nat.le_refl _) _
    have c5' := c4.trans (b5.mono c4.size)
    rw [← hw5]
    ((with_reducible refine (rPutAck x5 y5 c5 e5 s m t r p HD.out _ (HSS.out.below b5) (HSM.out.below b5)).mono ?_); rintro e' w6 ⟨vf, rfl, b6, own6⟩)
    have c6 := c5'.trans (b6.mono c5'.size)
    obtain ⟨pl1, pl2⟩ := putAck_len _ HD.out
    obtain ⟨gf, cf, hvf, hgf, hcf1, hcf2, hbf⟩ := ownBytes own6 pl1
    have HBF : Hid (BodyAt w6 vf (putAckL ⟨s, m, t, r, p⟩)) := .inr ⟨gf, 0, cf, hvf, pl1, hcf1, hcf2, hbf⟩
    obtain ⟨B1, hB1⟩ : ∃ B1 : Bool, B1 = true ↔ ((0 : Int) ≠ 0 ∨ harmP l (AckD.mk s m t r p).trig) := boolOf _
    have HBY := Lib.hid (putAck_byte _ HD.out)
    have HGP := Lib.hid (getA_put _ HD.out)
    have HB1 := Lib.hid hB1
    have HPL : Hid ((putAckL ⟨s, m, t, r, p⟩).length ≤ 140737488351232) := by show _ ≤ _; omega
    clear hw5 b5 b6 c4 c5' own6 hB1 hvf hbf pl1 pl2
    go_wp2_with fail
    ((with_reducible refine (HJ2.out vf _ _ B1 HBY.out HPL.out HGP.out HB1.out _ HBF.out (HS.out.below c6)).mono ?_); rintro e' w7 ⟨rfl, b7⟩)
    have c7 := c6.trans (b7.mono c6.size)
    go_wp2_with fail
    ((with_reducible refine (HQ2.out vf _ _ B1 HBY.out HPL.out HGP.out HB1.out _ (HBF.out.below b7) (HS.out.below c7)).mono ?_); rintro e' w8 ⟨rfl, b8⟩)
    have c8 := c7.trans (b8.mono c7.size)
    go_wp2_with fail
    go_ret
    exact ⟨rfl, c8⟩
  · have d3 : decide ((0 : Int) < (n : Int)) = true := decide_eq_true (by omega)
    have h0p : 0 < n := by omega
    obtain ⟨k, hk, hkn⟩ : ∃ k : Nat, pick.tmod (n : Int) = (k : Int) ∧ k < n := by
      refine ⟨(pick % (n : Int)).toNat, ?_, ?_⟩
      · rw [Int.tmod_eq_emod_of_nonneg hp.1, Int.toNat_of_nonneg (Int.emod_nonneg _ (by omega))]
      · have := Int.emod_lt_of_pos pick (show (0 : Int) < n by omega)
        have := Int.emod_nonneg pick (show (n : Int) ≠ 0 by omega)
        omega
    have hkI : (k : Int) < (n : Int) := by omega
    have hn0 : ((n : Int) == 0) = false := by rw [beq_eq_false_iff_ne]; omega
    obtain ⟨g, o, rfl, hSA⟩ := SentRow.at (HS.out.below c3) k (by rw [HN.out]; exact hkn)
    obtain ⟨hg, hSA⟩ := hSA
    obtain ⟨q0, q1, q2, q3, q4, q5, q6, q7⟩ := hSA k (by rw [HN.out]; exact hkn)
    have hwx := HW.out k (by rw [HN.out]; exact hkn)
    generalize (l.getD k zS).nonce = xx at q3 hwx
    clear q0 q1 q2 q4 q5 q6 q7 hSA
    have HWX := Lib.hid hwx
    clear hwx
    go_wp2_with fail
    ((with_reducible refine (HACK.out xx HWX.out _ (H2.out.below c3) (H3.out.below c3)).mono ?_); rintro e' w4 ⟨d5, v, u, ok, rfl, b4, hmay, hls, hlm, V1, U1⟩)
    obtain ⟨x5, c5, rfl, S1⟩ := V1.form
    obtain ⟨y5, e5, rfl, M1⟩ := U1.form
    obtain ⟨s, m, t, r, p⟩ := d5
    simp only at hls hlm S1 M1
    unfold ackV
    simp only
    have HM := Lib.hid hmay
    have c4 := c3.trans (b4.mono c3.size)
    clear hmay V1 U1 b4 c3 HACK H2 H3
    cases ok
    · go_wp2_with fail
      go_ret
      exact ⟨rfl, by repeat (first | with_reducible exact c4 | with_reducible refine Below.alloc ?_ c4.size _)⟩
    have hd := HM.out rfl
    have HD := Lib.hid hd
    clear HM hd
    have HSS := Lib.hid S1
    have HSM := Lib.hid M1
    clear S1 M1
    go_wp2_with fail
    obtain ⟨w5, hw5⟩ : ∃ w5, w5 = w4.alloc (.cells #[.slice x5 s.length c5, .slice y5 m.length e5, .int .u64 t, .int .u64 r, .bool p] 74 (0, 0)) := ⟨_, rfl⟩
    have b5 : Below w4.heap.size w4 w5 := by rw [hw5]; exact (Below.refl _ _).alloc (Nat.le_refl _) _
    have c5' := c4.trans (b5.mono c4.size)
    rw [← hw5]
    ((with_reducible refine (rPutAck x5 y5 c5 e5 s m t r p HD.out _ (HSS.out.below b5) (HSM.out.below b5)).mono ?_); rintro e' w6 ⟨vf, rfl, b6, own6⟩)
    have c6 := c5'.trans (b6.mono c5'.size)
    obtain ⟨pl1, pl2⟩ := putAck_len _ HD.out
    obtain ⟨gf, cf, hvf, hgf, hcf1, hcf2, hbf⟩ := ownBytes own6 pl1
    have HBF : Hid (BodyAt w6 vf (putAckL ⟨s, m, t, r, p⟩)) := .inr ⟨gf, 0, cf, hvf, pl1, hcf1, hcf2, hbf⟩
    obtain ⟨B1, hB1⟩ : ∃ B1 : Bool, B1 = true ↔ ((0 : Int) ≠ 0 ∨ harmP l (AckD.mk s m t r p).trig) := boolOf _
    have HBY := Lib.hid (putAck_byte _ HD.out)
    have HGP := Lib.hid (getA_put _ HD.out)
    have HB1 := Lib.hid hB1
    have HPL : Hid ((putAckL ⟨s, m, t, r, p⟩).length ≤ 140737488351232) := by show _ ≤ _; omega
    clear hw5 b5 b6 c4 c5' own6 hB1 hvf hbf pl1 pl2
    go_wp2_with fail
    ((with_reducible refine (HJ2.out vf _ _ B1 HBY.out HPL.out HGP.out HB1.out _ HBF.out (HS.out.below c6)).mono ?_); rintro e' w7 ⟨rfl, b7⟩)
    have c7 := c6.trans (b7.mono c6.size)
    go_wp2_with fail
    ((with_reducible refine (HQ2.out vf _ _ B1 HBY.out HPL.out HGP.out HB1.out _ (HBF.out.below b7) (HS.out.below c7)).mono ?_); rintro e' w8 ⟨rfl, b8⟩)
    have c8 := c7.trans (b8.mono c7.size)
    go_wp2_with fail
    go_ret
    exact ⟨rfl, c8⟩
theorem walk (a0 : Option Addr) (len0 cap0 : Nat) (a1 : Option Addr) (len1 cap1 : Nat) (z1 : List Int) (a2 : Option Addr) (len2 cap2 : Nat) (z2 : List Int) (a3 : Option Addr) (len3 cap3 : Nat) (z3 : List Int) (pick : Int) (w : World) (w0 : ∃ l : List SentP, l.length = len0 ∧ (∀ i, i < l.length → W64 (l.getD i zS).nonce) ∧ SentRow w a0 l ∧ len0 ≤ 9223372036854775807)
    (w1 : IsRow .u8 w a1 len1 cap1 z1) (hr : cap1 ≤ 140737488351232) (w2 : IsRow .u16 w a2 len2 cap2 z2) (w3 : IsRow .u16 w a3 len3 cap3 z3) (w4 : 0 ≤ pick ∧ pick ≤ 255) :
    Calls Try.prog 11 #[.slice a0 len0 cap0, .slice a1 len1 cap1, .slice a2 len2 cap2, .slice a3 len3 cap3, .int .u8 pick] w fun e w' => e = .returned (.bool true) ∧ Below w.heap.size w w' := by
  obtain ⟨l, rfl, hw, hS, hl⟩ := w0
  obtain ⟨bs, hB, hb, hlen⟩ := body_of_row w1
  obtain ⟨u2, l2⟩ := U16Row.of w2
  obtain ⟨u3, l3⟩ := U16Row.of w3
  exact walkN a0 cap0 l hl hw _ bs hb (by omega) a2 len2 cap2 _ a3 len3 cap3 _ pick w l2 l3 hS hB u2 u3 w4

/-! ### the row's step -/
set_option maxRecDepth 100000 in
theorem lifted (os : Os) (started : os.Started) (H : Type) (enc : TypeId × Value → H) :
    ReturnsInHanded {} Try.checked os 11 .any (Rows.judgeHarmsSpec.pre6 enc Try.prog Try.f11 Rows.judgeHarmsRow.domain false) (Rows.judgeHarmsSpec.post enc Try.prog Try.f11 false true false false) := by
  refine returnsInHanded_of_change_sized (C := Try.checked) own started (by kernel_rfl) Try.func11
    (ChangeSpec.witness6 (enc := enc) (C := Try.checked) false ⟨#[], #[.slice none 0 0, .slice none 0 0, .slice none 0 0, .slice none 0 0, .int .u8 0], []⟩ 8 (by kernel_rfl) (by kernel_rfl) (by kernel_rfl) (by kernel_rfl)) ?_
  intro W base args ds gs before hval0 hW hcnd hsz0 _
  have hsz : (DataW.weightsEach Try.prog (Try.f11.params.toList ++ Rows.judgeHarmsSpec.plain.varTypes Try.prog) (ds ++ gs)).all (· ≤ reachBytes) = true := hsz0
  clear hsz0
  have hval : ∀ (j : Nat) t v, Try.f11.params[j]? = some t → args[j]? = some v → Value.okWide Try.prog W .any base t v := hval0
  have hW' := hW
  obtain ⟨p, q, hA0, hV, rfl, hfz, hnd⟩ := hW
  have hA : DataW.TrodAll enc Try.prog W 0 (fun _ => true) true Try.f11.params.toList args.toList ds p := hA0
  rw [Try.params11] at hA hval hsz
  obtain ⟨v0, vs0, d0, ds0, p0, q0, hargs, rfl, rfl, h0, r0⟩ := trodAll_cons hA
  obtain ⟨v1, vs1, d1, ds1, p1, q1, rfl, rfl, rfl, h1, r1⟩ := trodAll_cons r0
  obtain ⟨v2, vs2, d2, ds2, p2, q2, rfl, rfl, rfl, h2, r2⟩ := trodAll_cons r1
  obtain ⟨v3, vs3, d3, ds3, p3, q3, rfl, rfl, rfl, h3, r3⟩ := trodAll_cons r2
  obtain ⟨v4, vs4, d4, ds4, p4, q4, rfl, rfl, rfl, h4, r4⟩ := trodAll_cons r3
  obtain ⟨rfl, rfl, rfl⟩ := trodAll_nil r4
  obtain rfl : args = #[v0, v1, v2, v3, v4] := by cases args; simp_all
  obtain ⟨rfl, rfl⟩ := trodVars_none hV
  obtain ⟨a0, len0, cap0, rfl⟩ := okWide_slice Try.underlying85 (hval 0 85 v0 rfl rfl)
  have k0 := h0
  have lt0 : ∀ x ∈ p0, x.block < W.heap.size := by obtain ⟨m, hm⟩ := k0; exact DataW.trod_lt m _ _ _ hm
  have w0 : ∃ l : List SentP, l.length = len0 ∧ (∀ i, i < l.length → W64 (l.getD i zS).nonce) ∧ SentRow W a0 l ∧ len0 ≤ 9223372036854775807 := by
    obtain ⟨fuel, hf⟩ := h0
    exact sent_of (by simpa [Value.cells] using hf)
  obtain ⟨a1, len1, cap1, rfl⟩ := okWide_slice Try.underlying44 (hval 1 44 v1 rfl rfl)
  have k1 := h1
  have lt1 : ∀ x ∈ p1, x.block < W.heap.size := by obtain ⟨m, hm⟩ := k1; exact DataW.trod_lt m _ _ _ hm
  obtain ⟨z1, w1, s1⟩ : ∃ zs, IsRow .u8 W a1 len1 cap1 zs ∧ cap1 ≤ 140737488351232 := by
    obtain ⟨fuel, hf⟩ := h1
    rcases open_ints Try.underlying44 Try.underlying5 (by kernel_rfl) hf with ⟨hcs, _⟩ | ⟨x, l, c, zs, hcs, _, hl, hm, hz, hx, hcell, hwz⟩
    · simp [Value.cells] at hcs
      obtain ⟨rfl, rfl, rfl⟩ := hcs
      exact ⟨[], .inl ⟨rfl, rfl, rfl, rfl⟩, by omega⟩
    · simp [Value.cells] at hcs
      obtain ⟨rfl, rfl, rfl⟩ := hcs
      have hd := (Prod.mk.inj hx).1
      have hr := sized_slice hsz (j := 1) (t := 44) (e := 5) rfl (by rw [← hd]; rfl) Try.underlying44
      rw [show Try.prog.bytesOf 5 = 1 from by kernel_rfl] at hr
      simp only [lits, List.length_map, List.length_take, List.length_drop, reachBytes] at hr
      have hz' : zs.length = cap1 := by simpa using hz
      exact ⟨zs, .inr ⟨_, rfl, hl, hm, hz', hcell, hwz⟩, by omega⟩
  obtain ⟨a2, len2, cap2, rfl⟩ := okWide_slice Try.underlying75 (hval 2 75 v2 rfl rfl)
  have k2 := h2
  have lt2 : ∀ x ∈ p2, x.block < W.heap.size := by obtain ⟨m, hm⟩ := k2; exact DataW.trod_lt m _ _ _ hm
  obtain ⟨z2, w2⟩ : ∃ zs, IsRow .u16 W a2 len2 cap2 zs := by
    obtain ⟨fuel, hf⟩ := h2
    rcases open_ints Try.underlying75 Try.underlying67 (by kernel_rfl) hf with ⟨hcs, _⟩ | ⟨x, l, c, zs, hcs, _, hl, hm, hz, _, hcell, hwz⟩
    · simp [Value.cells] at hcs
      obtain ⟨rfl, rfl, rfl⟩ := hcs
      exact ⟨[], .inl ⟨rfl, rfl, rfl, rfl⟩⟩
    · simp [Value.cells] at hcs
      obtain ⟨rfl, rfl, rfl⟩ := hcs
      exact ⟨zs, .inr ⟨_, rfl, hl, hm, by simpa using hz, hcell, hwz⟩⟩
  obtain ⟨a3, len3, cap3, rfl⟩ := okWide_slice Try.underlying75 (hval 3 75 v3 rfl rfl)
  have k3 := h3
  have lt3 : ∀ x ∈ p3, x.block < W.heap.size := by obtain ⟨m, hm⟩ := k3; exact DataW.trod_lt m _ _ _ hm
  obtain ⟨z3, w3⟩ : ∃ zs, IsRow .u16 W a3 len3 cap3 zs := by
    obtain ⟨fuel, hf⟩ := h3
    rcases open_ints Try.underlying75 Try.underlying67 (by kernel_rfl) hf with ⟨hcs, _⟩ | ⟨x, l, c, zs, hcs, _, hl, hm, hz, _, hcell, hwz⟩
    · simp [Value.cells] at hcs
      obtain ⟨rfl, rfl, rfl⟩ := hcs
      exact ⟨[], .inl ⟨rfl, rfl, rfl, rfl⟩⟩
    · simp [Value.cells] at hcs
      obtain ⟨rfl, rfl, rfl⟩ := hcs
      exact ⟨zs, .inr ⟨_, rfl, hl, hm, by simpa using hz, hcell, hwz⟩⟩
  obtain ⟨a4, rfl, rfl, rfl, w4⟩ := open_int Try.underlying5 (hval 4 5 v4 rfl rfl) h4
  clear hA0 hval0
  refine (walk a0 len0 cap0 a1 len1 cap1 z1 a2 len2 cap2 z2 a3 len3 cap3 z3 a4 W w0 w1 s1 w2 w3 (wfU8 w4)).mono fun e W' ⟨he, bel⟩ => ?_
  subst he
  exact ⟨_, rfl, _, _, _, [], _, [], hW', trodAll_mk1 (shut_bool Try.underlying4 _), (trodAll_cons_mk (Below.trod laidOut (by kernel_rfl) (of_decide_eq_true (by kernel_rfl)) k0 bel lt0) (trodAll_cons_mk (Below.trod laidOut (by kernel_rfl) (of_decide_eq_true (by kernel_rfl)) k1 bel lt1) (trodAll_cons_mk (Below.trod laidOut (by kernel_rfl) (of_decide_eq_true (by kernel_rfl)) k2 bel lt2) (trodAll_cons_mk (Below.trod laidOut (by kernel_rfl) (of_decide_eq_true (by kernel_rfl)) k3 bel lt3) (trodAll_cons_mk (shut_int Try.underlying5 w4) trodAll_mk0))))), rfl, bel.frame _, fun h => by cases h⟩

theorem over : Rows.judgeHarmsRow.holds Try.pinned (OpenSpec.ofChange Rows.judgeHarmsSpec) :=
  OpenClaim.holds_of_wide 11 Try.f11 rfl rfl rfl rfl rfl rfl rfl ⟨rfl, rfl, rfl, rfl, rfl⟩ rfl rfl rfl rfl rfl (by kernel_rfl) Try.func11 (by kernel_rfl)
    (of_decide_eq_true (by kernel_rfl)) (by unfold Func.isWrapper; first | (rw [if_pos (by decide +kernel)]; kernel_rfl) | (rw [if_neg (by decide +kernel)]; exact ⟨rfl, rfl⟩))
    (fun os started H enc _ => lifted os started H enc)

/-- THE STATEMENT -/
theorem proved : Rows.JudgeHarmsSaid := over
end Go.Proofs.Ytikkmdbaekdolaa.judgeHarms
