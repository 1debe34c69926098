/- For all numbers, HeadBack returns true: a packet is read as it was written, a beginning of it is none, and what has more behind it neither. No condition. -/
import Derived.Test.YtofggpmllfhgaaaBase
import Derived.Test.YtofggpmllfhgaaaAliveHead
import Derived.Test.YtofggpmllfhgaaaHeadSame
import Derived.Test.YtofggpmllfhgaaaHeadData
namespace Go.Proofs.Ytofggpmllfhgaaa.headBack
open Go.ChangeShapes Go.WideShapes Go.ChangeAt Go.RowKit Go.Lib
set_option linter.unusedVariables false
set_option maxRecDepth 100000

theorem body_len {d : Dat} (h : MayD d) : 0 < (putD d).length := by simp [putD]

set_option maxHeartbeats 4000000 in
theorem walk (a0 a1 a2 a3 a4 a5 a6 : Int) (w : World) (w0 : W64 a0) (w1 : W64 a1) (w2 : W64 a2) (w3 : 0 ≤ a3 ∧ a3 ≤ 65535) (w4 : 0 ≤ a4 ∧ a4 ≤ 65535) (w5 : -9223372036854775808 ≤ a5 ∧ a5 ≤ 9223372036854775807) (w6 : 0 ≤ a6 ∧ a6 ≤ 255) :
    Calls Try.prog 5 #[.int .u64 a0, .int .u64 a1, .int .u64 a2, .int .u16 a3, .int .u16 a4, .int .i64 a5, .int .u8 a6] w fun e w' => e = .returned (.bool true) ∧ Below w.heap.size w w' := by
  obtain ⟨i, hi, hz, hs, hbb⟩ := info_parts (P := Try.prog) (e := 5) (z := .int .u8 0) (size := 1) (bytes := 1) (by kernel_rfl)
  have W0 := Lib.hid w0
  have W1 := Lib.hid w1
  have W2 := Lib.hid w2
  have W3 := Lib.hid w3
  have W5 := Lib.hid w5
  have hw40 := w4.1
  have W6 := Lib.hid w6
  clear w0 w1 w2 w3 w5
  go_enter Try.func5, Try.ntmps5
  go_wp2_with fail
  refine (gData a0 a1 a2 a3 a5 W0.out W1.out W2.out W3.out W5.out _).mono ?_; rintro e' w1 ⟨d, q, rfl, hd, hby, b01, B1⟩
  unfold dataV
  go_wp2_with fail
  obtain ⟨w2, hw2⟩ : ∃ w2, w2 = w1.alloc (.cells #[.int .u64 d.pn, .int .u64 d.least, .int .u64 d.off, .int .u64 d.x, .int .i64 d.ecn, .slice (some ⟨q, 0, none⟩) d.body.length d.body.length] 25 (0, 0)) := ⟨_, rfl⟩
  have b12 : Below w1.heap.size w1 w2 := by rw [hw2]; exact (Below.refl _ _).alloc (Nat.le_refl _) _
  have D2 : DatAt w2 w1.heap.size (.int .u64 d.pn) (.int .u64 d.least) (.int .u64 d.off) (.int .u64 d.x) (.int .i64 d.ecn) (.slice (some ⟨q, 0, none⟩) d.body.length d.body.length) := by rw [hw2]; exact heap_alloc_new w1 _
  have b02 := b01.trans (b12.mono b01.size)
  have B2 := B1.below b12
  clear B1
  rw [← hw2]
  clear hw2 b12 b01
  have hl := hd.len
  refine (hEncode d hd q 0 d.body.length ⟨Nat.le_refl _, by omega⟩ _ B2).mono ?_; rintro e' w3 ⟨v3, rfl, b23, own3⟩
  obtain ⟨g, c, rfl, hg, hc, hm, E3⟩ := ownBytes own3 (body_len hd)
  clear own3
  have b03 := b02.trans (b23.mono b02.size)
  have B3 := B2.below b23
  clear B2
  have D3 := D2.belowB D2.lt b23
  clear D2
  clear b23 b02
  obtain ⟨bs, hbs⟩ : ∃ l, l = putD d := ⟨_, rfl⟩
  rw [← hbs] at E3 hc ⊢
  have hbyt : ∀ y ∈ bs, 0 ≤ y ∧ y ≤ 255 := by rw [hbs]; exact putD_byte d hd hby
  have hN1 : bs.length ≤ 1600 := by rw [hbs]; exact hd.size
  have hN2 : 0 < bs.length := by rw [hbs]; exact body_len hd
  have G0 : getF bs = (0, d) := by rw [hbs]; exact getF_put d hd
  have G2 : ∀ J, J < bs.length → getF (bs.take J) = (2, zeroD) := by rw [hbs]; exact getF_cut d hd
  have G3 : getF (bs ++ [a6]) = (3, zeroD) := by rw [hbs]; exact getF_more d hd a6
  have HD := Lib.hid hd
  have HBY := Lib.hid hby
  have HG2 := Lib.hid G2
  have HYT := Lib.hid hbyt
  clear hbs hd hby G2 hbyt
  obtain ⟨N, hN⟩ : ∃ N, bs.length = N := ⟨_, rfl⟩
  have HN := Lib.hid hN
  rw [hN] at hN1 hN2 hc ⊢
  have hN3 : ((N : Int) == 0) = false := by rw [beq_eq_false_iff_ne]; omega
  have hN4 : (0 : Int) < (N : Int) := by omega
  clear hN
  go_wp2_with fail
  refine (aliveHead _).mono ?_; rintro e' w4 ⟨rfl, b34⟩
  have b04 := b03.trans (b34.mono b03.size)
  have B4 := B3.below b34
  clear B3
  have D4 := D3.belowB D3.lt b34
  clear D3
  have E4 := E3.below b34
  clear E3
  clear b34 b03
  go_wp2_with fail
  have Y4 : BodyAt w4 (.slice (some ⟨g, 0, none⟩) N c) bs := .inr ⟨g, 0, c, by rw [HN.out], by have := HN.out; omega, by have := HN.out; omega, hm, E4⟩
  refine (hDecode _ bs HYT.out (by have := HN.out; omega) _ Y4 0 d G0).mono ?_; rintro e' w5 ⟨v5, rfl, b45, V5⟩
  obtain ⟨x5, c5, hv5⟩ := V5.form
  subst hv5
  clear Y4
  have b05 := b04.trans (b45.mono b04.size)
  have B5 := B4.below b45
  clear B4
  have D5 := D4.belowB D4.lt b45
  clear D4
  have E5 := E4.below b45
  clear E4
  clear b45 b04
  unfold dataV
  obtain ⟨J, hJ⟩ : ∃ J : Nat, a4.tmod (N : Int) = (J : Int) := ⟨(a4 % (N : Int)).toNat, by have := Int.emod_nonneg a4 (show (N : Int) ≠ 0 by omega); rw [Int.tmod_eq_emod_of_nonneg hw40]; omega⟩
  have hJN : J < N := by
    rw [Int.tmod_eq_emod_of_nonneg hw40] at hJ
    have := Int.emod_lt_of_pos a4 (show (0 : Int) < (N : Int) by omega)
    omega
  have j1 : (J : Int) ≤ (N : Int) := by omega
  have j2 : (0 : Int) ≤ (J : Int) := by omega
  have j3 : (N : Int) ≤ (c : Int) := by omega
  have j4 : (J : Int) ≤ (c : Int) := by omega
  have j5 : (N : Int) ≠ 0 := by omega
  go_wp2_with fail
  obtain ⟨w6, hw6⟩ : ∃ w6, w6 = w5.alloc (.cells #[.int .u64 d.pn, .int .u64 d.least, .int .u64 d.off, .int .u64 d.x, .int .i64 d.ecn, .slice x5 d.body.length c5] 25 (0, 0)) := ⟨_, rfl⟩
  have b56 : Below w5.heap.size w5 w6 := by rw [hw6]; exact (Below.refl _ _).alloc (Nat.le_refl _) _
  have X6 : DatAt w6 w5.heap.size (.int .u64 d.pn) (.int .u64 d.least) (.int .u64 d.off) (.int .u64 d.x) (.int .i64 d.ecn) (.slice x5 d.body.length c5) := by rw [hw6]; exact heap_alloc_new w5 _
  have b06 := b05.trans (b56.mono b05.size)
  have B6 := B5.below b56
  clear B5
  have D6 := D5.belowB D5.lt b56
  clear D5
  have E6 := E5.below b56
  clear E5
  have V6 := V5.below b56
  clear V5
  rw [← hw6]
  clear hw6 b56 b05
  have EJ : BytesAt w6 g 0 (bs.take J) := E6.take' J
  have hlJ : (bs.take J).length = J := by rw [List.length_take]; have := HN.out; omega
  have Y6 : BodyAt w6 (.slice (some ⟨g, 0, none⟩) J c) (bs.take J) := by
    by_cases h0 : J = 0
    · subst h0
      exact .inl ⟨_, c, rfl, (fun e => by cases e), rfl⟩
    · exact .inr ⟨g, 0, c, by rw [hlJ], by omega, by omega, hm, EJ⟩
  refine (hDecode _ (bs.take J) (fun y hy => HYT.out y (List.mem_of_mem_take hy)) (by omega) _ Y6 2 zeroD (HG2.out J (by rw [HN.out]; exact hJN))).mono ?_; rintro e' w7 ⟨v7, rfl, b67, V7⟩
  obtain ⟨x7, c7, hv7⟩ := V7.form
  subst hv7
  clear Y6 EJ V7
  have b07 := b06.trans (b67.mono b06.size)
  have B7 := B6.below b67
  clear B6
  have D7 := D6.belowB D6.lt b67
  clear D6
  have E7 := E6.below b67
  clear E6
  have V7 := V6.below b67
  clear V6
  have X7 := X6.belowB X6.lt b67
  clear X6
  clear b67 b06
  unfold dataV zeroD
  simp only [List.length_nil]
  obtain ⟨w8, hw8⟩ : ∃ w8, w8 = w7.alloc (.cells #[.int .u64 0, .int .u64 0, .int .u64 0, .int .u64 0, .int .i64 0, .slice x7 0 c7] 25 (0, 0)) := ⟨_, rfl⟩
  have b78 : Below w7.heap.size w7 w8 := by rw [hw8]; exact (Below.refl _ _).alloc (Nat.le_refl _) _
  have b08 := b07.trans (b78.mono b07.size)
  have E8 := E7.below b78
  have hlE : ((bs).map (Value.int .u8)).length = N * 1 := by rw [List.length_map, HN.out]; omega
  rw [hw8] at E8 b78
  go_wp2_with (first
    | (at_builtin; refine wpList_append_own _ rfl (.const (.slice none 0 0)) (.tmp 63) 23 rfl w7.heap.size 5 i (.int .u8 0) 1 1 Try.underlying23 hi hz hs hbb rfl (by decide) (.slice none 0 0) 0 [] rfl (World.ownsRow_nil _ _ _ _) ⟨g, 0, none⟩ N c (bs.map (.int .u8)) rfl hlE E8.news (oneCell_bytes _) (by simp [maxLen]; omega) (by omega) (by simp) ?_; intro v9 w9 own9 hgrow9 hnil9; simp only [Nat.zero_add, List.nil_append] at own9; have b89 : Below w7.heap.size _ w9 := below_grown (Below.refl _ _) hgrow9 (by simp); have s89 := b89.size)
    | (at_builtin; refine wpList_append_own _ rfl (.tmp 64) (.tmp 66) 23 rfl w7.heap.size 5 i (.int .u8 0) 1 1 Try.underlying23 hi hz hs hbb rfl (by decide) _ N _ rfl (own9.alloc _) ⟨w9.heap.size, 0, none⟩ 1 1 [.int .u8 a6] rfl rfl (news1 _ _ _) (one1 _) (by simp [maxLen]; omega) (by omega) (by simp at s89 ⊢; omega) ?_; intro v10 w10 own10 hgrow10 hnil10))
  have b910 : Below w7.heap.size w9 w10 := below_grownR ((Below.refl _ _).alloc (by simp at s89; omega) _) hgrow10 (by simp at s89 ⊢; omega) (fun k hk => (own9.lt k hk).1)
  have b710 : Below w7.heap.size w7 w10 := b78.trans (b89.trans b910)
  rw [show [Value.int .u8 a6] = [a6].map (Value.int .u8) from rfl, ← List.map_append] at own10
  obtain ⟨g10, c10, rfl, hg10, hc10, hm10, E10⟩ := ownBytes own10 (by omega)
  clear own9 own10 hgrow9 hgrow10 hnil9 hnil10 b89 b910 b78 E8 hw8 b08
  have b010 := b07.trans (b710.mono b07.size)
  have B10 := B7.below b710
  clear B7
  have D10 := D7.belowB D7.lt b710
  clear D7
  have Eo10 := E7.below b710
  clear E7
  have V10 := V7.below b710
  clear V7
  have X10 := X7.belowB X7.lt b710
  clear X7
  clear b710 b07
  have hl10 : (bs ++ [a6]).length = N + 1 := by rw [List.length_append, HN.out]; rfl
  have hb10 : ∀ y ∈ bs ++ [a6], 0 ≤ y ∧ y ≤ 255 := by
    intro y hy
    rcases List.mem_append.1 hy with h | h
    · exact HYT.out y h
    · rw [List.mem_singleton.1 h]; exact W6.out
  refine (hDecode (.slice (some ⟨g10, 0, none⟩) (N + 1) c10) (bs ++ [a6]) hb10 (by omega) _ (.inr ⟨g10, 0, c10, by rw [hl10], by omega, by omega, hm10, E10⟩) 3 zeroD G3).mono ?_; rintro e' w11 ⟨v11, rfl, b1011, V11⟩
  obtain ⟨x11, c11, hv11⟩ := V11.form
  subst hv11
  clear V11 E10
  have b011 := b010.trans (b1011.mono b010.size)
  have B11 := B10.below b1011
  clear B10
  have D11 := D10.belowB D10.lt b1011
  clear D10
  have Eo11 := Eo10.below b1011
  clear Eo10
  have V11 := V10.below b1011
  clear V10
  have X11 := X10.belowB X10.lt b1011
  clear X10
  clear b1011 b010
  unfold dataV zeroD
  simp only [List.length_nil]
  obtain ⟨d0, d1, d2, d3, d4, d5⟩ := D11.cells.1
  obtain ⟨k0, k1, k2, k3, k4, k5⟩ := X11.cells.1
  have lD := D11.lt
  have lX := X11.lt
  have s11 := b011.size
  have HV := Lib.hid V11
  have HB := Lib.hid B11
  clear V11 B11 D11 X11
  go_wp2_with fail
  have ba : ∀ z, Below w11.heap.size w11 (w11.alloc (.cells z 25 (0, 0))) := fun z => (Below.refl _ _).alloc (Nat.le_refl _) _
  refine (rSame d (.slice (some ⟨q, 0, none⟩) d.body.length d.body.length) (.slice x5 d.body.length c5) _ ((BodyAt.below (.inr ⟨q, 0, d.body.length, rfl, hl.1, Nat.le_refl _, by omega, HB.out⟩) (ba _))) (HV.out.below (ba _))).mono ?_; rintro e' w12 ⟨rfl, b12⟩
  have b012 := b011.trans (((ba _).mono s11).trans (b12.below.mono (by simp; omega)))
  go_wp2_with fail
  go_ret
  exact ⟨rfl, b012⟩

/-! ### the row's step -/
set_option maxRecDepth 100000 in
theorem lifted (os : Os) (started : os.Started) (H : Type) (enc : TypeId × Value → H) :
    ReturnsInHanded {} Try.checked os 5 .any (Rows.headBackSpec.pre6 enc Try.prog Try.f5 Rows.headBackRow.domain false) (Rows.headBackSpec.post enc Try.prog Try.f5 false true false false) := by
  refine returnsInHanded_of_change (C := Try.checked) own started (by kernel_rfl) Try.func5
    (ChangeSpec.witness6 (enc := enc) (C := Try.checked) false ⟨#[], #[.int .u64 0, .int .u64 0, .int .u64 0, .int .u16 0, .int .u16 0, .int .i64 0, .int .u8 0], []⟩ 8 (by kernel_rfl) (by kernel_rfl) (by kernel_rfl) (by kernel_rfl)) ?_
  intro W base args ds gs before hval0 hW hcnd _
  have hval : ∀ (j : Nat) t v, Try.f5.params[j]? = some t → args[j]? = some v → Value.okWide Try.prog W .any base t v := hval0
  have hW' := hW
  obtain ⟨p, q, hA0, hV, rfl, hfz, hnd⟩ := hW
  have hA : DataW.TrodAll enc Try.prog W 0 (fun _ => true) true Try.f5.params.toList args.toList ds p := hA0
  rw [Try.params5] at hA hval
  obtain ⟨v0, vs0, d0, ds0, p0, q0, hargs, rfl, rfl, h0, r0⟩ := trodAll_cons hA
  obtain ⟨v1, vs1, d1, ds1, p1, q1, rfl, rfl, rfl, h1, r1⟩ := trodAll_cons r0
  obtain ⟨v2, vs2, d2, ds2, p2, q2, rfl, rfl, rfl, h2, r2⟩ := trodAll_cons r1
  obtain ⟨v3, vs3, d3, ds3, p3, q3, rfl, rfl, rfl, h3, r3⟩ := trodAll_cons r2
  obtain ⟨v4, vs4, d4, ds4, p4, q4, rfl, rfl, rfl, h4, r4⟩ := trodAll_cons r3
  obtain ⟨v5, vs5, d5, ds5, p5, q5, rfl, rfl, rfl, h5, r5⟩ := trodAll_cons r4
  obtain ⟨v6, vs6, d6, ds6, p6, q6, rfl, rfl, rfl, h6, r6⟩ := trodAll_cons r5
  obtain ⟨rfl, rfl, rfl⟩ := trodAll_nil r6
  obtain rfl : args = #[v0, v1, v2, v3, v4, v5, v6] := by cases args; simp_all
  obtain ⟨rfl, rfl⟩ := trodVars_none hV
  obtain ⟨a0, rfl, rfl, rfl, w0⟩ := open_int Try.underlying22 (hval 0 22 v0 rfl rfl) h0
  obtain ⟨a1, rfl, rfl, rfl, w1⟩ := open_int Try.underlying22 (hval 1 22 v1 rfl rfl) h1
  obtain ⟨a2, rfl, rfl, rfl, w2⟩ := open_int Try.underlying22 (hval 2 22 v2 rfl rfl) h2
  obtain ⟨a3, rfl, rfl, rfl, w3⟩ := open_int Try.underlying38 (hval 3 38 v3 rfl rfl) h3
  obtain ⟨a4, rfl, rfl, rfl, w4⟩ := open_int Try.underlying38 (hval 4 38 v4 rfl rfl) h4
  obtain ⟨a5, rfl, rfl, rfl, w5⟩ := open_int Try.underlying3 (hval 5 3 v5 rfl rfl) h5
  obtain ⟨a6, rfl, rfl, rfl, w6⟩ := open_int Try.underlying5 (hval 6 5 v6 rfl rfl) h6
  clear hA0 hval0
  refine (walk a0 a1 a2 a3 a4 a5 a6 W (wfU64 w0) (wfU64 w1) (wfU64 w2) (wfU16 w3) (wfU16 w4) (wfI64 w5) (wfU8 w6)).mono fun e W' ⟨he, bel⟩ => ?_
  subst he
  exact ⟨_, rfl, _, _, _, [], _, [], hW', trodAll_mk1 (shut_bool Try.underlying4 _), (trodAll_cons_mk (shut_int Try.underlying22 w0) (trodAll_cons_mk (shut_int Try.underlying22 w1) (trodAll_cons_mk (shut_int Try.underlying22 w2) (trodAll_cons_mk (shut_int Try.underlying38 w3) (trodAll_cons_mk (shut_int Try.underlying38 w4) (trodAll_cons_mk (shut_int Try.underlying3 w5) (trodAll_cons_mk (shut_int Try.underlying5 w6) trodAll_mk0))))))), rfl, bel.frame _, fun h => by cases h⟩

theorem over : Rows.headBackRow.holds Try.pinned (OpenSpec.ofChange Rows.headBackSpec) :=
  OpenClaim.holds_of_wide 5 Try.f5 rfl rfl rfl rfl rfl rfl rfl ⟨rfl, rfl, rfl, rfl, rfl⟩ rfl rfl rfl rfl rfl (by kernel_rfl) Try.func5 (by kernel_rfl)
    (of_decide_eq_true (by kernel_rfl)) (by unfold Func.isWrapper; first | (rw [if_pos (by decide +kernel)]; kernel_rfl) | (rw [if_neg (by decide +kernel)]; exact ⟨rfl, rfl⟩))
    (fun os started H enc _ => lifted os started H enc)

/-- THE STATEMENT -/
theorem proved : Rows.HeadBackSaid := over
end Go.Proofs.Ytofggpmllfhgaaa.headBack
