/- For all numbers and slices raw of bytes, HeadMarks returns true: a mark takes the coin of a packet and nothing else, and bytes that are no packet have none. No condition. -/
import Derived.Test.YtofggpmllfhgaaaBase
import Derived.SizedLaws
import Derived.Test.YtofggpmllfhgaaaAliveHead
import Derived.Test.YtofggpmllfhgaaaHeadMark
import Derived.Test.YtofggpmllfhgaaaHeadData
namespace Go.Proofs.Ytofggpmllfhgaaa.headMarks
open Go.ChangeShapes Go.WideShapes Go.ChangeAt Go.RowKit Go.Lib
set_option linter.unusedVariables false
set_option maxRecDepth 100000

theorem body_len {d : Dat} (h : MayD d) : 0 < (putD d).length := by simp [putD]

theorem body_of_row {w : World} {a : Option Addr} {len cap : Nat} {z : List Int} (h : IsRow .u8 w a len cap z) : ∃ bs, BodyAt w (.slice a len cap) bs ∧ (∀ x ∈ bs, 0 ≤ x ∧ x ≤ 255) ∧ bs.length ≤ cap := by
  rcases h with ⟨rfl, rfl, rfl, rfl⟩ | ⟨x, rfl, hl, hm, hz, hc, hw⟩
  · exact ⟨[], .inl ⟨none, 0, rfl, fun _ => rfl, rfl⟩, by simp, by simp⟩
  · by_cases h0 : len = 0
    · subst h0
      exact ⟨[], .inl ⟨some x, cap, rfl, (fun e => by cases e), rfl⟩, by simp, by simp⟩
    · obtain ⟨b, off, spot⟩ := x
      have h1 := hc 0 (by omega)
      obtain ⟨p1, p2⟩ := cell_plain h1
      have hs : spot = none := by simpa [Addr.add] using p1
      subst hs
      have ht : (z.take len).length = len := by rw [List.length_take]; omega
      refine ⟨z.take len, .inr ⟨b, off, cap, by rw [ht], by omega, by omega, by unfold maxLen at hm; omega, by simpa [Addr.add] using p2, fun i hi => ?_⟩, fun y hy => wfU8 (hw y (List.mem_of_mem_take hy)), by omega⟩
      rw [ht] at hi
      have h2 := hc i (by omega)
      rw [addr_add] at h2
      rw [h2, List.getD_eq_getElem?_getD, List.getD_eq_getElem?_getD, List.getElem?_take, if_pos (by omega)]

theorem BytesAt.set' {w : World} {q o : Nat} {xs : List Int} (h : BytesAt w q o xs) (hx : 1 ≤ xs.length) (a : Addr) (hne : ∀ j x, w.cell? ⟨a.block, j, none⟩ ≠ some (.int .u8 x)) (u : Value) : BytesAt (w.setCell a u) q o xs := by
  refine BytesAt.set h a (fun e => ?_) u
  exact hne _ _ (by rw [e]; exact h.2 0 (by omega))
theorem BodyAt.set' {w : World} {v : Value} {xs : List Int} (h : BodyAt w v xs) (a : Addr) (hne : ∀ j x, w.cell? ⟨a.block, j, none⟩ ≠ some (.int .u8 x)) (u : Value) : BodyAt (w.setCell a u) v xs := by
  rcases h with h | ⟨g, o, c, h1, h2, h3, h4, h5⟩
  · exact .inl h
  · exact .inr ⟨g, o, c, h1, h2, h3, h4, BytesAt.set' h5 h2 a hne u⟩

/-- what a mark gives of any bytes, here and there -/
theorem markAny (bv : Value) (bs : List Int) (hb : ∀ x ∈ bs, 0 ≤ x ∧ x ≤ 255) (hlen : bs.length ≤ 140737488351232) :
    ∃ (ms : List Int) (ok : Bool), (∀ (w : World), BodyAt w bv bs → Calls Try.prog 23 #[bv] w fun e w' => ∃ v, e = .returned (.tuple #[v, .bool ok]) ∧ Below w.heap.size w w' ∧ BodyAt w' v ms) ∧
      (∀ (w : World), BodyAt w bv bs → Calls Try.prog 24 #[bv] w fun e w' => ∃ v, e = .returned (.tuple #[v, .bool ok]) ∧ Below w.heap.size w w' ∧ BodyAt w' v ms) := by
  obtain ⟨E, d, hG⟩ : ∃ E d, getF bs = (E, d) := ⟨_, _, rfl⟩
  by_cases hE : E = 0
  · subst hE
    obtain ⟨hd, _⟩ := getF_ok bs hb d hG
    have hl := body_len hd.mark
    refine ⟨putD (markD d), true, fun w hB => ?_, fun w hB => ?_⟩
    · refine (hMarkYes bv bs hb hlen w hB d hG).mono fun e w' ⟨v, he, hbel, hown⟩ => ?_
      obtain ⟨g, c, rfl, hg, hc, hm, B⟩ := ownBytes hown hl
      exact ⟨_, he, hbel, .inr ⟨g, 0, c, rfl, hl, hc, hm, B⟩⟩
    · refine (rMarkYes bv bs hb hlen w hB d hG).mono fun e w' ⟨v, he, hbel, hown⟩ => ?_
      obtain ⟨g, c, rfl, hg, hc, hm, B⟩ := ownBytes hown hl
      exact ⟨_, he, hbel, .inr ⟨g, 0, c, rfl, hl, hc, hm, B⟩⟩
  · refine ⟨[], false, fun w hB => ?_, fun w hB => ?_⟩
    · exact (hMarkNo bv bs hb hlen w hB E d hG hE).mono fun e w' ⟨he, hbel⟩ => ⟨_, he, hbel, .inl ⟨none, 0, rfl, fun _ => rfl, rfl⟩⟩
    · exact (rMarkNo bv bs hb hlen w hB E d hG hE).mono fun e w' ⟨he, hbel⟩ => ⟨_, he, hbel, .inl ⟨none, 0, rfl, fun _ => rfl, rfl⟩⟩

set_option maxHeartbeats 4000000 in
theorem walkAny (a0 a1 a2 a3 a4 : Int) (rv : Value) (rs : List Int) (hrs : ∀ x ∈ rs, 0 ≤ x ∧ x ≤ 255) (hrl : rs.length ≤ 140737488351232) (w : World) (w0 : W64 a0) (w1 : W64 a1) (w2 : W64 a2) (w3 : 0 ≤ a3 ∧ a3 ≤ 65535) (w4 : -9223372036854775808 ≤ a4 ∧ a4 ≤ 9223372036854775807) (RW : BodyAt w rv rs) :
    Calls Try.prog 7 #[.int .u64 a0, .int .u64 a1, .int .u64 a2, .int .u16 a3, .int .i64 a4, rv] w fun e w' => e = .returned (.bool true) ∧ Below w.heap.size w w' := by
  have W0 := Lib.hid w0
  have W1 := Lib.hid w1
  have W2 := Lib.hid w2
  have W3 := Lib.hid w3
  have W4 := Lib.hid w4
  obtain ⟨rm, rok, hMR, hRR⟩ := markAny rv rs hrs hrl
  have HMR := Lib.hid hMR
  have HRR := Lib.hid hRR
  clear w0 w1 w2 w3 w4 hMR hRR hrs
  go_enter Try.func7, Try.ntmps7
  go_wp2_with fail
  refine (gData a0 a1 a2 a3 a4 W0.out W1.out W2.out W3.out W4.out _).mono ?_; rintro e' w1 ⟨d, q, rfl, hd, hby, b01, B1⟩
  have R1 := RW.below b01
  have SB1 := b01.size
  unfold dataV
  go_wp2_with fail
  obtain ⟨w2, hw2⟩ : ∃ w2, w2 = w1.alloc (.cells #[.int .u64 d.pn, .int .u64 d.least, .int .u64 d.off, .int .u64 d.x, .int .i64 d.ecn, .slice (some ⟨q, 0, none⟩) d.body.length d.body.length] 25 (0, 0)) := ⟨_, rfl⟩
  have b12 : Below w1.heap.size w1 w2 := by rw [hw2]; exact (Below.refl _ _).alloc (Nat.le_refl _) _
  have D2 : DatAt w2 w1.heap.size (.int .u64 d.pn) (.int .u64 d.least) (.int .u64 d.off) (.int .u64 d.x) (.int .i64 d.ecn) (.slice (some ⟨q, 0, none⟩) d.body.length d.body.length) := by rw [hw2]; exact heap_alloc_new w1 _
  have b02 := b01.trans (b12.mono b01.size)
  have B2 := B1.below b12
  clear B1
  have R2 := R1.below b12
  clear R1
  rw [← hw2]
  clear hw2 b12 b01
  have hl := hd.len
  refine (hEncode d hd q 0 d.body.length ⟨Nat.le_refl _, by omega⟩ _ B2).mono ?_; rintro e' w3 ⟨v3, rfl, b23, own3⟩
  obtain ⟨g, c, rfl, hg, hc, hm, E3'⟩ := ownBytes own3 (body_len hd)
  have E3 : BodyAt w3 (.slice (some ⟨g, 0, none⟩) (putD d).length c) (putD d) := .inr ⟨g, 0, c, rfl, body_len hd, hc, hm, E3'⟩
  clear own3 E3'
  have b03 := b02.trans (b23.mono b02.size)
  have B3 := B2.below b23
  clear B2
  have D3 := D2.belowB D2.lt b23
  clear D2
  have R3 := R2.below b23
  clear R2
  clear b23 b02
  have ybs := putD_byte d hd hby
  have yms := putD_byte (markD d) hd.mark hby
  have hN := hd.size
  have hM := hd.mark.size
  have hMl := body_len hd.mark
  have G0 := getF_put d hd
  have G1 := getF_put (markD d) hd.mark
  have hmm : markD (markD d) = markD d := rfl
  obtain ⟨bs, hbs⟩ : ∃ l, l = putD d := ⟨_, rfl⟩
  obtain ⟨ms, hms⟩ : ∃ l, l = putD (markD d) := ⟨_, rfl⟩
  rw [← hbs] at E3 ybs hN G0 ⊢
  rw [← hms] at yms hM G1 hMl
  have HMS := Lib.hid hms
  have YB := Lib.hid ybs
  have YM := Lib.hid yms
  have HG0 := Lib.hid G0
  have HG1 := Lib.hid G1
  have HBY := Lib.hid hby
  have HD := Lib.hid hd
  clear hbs hms ybs yms G0 G1 hby hd
  obtain ⟨N, hNN⟩ : ∃ N, bs.length = N := ⟨_, rfl⟩
  rw [hNN] at E3 hN ⊢
  go_wp2_with fail
  refine (aliveHead _).mono ?_; rintro e' w4 ⟨rfl, b34⟩
  have b04 := b03.trans (b34.mono b03.size)
  have B4 := B3.below b34
  clear B3
  have D4 := D3.belowB D3.lt b34
  clear D3
  have R4 := R3.below b34
  clear R3
  have E4 := E3.below b34
  clear E3
  clear b34 b03
  go_wp2_with fail
  refine (hMarkYes _ bs YB.out (by omega) _ E4 d HG0.out).mono ?_; rintro e' w5 ⟨v5, rfl, b45, own5⟩
  rw [← HMS.out] at own5
  obtain ⟨g5, c5, rfl, hg5, hc5, hm5, M5'⟩ := ownBytes own5 hMl
  have M5 : BodyAt w5 (.slice (some ⟨g5, 0, none⟩) ms.length c5) ms := .inr ⟨g5, 0, c5, rfl, hMl, hc5, hm5, M5'⟩
  clear own5 M5'
  have b05 := b04.trans (b45.mono b04.size)
  have B5 := B4.below b45
  clear B4
  have D5 := D4.belowB D4.lt b45
  clear D4
  have R5 := R4.below b45
  clear R4
  have E5 := E4.below b45
  clear E4
  clear b45 b04
  obtain ⟨d0, d1, d2, d3, d4, d5⟩ := D5.cells.1
  have y4 := D5.cells.2 4
  obtain ⟨P, hP⟩ : ∃ P, P = w1.heap.size := ⟨_, rfl⟩
  have hwP : w.heap.size ≤ P := by rw [hP]; exact SB1
  have HP := Lib.hid hP
  rw [← hP] at D5 d0 d1 d2 d3 d4 d5 y4 ⊢
  clear hP
  go_wp2_with fail
  obtain ⟨w6, hw6⟩ : ∃ w6, w6 = w5.setCell ⟨P, 4, none⟩ (.int .i64 3) := ⟨_, rfl⟩
  have D6 : DatAt w6 P (.int .u64 d.pn) (.int .u64 d.least) (.int .u64 d.off) (.int .u64 d.x) (.int .i64 3) (.slice (some ⟨q, 0, none⟩) d.body.length d.body.length) := by rw [hw6]; exact heap_set_self _ _ _ _ _ _ _ D5
  have nb := D5.noByte (by decide)
  have B6 : BytesAt w6 q 0 d.body := by rw [hw6]; exact BytesAt.set' B5 hl.1 _ nb _
  have R6 : BodyAt w6 rv rs := by rw [hw6]; exact BodyAt.set' R5 _ nb _
  have M6 : BodyAt w6 (.slice (some ⟨g5, 0, none⟩) ms.length c5) ms := by rw [hw6]; exact BodyAt.set' M5 _ nb _
  have b06 : Below w.heap.size w w6 := by rw [hw6]; exact Below.setCell b05 (by simpa using hwP) _
  rw [← hw6]
  clear hw6 B5 R5 M5 D5 b05 nb d0 d1 d2 d3 d4 d5 y4
  refine (hDecode _ ms YM.out (by omega) _ M6 0 (markD d) HG1.out).mono ?_; rintro e' w7 ⟨v7, rfl, b67, V7⟩
  obtain ⟨x7, c7, hv7⟩ := V7.form
  subst hv7
  have b07 := b06.trans (b67.mono b06.size)
  have B7 := B6.below b67
  clear B6
  have D7 := D6.belowB D6.lt b67
  clear D6
  have R7 := R6.below b67
  clear R6
  have M7 := M6.below b67
  clear M6
  clear b67 b06
  unfold dataV
  go_wp2_with fail
  obtain ⟨w8, hw8⟩ : ∃ w8, w8 = w7.alloc (.cells #[.int .u64 (markD d).pn, .int .u64 (markD d).least, .int .u64 (markD d).off, .int .u64 (markD d).x, .int .i64 (markD d).ecn, .slice x7 (markD d).body.length c7] 25 (0, 0)) := ⟨_, rfl⟩
  have b78 : Below w7.heap.size w7 w8 := by rw [hw8]; exact (Below.refl _ _).alloc (Nat.le_refl _) _
  have X8 : DatAt w8 w7.heap.size (.int .u64 (markD d).pn) (.int .u64 (markD d).least) (.int .u64 (markD d).off) (.int .u64 (markD d).x) (.int .i64 (markD d).ecn) (.slice x7 (markD d).body.length c7) := by rw [hw8]; exact heap_alloc_new w7 _
  have b08 := b07.trans (b78.mono b07.size)
  have B8 := B7.below b78
  clear B7
  have D8 := D7.belowB D7.lt b78
  clear D7
  have R8 := R7.below b78
  clear R7
  have M8 := M7.below b78
  clear M7
  have V8 := V7.below b78
  clear V7
  rw [← hw8]
  clear hw8 b78 b07
  refine (hMarkYes _ ms YM.out (by omega) _ M8 (markD d) HG1.out).mono ?_; rintro e' w9 ⟨v9, rfl, b89, own9⟩
  rw [hmm, ← HMS.out] at own9
  obtain ⟨g9, c9, rfl, hg9, hc9, hm9, A9'⟩ := ownBytes own9 hMl
  have A9 : BodyAt w9 (.slice (some ⟨g9, 0, none⟩) ms.length c9) ms := .inr ⟨g9, 0, c9, rfl, hMl, hc9, hm9, A9'⟩
  clear own9 A9'
  have b09 := b08.trans (b89.mono b08.size)
  have B9 := B8.below b89
  clear B8
  have D9 := D8.belowB D8.lt b89
  clear D8
  have R9 := R8.below b89
  clear R8
  have M9 := M8.below b89
  clear M8
  have V9 := V8.below b89
  clear V8
  have X9 := X8.belowB X8.lt b89
  clear X8
  clear b89 b08
  go_wp2_with fail
  refine (HMR.out _ R9).mono ?_; rintro e' w10 ⟨v10, rfl, b910, S10⟩
  obtain ⟨x10, c10, hv10⟩ := S10.form
  subst hv10
  have b010 := b09.trans (b910.mono b09.size)
  have B10 := B9.below b910
  clear B9
  have D10 := D9.belowB D9.lt b910
  clear D9
  have R10 := R9.below b910
  clear R9
  have M10 := M9.below b910
  clear M9
  have V10 := V9.below b910
  clear V9
  have X10 := X9.belowB X9.lt b910
  clear X9
  have A10 := A9.below b910
  clear A9
  clear b910 b09
  go_wp2_with fail
  refine (HRR.out _ R10).mono ?_; rintro e' w11 ⟨v11, rfl, b1011, U11⟩
  obtain ⟨x11, c11, hv11⟩ := U11.form
  subst hv11
  have b011 := b010.trans (b1011.mono b010.size)
  have B11 := B10.below b1011
  clear B10
  have D11 := D10.belowB D10.lt b1011
  clear D10
  have R11 := R10.below b1011
  clear R10
  have M11 := M10.below b1011
  clear M10
  have V11 := V10.below b1011
  clear V10
  have X11 := X10.belowB X10.lt b1011
  clear X10
  have A11 := A10.below b1011
  clear A10
  have S11 := S10.below b1011
  clear S10
  clear b1011 b010
  obtain ⟨d0, d1, d2, d3, d4, d5⟩ := D11.cells.1
  obtain ⟨k0, k1, k2, k3, k4, k5⟩ := X11.cells.1
  have s11 := b011.size
  have hBB : BodyAt w11 (.slice (some ⟨q, 0, none⟩) d.body.length d.body.length) (markD d).body := .inr ⟨q, 0, d.body.length, rfl, hl.1, Nat.le_refl _, by omega, B11⟩
  have HV := Lib.hid V11
  have HBB := Lib.hid hBB
  have HM := Lib.hid M11
  have HA := Lib.hid A11
  have HS := Lib.hid S11
  have HU := Lib.hid U11
  clear V11 B11 D11 X11 hBB M11 A11 S11 U11 R11
  go_wp2_with fail
  refine (rSame (markD d) (.slice x7 (markD d).body.length c7) (.slice (some ⟨q, 0, none⟩) d.body.length d.body.length) _ HV.out HBB.out).mono ?_; rintro e' w12 ⟨rfl, b12⟩
  have b12' := b12.below
  have b012 := b011.trans (b12'.mono s11)
  have M12 := HM.out.below b12'
  have A12 := HA.out.below b12'
  have S12 := HS.out.below b12'
  have U12 := HU.out.below b12'
  clear b12 b12'
  have HM2 := Lib.hid M12
  have HA2 := Lib.hid A12
  have HS2 := Lib.hid S12
  have HU2 := Lib.hid U12
  clear M12 A12 S12 U12
  clear HMR HRR HM HA HS HU HV HBB
  cases rok
  · go_wp2_with (first
      | (refine wpList_convAny (by rfl) (.tmp 83) rfl _ rfl ms HA2.out ?_)
      | (refine wpList_convAny (by rfl) (.tmp 85) rfl _ rfl ms HM2.out ?_)
      | (refine wpList_convAny (by rfl) (.tmp 95) rfl _ rfl rm HS2.out ?_)
      | (refine wpList_convAny (by rfl) (.tmp 97) rfl _ rfl rm HU2.out ?_))
    go_ret
    exact ⟨rfl, b012⟩
  · go_wp2_with (first
      | (refine wpList_convAny (by rfl) (.tmp 83) rfl _ rfl ms HA2.out ?_)
      | (refine wpList_convAny (by rfl) (.tmp 85) rfl _ rfl ms HM2.out ?_)
      | (refine wpList_convAny (by rfl) (.tmp 95) rfl _ rfl rm HS2.out ?_)
      | (refine wpList_convAny (by rfl) (.tmp 97) rfl _ rfl rm HU2.out ?_))
    go_ret
    exact ⟨rfl, b012⟩

theorem walk (a0 a1 a2 a3 a4 : Int) (a5 : Option Addr) (len5 cap5 : Nat) (z5 : List Int) (w : World) (w0 : W64 a0) (w1 : W64 a1) (w2 : W64 a2) (w3 : 0 ≤ a3 ∧ a3 ≤ 65535) (w4 : -9223372036854775808 ≤ a4 ∧ a4 ≤ 9223372036854775807) (w5 : IsRow .u8 w a5 len5 cap5 z5) (s5 : cap5 ≤ 140737488351232) :
    Calls Try.prog 7 #[.int .u64 a0, .int .u64 a1, .int .u64 a2, .int .u16 a3, .int .i64 a4, .slice a5 len5 cap5] w fun e w' => e = .returned (.bool true) ∧ Below w.heap.size w w' := by
  obtain ⟨bs, hB, hb, hl⟩ := body_of_row w5
  exact walkAny a0 a1 a2 a3 a4 _ bs hb (by omega) w w0 w1 w2 w3 w4 hB

/-! ### the row's step -/
set_option maxRecDepth 100000 in
theorem lifted (os : Os) (started : os.Started) (H : Type) (enc : TypeId × Value → H) :
    ReturnsInHanded {} Try.checked os 7 .any (Rows.headMarksSpec.pre6 enc Try.prog Try.f7 Rows.headMarksRow.domain false) (Rows.headMarksSpec.post enc Try.prog Try.f7 false true false false) := by
  refine returnsInHanded_of_change_sized (C := Try.checked) own started (by kernel_rfl) Try.func7
    (ChangeSpec.witness6 (enc := enc) (C := Try.checked) false ⟨#[], #[.int .u64 0, .int .u64 0, .int .u64 0, .int .u16 0, .int .i64 0, .slice none 0 0], []⟩ 8 (by kernel_rfl) (by kernel_rfl) (by kernel_rfl) (by kernel_rfl)) ?_
  intro W base args ds gs before hval0 hW hcnd hsz0 _
  have hsz : (DataW.weightsEach Try.prog (Try.f7.params.toList ++ Rows.headMarksSpec.plain.varTypes Try.prog) (ds ++ gs)).all (· ≤ reachBytes) = true := hsz0
  clear hsz0
  have hval : ∀ (j : Nat) t v, Try.f7.params[j]? = some t → args[j]? = some v → Value.okWide Try.prog W .any base t v := hval0
  have hW' := hW
  obtain ⟨p, q, hA0, hV, rfl, hfz, hnd⟩ := hW
  have hA : DataW.TrodAll enc Try.prog W 0 (fun _ => true) true Try.f7.params.toList args.toList ds p := hA0
  rw [Try.params7] at hA hval hsz
  obtain ⟨v0, vs0, d0, ds0, p0, q0, hargs, rfl, rfl, h0, r0⟩ := trodAll_cons hA
  obtain ⟨v1, vs1, d1, ds1, p1, q1, rfl, rfl, rfl, h1, r1⟩ := trodAll_cons r0
  obtain ⟨v2, vs2, d2, ds2, p2, q2, rfl, rfl, rfl, h2, r2⟩ := trodAll_cons r1
  obtain ⟨v3, vs3, d3, ds3, p3, q3, rfl, rfl, rfl, h3, r3⟩ := trodAll_cons r2
  obtain ⟨v4, vs4, d4, ds4, p4, q4, rfl, rfl, rfl, h4, r4⟩ := trodAll_cons r3
  obtain ⟨v5, vs5, d5, ds5, p5, q5, rfl, rfl, rfl, h5, r5⟩ := trodAll_cons r4
  obtain ⟨rfl, rfl, rfl⟩ := trodAll_nil r5
  obtain rfl : args = #[v0, v1, v2, v3, v4, v5] := by cases args; simp_all
  obtain ⟨rfl, rfl⟩ := trodVars_none hV
  obtain ⟨a0, rfl, rfl, rfl, w0⟩ := open_int Try.underlying22 (hval 0 22 v0 rfl rfl) h0
  obtain ⟨a1, rfl, rfl, rfl, w1⟩ := open_int Try.underlying22 (hval 1 22 v1 rfl rfl) h1
  obtain ⟨a2, rfl, rfl, rfl, w2⟩ := open_int Try.underlying22 (hval 2 22 v2 rfl rfl) h2
  obtain ⟨a3, rfl, rfl, rfl, w3⟩ := open_int Try.underlying38 (hval 3 38 v3 rfl rfl) h3
  obtain ⟨a4, rfl, rfl, rfl, w4⟩ := open_int Try.underlying3 (hval 4 3 v4 rfl rfl) h4
  obtain ⟨a5, len5, cap5, rfl⟩ := okWide_slice Try.underlying23 (hval 5 23 v5 rfl rfl)
  have k5 := h5
  have lt5 : ∀ x ∈ p5, x.block < W.heap.size := by obtain ⟨m, hm⟩ := k5; exact DataW.trod_lt m _ _ _ hm
  obtain ⟨z5, w5, s5⟩ : ∃ zs, IsRow .u8 W a5 len5 cap5 zs ∧ cap5 ≤ 140737488351232 := by
    obtain ⟨fuel, hf⟩ := h5
    rcases open_ints Try.underlying23 Try.underlying5 (by kernel_rfl) hf with ⟨hcs, _⟩ | ⟨x, l, c, zs, hcs, _, hl, hm, hz, hx, hcell, hwz⟩
    · simp [Value.cells] at hcs
      obtain ⟨rfl, rfl, rfl⟩ := hcs
      exact ⟨[], .inl ⟨rfl, rfl, rfl, rfl⟩, by omega⟩
    · simp [Value.cells] at hcs
      obtain ⟨rfl, rfl, rfl⟩ := hcs
      have hd := (Prod.mk.inj hx).1
      have hr := sized_slice hsz (j := 5) (t := 23) (e := 5) rfl (by rw [← hd]; rfl) Try.underlying23
      rw [show Try.prog.bytesOf 5 = 1 from by kernel_rfl] at hr
      simp only [lits, List.length_map, List.length_take, List.length_drop, reachBytes] at hr
      have hz' : zs.length = cap5 := by simpa using hz
      exact ⟨zs, .inr ⟨_, rfl, hl, hm, hz', hcell, hwz⟩, by omega⟩
  clear hA0 hval0
  refine (walk a0 a1 a2 a3 a4 a5 len5 cap5 z5 W (wfU64 w0) (wfU64 w1) (wfU64 w2) (wfU16 w3) (wfI64 w4) w5 s5).mono fun e W' ⟨he, bel⟩ => ?_
  subst he
  exact ⟨_, rfl, _, _, _, [], _, [], hW', trodAll_mk1 (shut_bool Try.underlying4 _), (trodAll_cons_mk (shut_int Try.underlying22 w0) (trodAll_cons_mk (shut_int Try.underlying22 w1) (trodAll_cons_mk (shut_int Try.underlying22 w2) (trodAll_cons_mk (shut_int Try.underlying38 w3) (trodAll_cons_mk (shut_int Try.underlying3 w4) (trodAll_cons_mk (Below.trod laidOut (by kernel_rfl) (of_decide_eq_true (by kernel_rfl)) k5 bel lt5) trodAll_mk0)))))), rfl, bel.frame _, fun h => by cases h⟩

theorem over : Rows.headMarksRow.holds Try.pinned (OpenSpec.ofChange Rows.headMarksSpec) :=
  OpenClaim.holds_of_wide 7 Try.f7 rfl rfl rfl rfl rfl rfl rfl ⟨rfl, rfl, rfl, rfl, rfl⟩ rfl rfl rfl rfl rfl (by kernel_rfl) Try.func7 (by kernel_rfl)
    (of_decide_eq_true (by kernel_rfl)) (by unfold Func.isWrapper; first | (rw [if_pos (by decide +kernel)]; kernel_rfl) | (rw [if_neg (by decide +kernel)]; exact ⟨rfl, rfl⟩))
    (fun os started H enc _ => lifted os started H enc)

/-- THE STATEMENT -/
theorem proved : Rows.HeadMarksSaid := over
end Go.Proofs.Ytofggpmllfhgaaa.headMarks
