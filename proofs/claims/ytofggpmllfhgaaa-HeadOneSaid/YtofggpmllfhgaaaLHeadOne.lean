/- For all numbers and slices b of bytes, HeadOne returns true: bytes that are a packet are its bytes, also where one of them was turned. No condition. -/
import Derived.Test.YtofggpmllfhgaaaBase
import Derived.SizedLaws
import Derived.Test.YtofggpmllfhgaaaAliveHead
import Derived.Test.YtofggpmllfhgaaaHeadSame
import Derived.Test.YtofggpmllfhgaaaHeadData
import Derived.Test.YtofggpmllfhgaaaHeadRput
namespace Go.Proofs.Ytofggpmllfhgaaa.headOne
open Go.ChangeShapes Go.WideShapes Go.ChangeAt Go.RowKit Go.Lib
set_option linter.unusedVariables false
set_option maxRecDepth 100000

theorem body_len {d : Dat} (h : MayD d) : 0 < (putD d).length := by simp [putD]

theorem body_of_row {w : World} {a : Option Addr} {len cap : Nat} {z : List Int} (h : IsRow .u8 w a len cap z) : ∃ bs, BodyAt w (.slice a len cap) bs ∧ (∀ x ∈ bs, 0 ≤ x ∧ x ≤ 255) ∧ bs.length ≤ cap := by
  rcases h with ⟨rfl, rfl, rfl, rfl⟩ | ⟨x, rfl, hl, hm, hz, hc, hw⟩
  · exact ⟨[], .inl ⟨none, 0, rfl, fun _ => rfl, rfl⟩, by simp, by simp⟩
  · by_cases h0 : len = 0
    · subst h0
      exact ⟨[], .inl ⟨some x, cap, rfl, (fun e => by cases e), rfl⟩, by simp, by simp⟩
    · obtain ⟨b, off, spot⟩ := x
      have h1 := hc 0 (by omega)
      obtain ⟨p1, p2⟩ := cell_plain h1
      have hs : spot = none := by simpa [Addr.add] using p1
      subst hs
      have ht : (z.take len).length = len := by rw [List.length_take]; omega
      refine ⟨z.take len, .inr ⟨b, off, cap, by rw [ht], by omega, by omega, by unfold maxLen at hm; omega, by simpa [Addr.add] using p2, fun i hi => ?_⟩, fun y hy => wfU8 (hw y (List.mem_of_mem_take hy)), by omega⟩
      rw [ht] at hi
      have h2 := hc i (by omega)
      rw [addr_add] at h2
      rw [h2, List.getD_eq_getElem?_getD, List.getD_eq_getElem?_getD, List.getElem?_take, if_pos (by omega)]

theorem BytesAt.put {w : World} {g : Nat} {xs : List Int} (h : BytesAt w g 0 xs) (J : Nat) (hJ : J < xs.length) (y : Int) : BytesAt (w.setCell ⟨g, J, none⟩ (.int .u8 y)) g 0 (xs.set J y) := by
  refine ⟨by simpa using h.1, fun i hi => ?_⟩
  rw [List.length_set] at hi
  by_cases e : i = J
  · subst e
    rw [Nat.zero_add, World.cell?_setCell_same _ _ _ (by have := h.2 i hi; rw [Nat.zero_add] at this; exact this)]
    simp [List.getD, hi]
  · rw [World.cell?_setCell_other _ _ _ _ (by intro h'; injection h' with _ h2; omega), h.2 i hi]
    simp [List.getD, List.getElem?_set_ne (Ne.symm e)]
theorem body_of_bytes {w : World} {g c : Nat} {xs : List Int} (h : BytesAt w g 0 xs) (h1 : 1 ≤ xs.length) (hc : xs.length ≤ c) (hm : c ≤ 9223372036854775807) : BodyAt w (.slice (some ⟨g, 0, none⟩) xs.length c) xs :=
  .inr ⟨g, 0, c, rfl, h1, hc, hm, h⟩

/-- what is written of what was read -/
theorem encAfter (bs : List Int) (hb : ∀ x ∈ bs, 0 ≤ x ∧ x ≤ 255) (E : Int) (d : Dat) (hG : getF bs = (E, d)) (x : Option Addr) (c : Nat) (w : World) (hv : BodyAt w (.slice x d.body.length c) d.body) (hz : E ≠ 0 → d = zeroD) :
    Calls Try.prog 15 #[dataV d (.slice x d.body.length c)] w fun e w' => ∃ v f, e = .returned (.tuple #[v, .int .i64 f]) ∧ Below w.heap.size w w' ∧ (E = 0 → f = 0 ∧ BodyAt w' v bs) := by
  by_cases hE : E = 0
  · subst hE
    obtain ⟨hd, hp⟩ := getF_ok bs hb d hG
    rcases hv with ⟨y, c', h1, _, h3⟩ | ⟨g, o, c', h1, h2, h3, h4, h5⟩
    · have := hd.len.1
      rw [h3] at this
      simp at this
    · injection h1 with h6 _ h7
      subst h6 h7
      refine (hEncode d hd g o c ⟨h3, h4⟩ w h5).mono fun e w' ⟨v, he, hbel, hown⟩ => ⟨v, 0, he, hbel, fun _ => ⟨rfl, ?_⟩⟩
      obtain ⟨q, qc, rfl, hq, hqc, hqm, B⟩ := ownBytes hown (body_len hd)
      rw [hp] at B hqc ⊢
      have hl := body_len hd
      rw [hp] at hl
      exact body_of_bytes B hl hqc hqm
  · rw [hz hE]
    exact (hEncodeNo 0 0 0 0 0 x 0 c (by decide) (by decide) (by decide) (by decide) (by unfold MayP; simp) w).mono fun e w' ⟨he, hgr⟩ => ⟨_, 1, he, hgr.below, fun h => absurd h hE⟩

theorem getF_no (bs : List Int) (E : Int) (d : Dat) (hG : getF bs = (E, d)) (hE : E ≠ 0) : d = zeroD := by
  rcases bs with _ | ⟨k, bs⟩
  · simp [getF] at hG; exact hG.2.symm
  rw [getF] at hG
  split at hG
  case isFalse => exact (congrArg Prod.snd hG).symm
  rcases bs with _ | ⟨c, zs⟩
  · exact (congrArg Prod.snd hG).symm
  rw [get0] at hG
  split at hG
  case isFalse => exact (congrArg Prod.snd hG).symm
  rw [get1] at hG
  split at hG
  case isFalse => exact (congrArg Prod.snd hG).symm
  rw [get2] at hG
  split at hG
  case isFalse => exact (congrArg Prod.snd hG).symm
  split at hG
  case isFalse => exact (congrArg Prod.snd hG).symm
  rw [get3] at hG
  split at hG
  case isFalse => exact (congrArg Prod.snd hG).symm
  rw [get4] at hG
  split at hG
  case isFalse => exact (congrArg Prod.snd hG).symm
  rw [get5] at hG
  split at hG
  case isFalse => exact (congrArg Prod.snd hG).symm
  split at hG
  case isFalse => exact (congrArg Prod.snd hG).symm
  rw [get6] at hG
  split at hG
  · exact (congrArg Prod.snd hG).symm
  split at hG
  · exact (congrArg Prod.snd hG).symm
  · exact absurd (congrArg Prod.fst hG).symm hE

set_option maxHeartbeats 4000000 in
theorem walkAny (a0 a1 a2 a3 a4 a5 : Int) (xr : Option Addr) (cr : Nat) (rs : List Int) (hrs : ∀ x ∈ rs, 0 ≤ x ∧ x ≤ 255) (hrl : rs.length ≤ 140737488351232) (w : World) (w0 : W64 a0) (w1 : W64 a1) (w2 : W64 a2) (w3 : 0 ≤ a3 ∧ a3 ≤ 65535) (w4 : 0 ≤ a4 ∧ a4 ≤ 65535) (w5 : 0 ≤ a5 ∧ a5 ≤ 255) (RW : BodyAt w (Value.slice xr rs.length cr) rs) :
    Calls Try.prog 6 #[.int .u64 a0, .int .u64 a1, .int .u64 a2, .int .u16 a3, .int .u16 a4, .int .u8 a5, (Value.slice xr rs.length cr)] w fun e w' => e = .returned (.bool true) ∧ Below w.heap.size w w' := by
  have W0 := Lib.hid w0
  have W1 := Lib.hid w1
  have W2 := Lib.hid w2
  have W3 := Lib.hid w3
  have W5 := Lib.hid w5
  have hw40 := w4.1
  have HRS := Lib.hid hrs
  clear w0 w1 w2 w3 w5 hrs
  go_enter Try.func6, Try.ntmps6
  go_wp2_with fail
  refine (gData a0 a1 a2 a3 a4 W0.out W1.out W2.out W3.out (by omega) _).mono ?_; rintro e' w1 ⟨d, q, rfl, hd, hby, b01, B1⟩
  have R1 := RW.below b01
  have RW' : ∀ g' o' c', (Value.slice xr rs.length cr) = .slice (some ⟨g', o', none⟩) rs.length c' → 1 ≤ rs.length → g' < w.heap.size := by
    intro g' o' c' h1 h2
    rcases RW with ⟨_, _, h, _, h'⟩ | ⟨g, o, c, h, _, _, _, h3⟩
    · rw [h'] at h2; simp at h2
    · rw [h] at h1; injection h1 with h4; injection h4 with h5; injection h5 with h6; rw [← h6]; exact h3.1
  have HRW := Lib.hid RW'
  clear RW'
  unfold dataV
  go_wp2_with fail
  obtain ⟨w2, hw2⟩ : ∃ w2, w2 = w1.alloc (.cells #[.int .u64 d.pn, .int .u64 d.least, .int .u64 d.off, .int .u64 d.x, .int .i64 d.ecn, .slice (some ⟨q, 0, none⟩) d.body.length d.body.length] 25 (0, 0)) := ⟨_, rfl⟩
  have b12 : Below w1.heap.size w1 w2 := by rw [hw2]; exact (Below.refl _ _).alloc (Nat.le_refl _) _
  have D2 : DatAt w2 w1.heap.size (.int .u64 d.pn) (.int .u64 d.least) (.int .u64 d.off) (.int .u64 d.x) (.int .i64 d.ecn) (.slice (some ⟨q, 0, none⟩) d.body.length d.body.length) := by rw [hw2]; exact heap_alloc_new w1 _
  have b02 := b01.trans (b12.mono b01.size)
  have B2 := B1.below b12
  clear B1
  have R2 := R1.below b12
  clear R1
  rw [← hw2]
  clear hw2 b12 b01
  have hl := hd.len
  refine (rPutData d hd q 0 d.body.length ⟨Nat.le_refl _, by omega⟩ _ B2).mono ?_; rintro e' w3 ⟨v3, rfl, b23, own3⟩
  obtain ⟨g, c, rfl, hg, hc, hm, E3⟩ := ownBytes own3 (body_len hd)
  have ff := fun j => own3.frozenAt j
  have b03 := b02.trans (b23.mono b02.size)
  have R3 := R2.below b23
  have s2 := b02.size
  clear own3 B2 D2 R2 b23 b02
  have ybs := putD_byte d hd hby
  have hN := hd.size
  have hl0 := body_len hd
  generalize putD d = bs at *
  obtain ⟨N, hNN⟩ : ∃ N, bs.length = N := ⟨_, rfl⟩
  rw [hNN] at hc hN hl0 ⊢
  clear hd hby hl
  obtain ⟨J, hJ⟩ : ∃ J : Nat, a4.tmod (N : Int) = (J : Int) := ⟨(a4 % (N : Int)).toNat, by have := Int.emod_nonneg a4 (show (N : Int) ≠ 0 by omega); rw [Int.tmod_eq_emod_of_nonneg hw40]; omega⟩
  have hJN : J < N := by
    rw [Int.tmod_eq_emod_of_nonneg hw40] at hJ
    have := Int.emod_lt_of_pos a4 (show (0 : Int) < (N : Int) by omega)
    omega
  have j1 : (J : Int) < (N : Int) := by omega
  have j2 : (0 : Int) ≤ (J : Int) := by omega
  have j5 : (N : Int) ≠ 0 := by omega
  have hq : bs[J]? = some (bs.getD J 0) := by rw [List.getD_eq_getElem?_getD, List.getElem?_eq_getElem (by omega)]; rfl
  have cJ : w3.cell? ⟨g, J, none⟩ = some (.int .u8 (bs.getD J 0)) := by have := E3.2 J (by omega); rwa [Nat.zero_add] at this
  have fJ := ff J
  have hy0 : 0 ≤ bs.getD J 0 ∧ bs.getD J 0 ≤ 255 := ybs _ (List.mem_of_getElem? hq)
  obtain ⟨y, hy⟩ : ∃ y, bits .xor .u8 (bs.getD J 0) a5 = y := ⟨_, rfl⟩
  have hyr : 0 ≤ y ∧ y ≤ 255 := by
    have h5 := W5.out
    rw [← hy, u8_xor _ _ hy0.1 (by omega) h5.1 (by omega)]
    have := Nat.xor_lt_two_pow (x := (bs.getD J 0).toNat) (y := a5.toNat) (n := 8) (by omega) (by omega)
    omega
  generalize bs.getD J 0 = z at *
  have i0 : ∀ (w : World) (p : Value), (Instr.index 41 (.agg #[(Value.slice xr rs.length cr), p]) (.int .i64 0)).run Try.prog w = .ok (Value.slice xr rs.length cr) w := fun _ _ => by kernel_rfl
  have i1 : ∀ (w : World) (p : Value), (Instr.index 41 (.agg #[(Value.slice xr rs.length cr), p]) (.int .i64 1)).run Try.prog w = .ok p w := fun _ _ => by kernel_rfl
  have YB := Lib.hid ybs
  have HE := Lib.hid E3
  have HYR := Lib.hid hyr
  clear ybs E3 ff hq hy0 hyr
  go_wp2_with fail
  obtain ⟨w4, hw4⟩ : ∃ w4, w4 = w3.setCell ⟨g, J, none⟩ (.int .u8 y) := ⟨_, rfl⟩
  have b04 : Below w.heap.size w w4 := by rw [hw4]; exact Below.setCell b03 (by simp; omega) _
  obtain ⟨cs, hcs⟩ : ∃ l, l = bs.set J y := ⟨_, rfl⟩
  have hcl : cs.length = N := by rw [hcs, List.length_set]; exact hNN
  have C4 : BodyAt w4 (.slice (some ⟨g, 0, none⟩) N c) cs := by
    have hB : BytesAt w4 g 0 cs := by rw [hw4, hcs]; exact BytesAt.put HE.out J (by omega) y
    rw [← hcl]
    exact body_of_bytes hB (by omega) (by omega) hm
  have R4 : BodyAt w4 (Value.slice xr rs.length cr) rs := by
    rw [hw4]
    rcases R3 with h | ⟨g', o', c', h1, h2, h3, h4, h5⟩
    · exact .inl h
    · refine .inr ⟨g', o', c', h1, h2, h3, h4, BytesAt.set h5 _ ?_ _⟩
      have hg' := (HRW.out g' o' c' h1 h2)
      simp only
      omega
  have hcsb : ∀ x ∈ cs, 0 ≤ x ∧ x ≤ 255 := by
    intro x hx
    rw [hcs] at hx
    rcases List.mem_or_eq_of_mem_set hx with h | h
    · exact YB.out x h
    · rw [h]; exact HYR.out
  rw [← hw4]
  clear hw4 hcs HE R3 b03 cJ fJ hy
  have HCS := Lib.hid hcsb
  clear hcsb
  obtain ⟨E0, d0, hG0⟩ : ∃ E d, getF rs = (E, d) := ⟨_, _, rfl⟩
  obtain ⟨E1, d1, hG1⟩ : ∃ E d, getF cs = (E, d) := ⟨_, _, rfl⟩
  have HG0 := Lib.hid hG0
  have HG1 := Lib.hid hG1
  clear hG0 hG1
  refine wp_loop_rounds 3 ?_
  rw [rounds_succ]
  go_wp2_with fail
  refine (hDecode (Value.slice xr rs.length cr) rs HRS.out (by omega) _ R4 E0 d0 HG0.out).mono ?_; rintro e' w5 ⟨v5, rfl, b45, V5⟩
  obtain ⟨x5, c5, hv5⟩ := V5.form
  subst hv5
  have b05 := b04.trans (b45.mono b04.size)
  have R5 := R4.below b45
  have C5 := C4.below b45
  clear R4 C4 b45 b04
  unfold dataV
  go_wp2_with fail
  have ba6 : ∀ z, Below w5.heap.size w5 (w5.alloc (.cells z 25 (0, 0))) := fun z => (Below.refl _ _).alloc (Nat.le_refl _) _
  refine (encAfter rs HRS.out E0 d0 HG0.out x5 c5 _ (V5.below (ba6 _)) (getF_no rs E0 d0 HG0.out)).mono ?_; rintro e' w7 ⟨v7, f7, rfl, b67, hf7⟩
  have b07 := b05.trans (((ba6 _).mono b05.size).trans (b67.mono (by have := b05.size; simp; omega)))
  have R7 := (R5.below (ba6 _)).below b67
  have C7 := (C5.below (ba6 _)).below b67
  have HF7 := Lib.hid hf7
  clear R5 C5 V5 b67 b05 ba6 hf7
  go_wp2_with fail
  refine (aliveHead _).mono ?_; rintro e' w8 ⟨rfl, b78⟩
  have b08 := b07.trans (b78.mono b07.size)
  have R8 := R7.below b78
  have C8 := C7.below b78
  by_cases hE0 : E0 = 0
  · obtain ⟨hf0, Z7⟩ := HF7.out hE0
    have Z8 := Z7.below b78
    have HR8 := Lib.hid R8
    have HC8 := Lib.hid C8
    have HZ8 := Lib.hid Z8
    subst hf0
    rw [hE0]
    clear b78 R7 C7 Z7 HF7 b07 R8 C8 Z8 hE0
    go_wp2_with (first
      | (refine wpList_convAny (by rfl) (.tmp 68) rfl _ rfl rs HZ8.out ?_)
      | (refine wpList_convAny (by rfl) (.tmp 70) rfl (Value.slice xr rs.length cr) rfl rs HR8.out ?_))
    have R8 := HR8.out
    have C8 := HC8.out
    rw [rounds_succ]
    go_wp2_with fail
    refine (hDecode (.slice (some ⟨g, 0, none⟩) N c) cs HCS.out (by omega) _ C8 E1 d1 HG1.out).mono ?_; rintro e' w9 ⟨v9, rfl, b89, V9⟩
    obtain ⟨x9, c9, hv9⟩ := V9.form
    subst hv9
    have b09 := b08.trans (b89.mono b08.size)
    have R9 := R8.below b89
    have C9 := C8.below b89
    clear R8 C8 b89 b08
    unfold dataV
    go_wp2_with fail
    have ba10 : ∀ z, Below w9.heap.size w9 (w9.alloc (.cells z 25 (0, 0))) := fun z => (Below.refl _ _).alloc (Nat.le_refl _) _
    refine (encAfter cs HCS.out E1 d1 HG1.out x9 c9 _ (V9.below (ba10 _)) (getF_no cs E1 d1 HG1.out)).mono ?_; rintro e' w11 ⟨v11, f11, rfl, b1011, hf11⟩
    have b011 := b09.trans (((ba10 _).mono b09.size).trans (b1011.mono (by have := b09.size; simp; omega)))
    have R11 := (R9.below (ba10 _)).below b1011
    have C11 := (C9.below (ba10 _)).below b1011
    have HF11 := Lib.hid hf11
    clear R9 C9 V9 b1011 b09 ba10 hf11
    go_wp2_with fail
    refine (aliveHead _).mono ?_; rintro e' w12 ⟨rfl, b1112⟩
    have b012 := b011.trans (b1112.mono b011.size)
    have R12 := R11.below b1112
    have C12 := C11.below b1112
    by_cases hE1 : E1 = 0
    · obtain ⟨hf0, Z11⟩ := HF11.out hE1
      have Z12 := Z11.below b1112
      have HR12 := Lib.hid R12
      have HC12 := Lib.hid C12
      have HZ12 := Lib.hid Z12
      subst hf0
      rw [hE1]
      clear b1112 R11 C11 Z11 HF11 b011 R12 C12 Z12 hE1
      go_wp2_with (first
        | (refine wpList_convAny (by rfl) (.tmp 68) rfl _ rfl cs HZ12.out ?_)
        | (refine wpList_convAny (by rfl) (.tmp 70) rfl (.slice (some ⟨g, 0, none⟩) N c) rfl cs HC12.out ?_))
      have R12 := HR12.out
      have C12 := HC12.out
      rw [rounds_succ]
      go_wp2_with fail
      refine (aliveHead _).mono ?_; rintro e' w13 ⟨rfl, b1213⟩
      go_wp2_with fail
      go_ret
      exact ⟨rfl, b012.trans (b1213.mono b012.size)⟩
    · have hE' : (E1 == 0) = false := by rw [beq_eq_false_iff_ne]; exact hE1
      clear b1112 R11 C11 HF11 b011
      have HR12 := Lib.hid R12
      have HC12 := Lib.hid C12
      clear R12 C12
      go_wp2_with fail
      have R12 := HR12.out
      have C12 := HC12.out
      rw [rounds_succ]
      go_wp2_with fail
      refine (aliveHead _).mono ?_; rintro e' w13 ⟨rfl, b1213⟩
      go_wp2_with fail
      go_ret
      exact ⟨rfl, b012.trans (b1213.mono b012.size)⟩
  · have hE' : (E0 == 0) = false := by rw [beq_eq_false_iff_ne]; exact hE0
    clear b78 R7 C7 HF7 b07
    have HR8 := Lib.hid R8
    have HC8 := Lib.hid C8
    clear R8 C8
    go_wp2_with fail
    have R8 := HR8.out
    have C8 := HC8.out
    rw [rounds_succ]
    go_wp2_with fail
    refine (hDecode (.slice (some ⟨g, 0, none⟩) N c) cs HCS.out (by omega) _ C8 E1 d1 HG1.out).mono ?_; rintro e' w9 ⟨v9, rfl, b89, V9⟩
    obtain ⟨x9, c9, hv9⟩ := V9.form
    subst hv9
    have b09 := b08.trans (b89.mono b08.size)
    have R9 := R8.below b89
    have C9 := C8.below b89
    clear R8 C8 b89 b08
    unfold dataV
    go_wp2_with fail
    have ba10 : ∀ z, Below w9.heap.size w9 (w9.alloc (.cells z 25 (0, 0))) := fun z => (Below.refl _ _).alloc (Nat.le_refl _) _
    refine (encAfter cs HCS.out E1 d1 HG1.out x9 c9 _ (V9.below (ba10 _)) (getF_no cs E1 d1 HG1.out)).mono ?_; rintro e' w11 ⟨v11, f11, rfl, b1011, hf11⟩
    have b011 := b09.trans (((ba10 _).mono b09.size).trans (b1011.mono (by have := b09.size; simp; omega)))
    have R11 := (R9.below (ba10 _)).below b1011
    have C11 := (C9.below (ba10 _)).below b1011
    have HF11 := Lib.hid hf11
    clear R9 C9 V9 b1011 b09 ba10 hf11
    go_wp2_with fail
    refine (aliveHead _).mono ?_; rintro e' w12 ⟨rfl, b1112⟩
    have b012 := b011.trans (b1112.mono b011.size)
    have R12 := R11.below b1112
    have C12 := C11.below b1112
    by_cases hE1 : E1 = 0
    · obtain ⟨hf0, Z11⟩ := HF11.out hE1
      have Z12 := Z11.below b1112
      have HR12 := Lib.hid R12
      have HC12 := Lib.hid C12
      have HZ12 := Lib.hid Z12
      subst hf0
      rw [hE1]
      clear b1112 R11 C11 Z11 HF11 b011 R12 C12 Z12 hE1
      go_wp2_with (first
        | (refine wpList_convAny (by rfl) (.tmp 68) rfl _ rfl cs HZ12.out ?_)
        | (refine wpList_convAny (by rfl) (.tmp 70) rfl (.slice (some ⟨g, 0, none⟩) N c) rfl cs HC12.out ?_))
      have R12 := HR12.out
      have C12 := HC12.out
      rw [rounds_succ]
      go_wp2_with fail
      refine (aliveHead _).mono ?_; rintro e' w13 ⟨rfl, b1213⟩
      go_wp2_with fail
      go_ret
      exact ⟨rfl, b012.trans (b1213.mono b012.size)⟩
    · have hE' : (E1 == 0) = false := by rw [beq_eq_false_iff_ne]; exact hE1
      clear b1112 R11 C11 HF11 b011
      have HR12 := Lib.hid R12
      have HC12 := Lib.hid C12
      clear R12 C12
      go_wp2_with fail
      have R12 := HR12.out
      have C12 := HC12.out
      rw [rounds_succ]
      go_wp2_with fail
      refine (aliveHead _).mono ?_; rintro e' w13 ⟨rfl, b1213⟩
      go_wp2_with fail
      go_ret
      exact ⟨rfl, b012.trans (b1213.mono b012.size)⟩

theorem walk (a0 a1 a2 a3 a4 a5 : Int) (a6 : Option Addr) (len6 cap6 : Nat) (z6 : List Int) (w : World) (w0 : W64 a0) (w1 : W64 a1) (w2 : W64 a2) (w3 : 0 ≤ a3 ∧ a3 ≤ 65535) (w4 : 0 ≤ a4 ∧ a4 ≤ 65535) (w5 : 0 ≤ a5 ∧ a5 ≤ 255) (w6 : IsRow .u8 w a6 len6 cap6 z6) (s6 : cap6 ≤ 140737488351232) :
    Calls Try.prog 6 #[.int .u64 a0, .int .u64 a1, .int .u64 a2, .int .u16 a3, .int .u16 a4, .int .u8 a5, .slice a6 len6 cap6] w fun e w' => e = .returned (.bool true) ∧ Below w.heap.size w w' := by
  obtain ⟨bs, hB, hb, hl⟩ := body_of_row w6
  obtain ⟨x, c, hx⟩ := hB.form
  have e := hx
  injection e with e1 e2 e3
  subst e1 e2 e3
  exact walkAny a0 a1 a2 a3 a4 a5 a6 cap6 bs hb (by omega) w w0 w1 w2 w3 w4 w5 hB

/-! ### the row's step -/
set_option maxRecDepth 100000 in
theorem lifted (os : Os) (started : os.Started) (H : Type) (enc : TypeId × Value → H) :
    ReturnsInHanded {} Try.checked os 6 .any (Rows.headOneSpec.pre6 enc Try.prog Try.f6 Rows.headOneRow.domain false) (Rows.headOneSpec.post enc Try.prog Try.f6 false true false false) := by
  refine returnsInHanded_of_change_sized (C := Try.checked) own started (by kernel_rfl) Try.func6
    (ChangeSpec.witness6 (enc := enc) (C := Try.checked) false ⟨#[], #[.int .u64 0, .int .u64 0, .int .u64 0, .int .u16 0, .int .u16 0, .int .u8 0, .slice none 0 0], []⟩ 8 (by kernel_rfl) (by kernel_rfl) (by kernel_rfl) (by kernel_rfl)) ?_
  intro W base args ds gs before hval0 hW hcnd hsz0 _
  have hsz : (DataW.weightsEach Try.prog (Try.f6.params.toList ++ Rows.headOneSpec.plain.varTypes Try.prog) (ds ++ gs)).all (· ≤ reachBytes) = true := hsz0
  clear hsz0
  have hval : ∀ (j : Nat) t v, Try.f6.params[j]? = some t → args[j]? = some v → Value.okWide Try.prog W .any base t v := hval0
  have hW' := hW
  obtain ⟨p, q, hA0, hV, rfl, hfz, hnd⟩ := hW
  have hA : DataW.TrodAll enc Try.prog W 0 (fun _ => true) true Try.f6.params.toList args.toList ds p := hA0
  rw [Try.params6] at hA hval hsz
  obtain ⟨v0, vs0, d0, ds0, p0, q0, hargs, rfl, rfl, h0, r0⟩ := trodAll_cons hA
  obtain ⟨v1, vs1, d1, ds1, p1, q1, rfl, rfl, rfl, h1, r1⟩ := trodAll_cons r0
  obtain ⟨v2, vs2, d2, ds2, p2, q2, rfl, rfl, rfl, h2, r2⟩ := trodAll_cons r1
  obtain ⟨v3, vs3, d3, ds3, p3, q3, rfl, rfl, rfl, h3, r3⟩ := trodAll_cons r2
  obtain ⟨v4, vs4, d4, ds4, p4, q4, rfl, rfl, rfl, h4, r4⟩ := trodAll_cons r3
  obtain ⟨v5, vs5, d5, ds5, p5, q5, rfl, rfl, rfl, h5, r5⟩ := trodAll_cons r4
  obtain ⟨v6, vs6, d6, ds6, p6, q6, rfl, rfl, rfl, h6, r6⟩ := trodAll_cons r5
  obtain ⟨rfl, rfl, rfl⟩ := trodAll_nil r6
  obtain rfl : args = #[v0, v1, v2, v3, v4, v5, v6] := by cases args; simp_all
  obtain ⟨rfl, rfl⟩ := trodVars_none hV
  obtain ⟨a0, rfl, rfl, rfl, w0⟩ := open_int Try.underlying22 (hval 0 22 v0 rfl rfl) h0
  obtain ⟨a1, rfl, rfl, rfl, w1⟩ := open_int Try.underlying22 (hval 1 22 v1 rfl rfl) h1
  obtain ⟨a2, rfl, rfl, rfl, w2⟩ := open_int Try.underlying22 (hval 2 22 v2 rfl rfl) h2
  obtain ⟨a3, rfl, rfl, rfl, w3⟩ := open_int Try.underlying38 (hval 3 38 v3 rfl rfl) h3
  obtain ⟨a4, rfl, rfl, rfl, w4⟩ := open_int Try.underlying38 (hval 4 38 v4 rfl rfl) h4
  obtain ⟨a5, rfl, rfl, rfl, w5⟩ := open_int Try.underlying5 (hval 5 5 v5 rfl rfl) h5
  obtain ⟨a6, len6, cap6, rfl⟩ := okWide_slice Try.underlying23 (hval 6 23 v6 rfl rfl)
  have k6 := h6
  have lt6 : ∀ x ∈ p6, x.block < W.heap.size := by obtain ⟨m, hm⟩ := k6; exact DataW.trod_lt m _ _ _ hm
  obtain ⟨z6, w6, s6⟩ : ∃ zs, IsRow .u8 W a6 len6 cap6 zs ∧ cap6 ≤ 140737488351232 := by
    obtain ⟨fuel, hf⟩ := h6
    rcases open_ints Try.underlying23 Try.underlying5 (by kernel_rfl) hf with ⟨hcs, _⟩ | ⟨x, l, c, zs, hcs, _, hl, hm, hz, hx, hcell, hwz⟩
    · simp [Value.cells] at hcs
      obtain ⟨rfl, rfl, rfl⟩ := hcs
      exact ⟨[], .inl ⟨rfl, rfl, rfl, rfl⟩, by omega⟩
    · simp [Value.cells] at hcs
      obtain ⟨rfl, rfl, rfl⟩ := hcs
      have hd := (Prod.mk.inj hx).1
      have hr := sized_slice hsz (j := 6) (t := 23) (e := 5) rfl (by rw [← hd]; rfl) Try.underlying23
      rw [show Try.prog.bytesOf 5 = 1 from by kernel_rfl] at hr
      simp only [lits, List.length_map, List.length_take, List.length_drop, reachBytes] at hr
      have hz' : zs.length = cap6 := by simpa using hz
      exact ⟨zs, .inr ⟨_, rfl, hl, hm, hz', hcell, hwz⟩, by omega⟩
  clear hA0 hval0
  refine (walk a0 a1 a2 a3 a4 a5 a6 len6 cap6 z6 W (wfU64 w0) (wfU64 w1) (wfU64 w2) (wfU16 w3) (wfU16 w4) (wfU8 w5) w6 s6).mono fun e W' ⟨he, bel⟩ => ?_
  subst he
  exact ⟨_, rfl, _, _, _, [], _, [], hW', trodAll_mk1 (shut_bool Try.underlying4 _), (trodAll_cons_mk (shut_int Try.underlying22 w0) (trodAll_cons_mk (shut_int Try.underlying22 w1) (trodAll_cons_mk (shut_int Try.underlying22 w2) (trodAll_cons_mk (shut_int Try.underlying38 w3) (trodAll_cons_mk (shut_int Try.underlying38 w4) (trodAll_cons_mk (shut_int Try.underlying5 w5) (trodAll_cons_mk (Below.trod laidOut (by kernel_rfl) (of_decide_eq_true (by kernel_rfl)) k6 bel lt6) trodAll_mk0))))))), rfl, bel.frame _, fun h => by cases h⟩

theorem over : Rows.headOneRow.holds Try.pinned (OpenSpec.ofChange Rows.headOneSpec) :=
  OpenClaim.holds_of_wide 6 Try.f6 rfl rfl rfl rfl rfl rfl rfl ⟨rfl, rfl, rfl, rfl, rfl⟩ rfl rfl rfl rfl rfl (by kernel_rfl) Try.func6 (by kernel_rfl)
    (of_decide_eq_true (by kernel_rfl)) (by unfold Func.isWrapper; first | (rw [if_pos (by decide +kernel)]; kernel_rfl) | (rw [if_neg (by decide +kernel)]; exact ⟨rfl, rfl⟩))
    (fun os started H enc _ => lifted os started H enc)

/-- THE STATEMENT -/
theorem proved : Rows.HeadOneSaid := over
end Go.Proofs.Ytofggpmllfhgaaa.headOne
