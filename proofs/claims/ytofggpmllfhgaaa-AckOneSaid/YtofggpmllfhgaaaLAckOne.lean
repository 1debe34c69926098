/- For all rows l and m of 16-bit numbers, words trigger, 16-bit at, bytes turn and slices b of bytes, AckOne returns true: bytes that are an acknowledgment are its bytes, also where one of them was turned. No condition. -/
import Derived.Test.YtofggpmllfhgaaaBase
import Derived.SizedLaws
import Derived.Test.YtofggpmllfhgaaaAliveAck
import Derived.Test.YtofggpmllfhgaaaAckEnc
import Derived.Test.YtofggpmllfhgaaaLawAck
import Derived.Test.YtofggpmllfhgaaaAckRef
import Derived.Test.YtofggpmllfhgaaaHeadSame
namespace Go.Proofs.Ytofggpmllfhgaaa.ackOne
open Go.ChangeShapes Go.WideShapes Go.ChangeAt Go.RowKit Go.Lib
set_option linter.unusedVariables false
set_option maxRecDepth 100000

theorem getA_lens (bs : List Int) (hb : ∀ x ∈ bs, 0 ≤ x ∧ x ≤ 255) (E : Int) (d : AckD) (h : getA bs = (E, d)) (hz : d ≠ zeroA → E = 0) : d.spans.length ≤ 32 ∧ d.marked.length ≤ 32 := by
  by_cases hd : d = zeroA
  · subst hd
    exact ⟨by simp [zeroA], by simp [zeroA]⟩
  · have := hz hd
    subst this
    obtain ⟨m, _⟩ := getA_ok bs hb d h
    exact ⟨m.sl.2, m.ml⟩

theorem body_of_row {w : World} {a : Option Addr} {len cap : Nat} {z : List Int} (h : IsRow .u8 w a len cap z) : ∃ bs, BodyAt w (.slice a len cap) bs ∧ (∀ x ∈ bs, 0 ≤ x ∧ x ≤ 255) ∧ bs.length ≤ cap := by
  rcases h with ⟨rfl, rfl, rfl, rfl⟩ | ⟨x, rfl, hl, hm, hz, hc, hw⟩
  · exact ⟨[], .inl ⟨none, 0, rfl, fun _ => rfl, rfl⟩, by simp, by simp⟩
  · by_cases h0 : len = 0
    · subst h0
      exact ⟨[], .inl ⟨some x, cap, rfl, (fun e => by cases e), rfl⟩, by simp, by simp⟩
    · obtain ⟨b, off, spot⟩ := x
      have h1 := hc 0 (by omega)
      obtain ⟨p1, p2⟩ := cell_plain h1
      have hs : spot = none := by simpa [Addr.add] using p1
      subst hs
      have ht : (z.take len).length = len := by rw [List.length_take]; omega
      refine ⟨z.take len, .inr ⟨b, off, cap, by rw [ht], by omega, by omega, by unfold maxLen at hm; omega, by simpa [Addr.add] using p2, fun i hi => ?_⟩, fun y hy => wfU8 (hw y (List.mem_of_mem_take hy)), by omega⟩
      rw [ht] at hi
      have h2 := hc i (by omega)
      rw [addr_add] at h2
      rw [h2, List.getD_eq_getElem?_getD, List.getD_eq_getElem?_getD, List.getElem?_take, if_pos (by omega)]

theorem BytesAt.put {w : World} {g : Nat} {xs : List Int} (h : BytesAt w g 0 xs) (J : Nat) (hJ : J < xs.length) (y : Int) : BytesAt (w.setCell ⟨g, J, none⟩ (.int .u8 y)) g 0 (xs.set J y) := by
  refine ⟨by simpa using h.1, fun i hi => ?_⟩
  rw [List.length_set] at hi
  by_cases e : i = J
  · subst e
    rw [Nat.zero_add, World.cell?_setCell_same _ _ _ (by have := h.2 i hi; rw [Nat.zero_add] at this; exact this)]
    simp [List.getD, hi]
  · rw [World.cell?_setCell_other _ _ _ _ (by intro h'; injection h' with _ h2; omega), h.2 i hi]
    simp [List.getD, List.getElem?_set_ne (Ne.symm e)]
theorem body_of_bytes {w : World} {g c : Nat} {xs : List Int} (h : BytesAt w g 0 xs) (h1 : 1 ≤ xs.length) (hc : xs.length ≤ c) (hm : c ≤ 9223372036854775807) : BodyAt w (.slice (some ⟨g, 0, none⟩) xs.length c) xs :=
  .inr ⟨g, 0, c, rfl, h1, hc, hm, h⟩

theorem rowL_byte : ∀ (l : List (Int × Int)) (low : Int), 0 ≤ low → GoodL low l → ∀ z ∈ rowL low l, 0 ≤ z ∧ z ≤ 255
  | [], _, _, _ => fun z hz => absurd hz (by simp [rowL])
  | (lo, hi) :: l, low, h0, ⟨g1, g2, g3, g4⟩ => fun z hz => by
    rw [rowL] at hz
    simp only [List.mem_append] at hz
    rcases hz with hz | hz | hz
    · exact putA_byte _ (by omega) z hz
    · exact putA_byte _ (by omega) z hz
    · exact rowL_byte l (hi + 2) (by omega) g4 z hz
theorem eightL_byte (x : Int) (hx : W64 x) : ∀ z ∈ eightL x, 0 ≤ z ∧ z ≤ 255 := by
  intro z hz
  unfold W64 at hx
  simp only [eightL, List.mem_cons, List.not_mem_nil, or_false] at hz
  rcases hz with rfl | rfl | rfl | rfl | rfl | rfl | rfl | rfl <;> omega
theorem putAck_byte (d : AckD) (h : MayA d) : ∀ z ∈ putAckL d, 0 ≤ z ∧ z ≤ 255 := by
  intro z hz
  have h1 := h.sl
  have h2 := h.ml
  simp only [putAckL, putRowL, List.mem_cons, List.mem_append, List.not_mem_nil, or_false] at hz
  rcases hz with rfl | (rfl | hz) | (rfl | hz) | hz | hz | rfl
  · omega
  · omega
  · exact rowL_byte _ 0 (Int.le_refl _) h.s z hz
  · omega
  · exact rowL_byte _ 0 (Int.le_refl _) h.m z hz
  · exact eightL_byte _ h.t z hz
  · exact eightL_byte _ h.x z hz
  · unfold parL; split <;> omega
theorem putAck_len (d : AckD) (h : MayA d) : 0 < (putAckL d).length ∧ (putAckL d).length ≤ 1100 := by
  have h1 := h.sl
  have h2 := h.ml
  have k1 := putRowL_len d.spans
  have k2 := putRowL_len d.marked
  simp only [putAckL, List.length_cons, List.length_append, eightL_len, List.length_nil]
  omega

/-- what is written of what was read -/
theorem encAfter (bs : List Int) (hb : ∀ x ∈ bs, 0 ≤ x ∧ x ≤ 255) (E : Int) (d : AckD) (hG : getA bs = (E, d)) (x y : Option Addr) (c e : Nat) (w : World) (hS : SRow w x d.spans) (hM : SRow w y d.marked) :
    Calls Try.prog 28 #[ackV d (.slice x d.spans.length c) (.slice y d.marked.length e)] w fun e w' => ∃ v f, e = .returned (.tuple #[v, .int .i64 f]) ∧ Below w.heap.size w w' ∧ (E = 0 → f = 0 ∧ BodyAt w' v bs) := by
  by_cases hE : E = 0
  · subst hE
    obtain ⟨hd, hp⟩ := getA_ok bs hb d hG
    obtain ⟨s, m, t, r, p⟩ := d
    refine (aEncode x y c e s m t r p hd w hS hM).mono fun e w' ⟨v, he, hbel, hown⟩ => ⟨v, 0, he, hbel, fun _ => ⟨rfl, ?_⟩⟩
    have hl := putAck_len _ hd
    obtain ⟨q, qc, rfl, hq, hqc, hqm, B⟩ := ownBytes hown hl.1
    rw [hp] at B hqc hl ⊢
    exact body_of_bytes B hl.1 hqc hqm
  · have hz : d = zeroA := by
      by_cases hd : d = zeroA
      · exact hd
      · exact absurd (getA_zero bs E d hG hd) hE
    subst hz
    exact (aEncodeNo x y c e [] [] (fun s hs => absurd hs (by simp)) (fun s hs => absurd hs (by simp)) (by simp) (by simp) 0 0 false (fun h => by have := h.1; simp at this) w hS hM).mono fun e w' ⟨he, hgr⟩ => ⟨_, 1, he, hgr, fun h => absurd h hE⟩

set_option maxHeartbeats 16000000 in
theorem walkAny (a0 : Option Addr) (len0 cap0 : Nat) (z0 : Nat → Int) (a1 : Option Addr) (len1 cap1 : Nat) (z1 : Nat → Int) (a2 a3 a4 : Int) (rv : Value) (rs : List Int) (hrs : ∀ x ∈ rs, 0 ≤ x ∧ x ≤ 255) (hrl : rs.length ≤ 140737488351232) (w : World) (l0 : len0 ≤ 9223372036854775807) (l1 : len1 ≤ 9223372036854775807) (w0 : U16Row w a0 len0 z0) (w1 : U16Row w a1 len1 z1) (w2 : W64 a2) (w3 : 0 ≤ a3 ∧ a3 ≤ 65535) (w4 : 0 ≤ a4 ∧ a4 ≤ 255) (RW : BodyAt w rv rs) :
    Calls Try.prog 12 #[.slice a0 len0 cap0, .slice a1 len1 cap1, .int .u64 a2, .int .u16 a3, .int .u8 a4, rv] w fun e w' => e = .returned (.bool true) ∧ Below w.heap.size w w' := by
  obtain ⟨xr, cr, hrv⟩ := RW.form
  subst hrv
  have W4 := Lib.hid w4
  have hw30 := w3.1
  have HRS := Lib.hid hrs
  have HRW0 := Lib.hid RW
  have hl0 : (len0 : Int) ≤ 9223372036854775807 := by omega
  have hl1 : (len1 : Int) ≤ 9223372036854775807 := by omega
  have CK : ∀ W, U16Row W a0 len0 z0 → U16Row W a1 len1 z1 → _ := fun W A B => gAck a0 a1 len0 cap0 len1 cap1 z0 z1 l0 l1 a2 7 false w2 (by unfold W64; omega) W A B
  have HCK := Lib.hid CK
  clear CK w2 w4 hrs RW
  go_enter Try.func12, Try.ntmps12
  go_wp2_with fail
  refine (HCK.out _ w0 w1).mono ?_; rintro e' w1 ⟨d, v, u, ok, rfl, b01, hmay, hls, hlm, V1, U1⟩
  obtain ⟨x, c, rfl, S1⟩ := V1.form
  obtain ⟨y, e, rfl, M1⟩ := U1.form
  obtain ⟨s, m, t, r, p⟩ := d
  simp only at hls hlm S1 M1
  unfold ackV
  simp only
  have HM := Lib.hid hmay
  clear hmay V1 U1 HCK
  go_wp2_with fail
  obtain ⟨w2, hw2⟩ : ∃ w2, w2 = w1.alloc (.cells #[.slice x s.length c, .slice y m.length e, .int .u64 t, .int .u64 r, .bool p] 52 (0, 0)) := ⟨_, rfl⟩
  have b12 : Below w1.heap.size w1 w2 := by rw [hw2]; exact (Below.refl _ _).alloc (Nat.le_refl _) _
  have D2 : AckAt w2 w1.heap.size (.slice x s.length c) (.slice y m.length e) (.int .u64 t) (.int .u64 r) (.bool p) := by rw [hw2]; exact AckAt.alloc w1 _ _ _ _ _
  have b02 := b01.trans (b12.mono b01.size)
  have S2 := S1.below b12
  have M2 := M1.below b12
  clear S1 M1
  rw [← hw2]
  obtain ⟨Q, hQ⟩ : ∃ Q, Q = w1.heap.size := ⟨_, rfl⟩
  rw [← hQ] at D2
  rw [← hQ]
  clear hw2 b12 b01 hQ
  by_cases g0 : 200 < len0
  · have g0' : (200 : Int) < (len0 : Int) := by omega
    refine (aliveAck _).mono ?_; rintro e' wA ⟨rfl, bA⟩
    go_wp2_with fail
    refine (aliveAck _).mono ?_; rintro e' wB ⟨rfl, bB⟩
    go_wp2_with fail
    go_ret
    exact ⟨rfl, b02.trans ((bA.mono b02.size).trans (bB.mono (by have := b02.size; have := bA.size; omega)))⟩
  have g0' : ¬ (200 : Int) < (len0 : Int) := by omega
  by_cases g1 : 200 < len1
  · have g1' : (200 : Int) < (len1 : Int) := by omega
    refine (aliveAck _).mono ?_; rintro e' wA ⟨rfl, bA⟩
    go_wp2_with fail
    refine (aliveAck _).mono ?_; rintro e' wB ⟨rfl, bB⟩
    go_wp2_with fail
    go_ret
    exact ⟨rfl, b02.trans ((bA.mono b02.size).trans (bB.mono (by have := b02.size; have := bA.size; omega)))⟩
  have g1' : ¬ (200 : Int) < (len1 : Int) := by omega
  refine (aliveAck _).mono ?_; rintro e' w3 ⟨rfl, b23⟩
  have b03 := b02.trans (b23.mono b02.size)
  have S3 := S2.below b23
  have M3 := M2.below b23
  have D3 := D2.belowB D2.lt b23
  have lD := D3.lt
  clear S2 M2 D2 b23 b02
  obtain ⟨d0, d1, d2, d3, d4⟩ := D3.cells.1
  go_upto_if 45 with fail
  go_cut [15] from 16 (fun cv wx => ∃ cs : List Int, BodyAt wx cv cs ∧ (∀ z ∈ cs, 0 ≤ z ∧ z ≤ 255) ∧ cs.length ≤ 140737488351232 ∧ BodyAt wx (.slice xr rs.length cr) rs ∧ Below w.heap.size w wx)
  case first =>
    cases ok
    · go_wp2_with fail
      go_meet
      exact ⟨rs, HRW0.out.below b03, HRS.out, hrl, HRW0.out.below b03, b03⟩
    have hd := HM.out rfl
    have hpl := putAck_len _ hd
    have hbyt := putAck_byte _ hd
    have CP := rPutAck x y c e s m t r p hd w3 S3 M3
    obtain ⟨bs, hbs⟩ : ∃ l, l = putAckL ⟨s, m, t, r, p⟩ := ⟨_, rfl⟩
    rw [← hbs] at CP hpl hbyt
    have HCP := Lib.hid CP
    clear hd CP hbs HM
    have YB := Lib.hid hbyt
    clear hbyt
    go_wp2_with fail
    refine HCP.out.mono ?_; rintro e' w4 ⟨v4, rfl, b34, own4⟩
    obtain ⟨g, cc, rfl, hg, hc, hm, E4⟩ := ownBytes own4 hpl.1
    have ff := fun j => own4.frozenAt j
    have b04 := b03.trans (b34.mono b03.size)
    have RW4 := HRW0.out.below b04
    have hgw : w.heap.size ≤ g := by have := b03.size; omega
    clear own4 b34 d0 d1 d2 d3 d4 S3 M3 D3 lD b03
    obtain ⟨N, hNN⟩ : ∃ N, bs.length = N := ⟨_, rfl⟩
    obtain ⟨pl0, plN⟩ := hpl
    rw [hNN] at hc pl0 plN ⊢
    obtain ⟨J, hJ⟩ : ∃ J : Nat, a3.tmod (N : Int) = (J : Int) := ⟨(a3 % (N : Int)).toNat, by have := Int.emod_nonneg a3 (show (N : Int) ≠ 0 by omega); rw [Int.tmod_eq_emod_of_nonneg hw30]; omega⟩
    have hJN : J < N := by
      rw [Int.tmod_eq_emod_of_nonneg hw30] at hJ
      have := Int.emod_lt_of_pos a3 (show (0 : Int) < (N : Int) by omega)
      omega
    have j1 : (J : Int) < (N : Int) := by omega
    have j2 : (0 : Int) ≤ (J : Int) := by omega
    have j5 : (N : Int) ≠ 0 := by omega
    have hq : bs[J]? = some (bs.getD J 0) := by rw [List.getD_eq_getElem?_getD, List.getElem?_eq_getElem (by omega)]; rfl
    have cJ : w4.cell? ⟨g, J, none⟩ = some (.int .u8 (bs.getD J 0)) := by have := E4.2 J (by omega); rwa [Nat.zero_add] at this
    have fJ := ff J
    have hy0 : 0 ≤ bs.getD J 0 ∧ bs.getD J 0 ≤ 255 := YB.out _ (List.mem_of_getElem? hq)
    obtain ⟨yy, hy⟩ : ∃ y, bits .xor .u8 (bs.getD J 0) a4 = y := ⟨_, rfl⟩
    have hyr : 0 ≤ yy ∧ yy ≤ 255 := by
      have h5 := W4.out
      rw [← hy, u8_xor _ _ hy0.1 (by omega) h5.1 (by omega)]
      have := Nat.xor_lt_two_pow (x := (bs.getD J 0).toNat) (y := a4.toNat) (n := 8) (by omega) (by omega)
      omega
    generalize bs.getD J 0 = z at *
    have HE := Lib.hid E4
    have HYR := Lib.hid hyr
    clear E4 ff hq hy0 hyr
    have HNN := Lib.hid hNN
    clear hNN
    go_wp2_with fail
    go_meet
    have hB : BytesAt (w4.setCell ⟨g, J, none⟩ (.int .u8 yy)) g 0 (bs.set J yy) := BytesAt.put HE.out J (by rw [HNN.out]; exact hJN) yy
    have hsl : (bs.set J yy).length = N := by rw [List.length_set]; exact HNN.out
    refine ⟨bs.set J yy, ?_, ?_, by rw [hsl]; omega, ?_, b04.setCell (by simp; omega) _⟩
    · have := body_of_bytes (c := cc) hB (by rw [hsl]; omega) (by rw [hsl]; omega) hm
      rwa [hsl] at this
    · intro z' hz'
      rcases List.mem_or_eq_of_mem_set hz' with h | h
      · exact YB.out z' h
      · rw [h]; exact HYR.out
    · rcases HRW0.out with h | ⟨g', o', c', h1, h2, h3, h4, h5⟩
      · exact .inl h
      · rcases RW4 with h' | ⟨g2, o2, c2, k1, k2, k3, k4, k5⟩
        · exact .inl h'
        · refine .inr ⟨g2, o2, c2, k1, k2, k3, k4, BytesAt.set k5 _ ?_ _⟩
          rw [h1] at k1
          injection k1 with k6
          injection k6 with k7
          injection k7 with k8
          have := h5.1
          simp only
          omega
  case rest =>
    obtain ⟨cs, hC, hcsb, hcl, hR, bx⟩ := hcut
    obtain ⟨xc, qc, hcv⟩ := hC.form
    subst hcv
    have HC0 := Lib.hid hC
    have HR0 := Lib.hid hR
    have HCS := Lib.hid hcsb
    have i0 : ∀ (w : World) (q p : Value), (Instr.index 41 (.agg #[q, p]) (.int .i64 0)).run Try.prog w = .ok q w := fun _ _ _ => by kernel_rfl
    have i1 : ∀ (w : World) (q p : Value), (Instr.index 41 (.agg #[q, p]) (.int .i64 1)).run Try.prog w = .ok p w := fun _ _ _ => by kernel_rfl
    have I0 := Lib.hid i0
    have I1 := Lib.hid i1
    clear hC hR hcsb i0 i1 d0 d1 d2 d3 d4 S3 M3 D3 lD b03 HM
    go_wp2_with fail
    go_loopw [62] (fun iv wr => ∃ k : Nat, iv = .int .i64 (k : Int) ∧ k ≤ 2 ∧ Below wc.heap.size wc wr) (fun iv _ => (2 - intOf iv).toNat)
    case atStart => exact ⟨0, rfl, by omega, Below.refl _ _⟩
    case round =>
      obtain ⟨k, rfl, hk, bel⟩ := hrel
      have hk0 : (0 : Int) ≤ (k : Int) := by omega
      have b0 := bx.trans (bel.mono bx.size)
      by_cases hlt : k < 2
      · have hlt' : (k : Int) < 2 := by omega
        obtain ⟨xv, xs, hidx, hBx, hxb, hxl⟩ : ∃ (xv : Value) (xs : List Int), (∀ w : World, (Instr.index 41 (.agg #[.slice xr rs.length cr, .slice xc cs.length qc]) (.int .i64 (k : Int))).run Try.prog w = .ok xv w) ∧ BodyAt wr xv xs ∧ (∀ z ∈ xs, 0 ≤ z ∧ z ≤ 255) ∧ xs.length ≤ 140737488351232 := by
          rcases (by omega : k = 0 ∨ k = 1) with rfl | rfl
          · exact ⟨_, rs, fun w => I0.out w _ _, HR0.out.below bel, HRS.out, hrl⟩
          · exact ⟨_, cs, fun w => I1.out w _ _, HC0.out.below bel, HCS.out, hcl⟩
        obtain ⟨E, d, hG⟩ : ∃ E d, getA xs = (E, d) := ⟨_, _, rfl⟩
        have HG := Lib.hid hG
        have HB := Lib.hid hBx
        have HXB := Lib.hid hxb
        clear hG hBx hxb
        go_wp2_with fail
        refine (aDecode xv xs HXB.out hxl _ HB.out E d HG.out).mono ?_; rintro e' w5 ⟨v5, u5, rfl, b5, V5, U5⟩
        obtain ⟨x5, c5, rfl, S5⟩ := V5
        obtain ⟨y5, e5, rfl, M5⟩ := U5
        have b05 := bel.trans (b5.mono bel.size)
        unfold ackV
        go_wp2_with fail
        obtain ⟨w6, hw6⟩ : ∃ w6, w6 = w5.alloc (.cells #[.slice x5 d.spans.length c5, .slice y5 d.marked.length e5, .int .u64 d.trig, .int .u64 d.xr, .bool d.par] 52 (0, 0)) := ⟨_, rfl⟩
        have b56 : Below w5.heap.size w5 w6 := by rw [hw6]; exact (Below.refl _ _).alloc (Nat.le_refl _) _
        have X6 : AckAt w6 w5.heap.size (.slice x5 d.spans.length c5) (.slice y5 d.marked.length e5) (.int .u64 d.trig) (.int .u64 d.xr) (.bool d.par) := by rw [hw6]; exact AckAt.alloc w5 _ _ _ _ _
        have b06 := b05.trans (b56.mono b05.size)
        have S6 := S5.below b56
        have M6 := M5.below b56
        have HB6 := Lib.hid ((HB.out.below b5).below b56)
        rw [← hw6]
        obtain ⟨Q5, hQ5⟩ : ∃ Q, Q = w5.heap.size := ⟨_, rfl⟩
        rw [← hQ5] at X6
        rw [← hQ5]
        clear hw6 b56 b05 S5 M5 hQ5 HB b5
        have CEN := encAfter xs HXB.out E d HG.out x5 y5 c5 e5 w6 S6 M6
        unfold ackV at CEN
        refine CEN.mono ?_; rintro e' w7 ⟨v7, f7, rfl, b67, hf7⟩
        have b07 := b06.trans (b67.mono b06.size)
        have S7 := S6.below b67
        have M7 := M6.below b67
        have X7 := X6.belowB X6.lt b67
        have HB7 := Lib.hid (HB6.out.below b67)
        have HF7 := Lib.hid hf7
        clear CEN S6 M6 X6 HB6 b67 b06 hf7
        go_wp2_with fail
        refine (rGetAck xv xs HXB.out hxl _ HB7.out E d HG.out).mono ?_; rintro e' w8 ⟨v8, u8, rfl, b78, V8, U8⟩
        obtain ⟨x8, c8, rfl, S8⟩ := V8
        obtain ⟨y8, e8, rfl, M8⟩ := U8
        unfold ackV
        have b08 := b07.trans (b78.mono b07.size)
        have So8 := S7.below b78
        have Mo8 := M7.below b78
        have X8 := X7.belowB X7.lt b78
        have HB8 := Lib.hid (HB7.out.below b78)
        have HF8 : Hid (E = 0 → f7 = 0 ∧ BodyAt w8 v7 xs) := Lib.hid (fun h => ⟨(HF7.out h).1, (HF7.out h).2.below b78⟩)
        clear S7 M7 X7 HB7 HF7 b78 b07
        have hls8 := getA_lens xs HXB.out E d HG.out (getA_zero xs E d HG.out)
        have ba : ∀ z, Below w8.heap.size w8 (w8.alloc (.cells z 52 (0, 0))) := fun z => (Below.refl _ _).alloc (Nat.le_refl _) _
        have CS : ∀ W, Below w8.heap.size w8 W → _ := fun W hb => rSameAck d (.slice x5 d.spans.length c5) (.slice y5 d.marked.length e5) (.slice x8 d.spans.length c8) (.slice y8 d.marked.length e8) W hls8.1 hls8.2 ⟨x5, c5, rfl, So8.below hb⟩ ⟨y5, e5, rfl, Mo8.below hb⟩ ⟨x8, c8, rfl, S8.below hb⟩ ⟨y8, e8, rfl, M8.below hb⟩
        unfold ackV at CS
        have HCS8 := Lib.hid CS
        have HBA := Lib.hid ba
        obtain ⟨d0, d1, d2, d3, d4⟩ := X8.cells.1
        have l8 := X8.lt
        have s8 := b08.size
        have hee : (E != E) = false := by simp
        clear CS ba So8 Mo8 S8 M8 X8 hls8
        go_wp2_with fail
        refine (HCS8.out _ (HBA.out _)).mono ?_; rintro e' w9 ⟨rfl, b9⟩
        have b09 := b08.trans (((HBA.out _).mono s8).trans (b9.mono (by simp; omega)))
        have HB9 := Lib.hid ((HB8.out.below (HBA.out _)).below b9)
        have HF9 : Hid (E = 0 → f7 = 0 ∧ BodyAt w9 v7 xs) := Lib.hid (fun h => ⟨(HF8.out h).1, ((HF8.out h).2.below (HBA.out _)).below b9⟩)
        clear b9 HB8 HF8 HCS8 HBA b08 d0 d1 d2 d3 d4 l8 s8
        by_cases hE0 : E = 0
        · obtain ⟨hf0, Z9⟩ := HF9.out hE0
          subst hf0
          rw [hE0]
          have HZ9 := Lib.hid Z9
          clear Z9 HF9 hE0 hee
          go_wp2_with (first
            | (refine wpList_convAny (by rfl) (.tmp 96) rfl _ rfl xs HZ9.out ?_)
            | (refine wpList_convAny (by rfl) (.tmp 98) rfl _ rfl xs HB9.out ?_))
          go_roundw
          case rel => exact ⟨k + 1, by congr 1, by omega, b09⟩
          case measure => simp only [intOf]; omega
        · have hE' : (E == 0) = false := by rw [beq_eq_false_iff_ne]; exact hE0
          go_wp2_with fail
          go_roundw
          case rel => exact ⟨k + 1, by congr 1, by omega, b09⟩
          case measure => simp only [intOf]; omega
      · have hkn : k = 2 := by omega
        subst hkn
        have hz : ((2 : Nat) : Int) = 2 := rfl
        rw [hz]
        go_wp2_with fail
        go_ret
        exact ⟨rfl, b0⟩

theorem walk (a0 : Option Addr) (len0 cap0 : Nat) (z0 : List Int) (a1 : Option Addr) (len1 cap1 : Nat) (z1 : List Int) (a2 a3 a4 : Int) (a5 : Option Addr) (len5 cap5 : Nat) (z5 : List Int) (w : World) (w0 : IsRow .u16 w a0 len0 cap0 z0) (w1 : IsRow .u16 w a1 len1 cap1 z1) (w2 : W64 a2) (w3 : 0 ≤ a3 ∧ a3 ≤ 65535) (w4 : 0 ≤ a4 ∧ a4 ≤ 255) (w5 : IsRow .u8 w a5 len5 cap5 z5) (s5 : cap5 ≤ 140737488351232) :
    Calls Try.prog 12 #[.slice a0 len0 cap0, .slice a1 len1 cap1, .int .u64 a2, .int .u16 a3, .int .u8 a4, .slice a5 len5 cap5] w fun e w' => e = .returned (.bool true) ∧ Below w.heap.size w w' := by
  obtain ⟨u0, l0⟩ := U16Row.of w0
  obtain ⟨u1, l1⟩ := U16Row.of w1
  obtain ⟨bs, hB, hb, hl⟩ := body_of_row w5
  exact walkAny a0 len0 cap0 _ a1 len1 cap1 _ a2 a3 a4 _ bs hb (by omega) w l0 l1 u0 u1 w2 w3 w4 hB

/-! ### the row's step -/
set_option maxRecDepth 100000 in
theorem lifted (os : Os) (started : os.Started) (H : Type) (enc : TypeId × Value → H) :
    ReturnsInHanded {} Try.checked os 12 .any (Rows.ackOneSpec.pre6 enc Try.prog Try.f12 Rows.ackOneRow.domain false) (Rows.ackOneSpec.post enc Try.prog Try.f12 false true false false) := by
  refine returnsInHanded_of_change_sized (C := Try.checked) own started (by kernel_rfl) Try.func12
    (ChangeSpec.witness6 (enc := enc) (C := Try.checked) false ⟨#[], #[.slice none 0 0, .slice none 0 0, .int .u64 0, .int .u16 0, .int .u8 0, .slice none 0 0], []⟩ 8 (by kernel_rfl) (by kernel_rfl) (by kernel_rfl) (by kernel_rfl)) ?_
  intro W base args ds gs before hval0 hW hcnd hsz0 _
  have hsz : (DataW.weightsEach Try.prog (Try.f12.params.toList ++ Rows.ackOneSpec.plain.varTypes Try.prog) (ds ++ gs)).all (· ≤ reachBytes) = true := hsz0
  clear hsz0
  have hval : ∀ (j : Nat) t v, Try.f12.params[j]? = some t → args[j]? = some v → Value.okWide Try.prog W .any base t v := hval0
  have hW' := hW
  obtain ⟨p, q, hA0, hV, rfl, hfz, hnd⟩ := hW
  have hA : DataW.TrodAll enc Try.prog W 0 (fun _ => true) true Try.f12.params.toList args.toList ds p := hA0
  rw [Try.params12] at hA hval hsz
  obtain ⟨v0, vs0, d0, ds0, p0, q0, hargs, rfl, rfl, h0, r0⟩ := trodAll_cons hA
  obtain ⟨v1, vs1, d1, ds1, p1, q1, rfl, rfl, rfl, h1, r1⟩ := trodAll_cons r0
  obtain ⟨v2, vs2, d2, ds2, p2, q2, rfl, rfl, rfl, h2, r2⟩ := trodAll_cons r1
  obtain ⟨v3, vs3, d3, ds3, p3, q3, rfl, rfl, rfl, h3, r3⟩ := trodAll_cons r2
  obtain ⟨v4, vs4, d4, ds4, p4, q4, rfl, rfl, rfl, h4, r4⟩ := trodAll_cons r3
  obtain ⟨v5, vs5, d5, ds5, p5, q5, rfl, rfl, rfl, h5, r5⟩ := trodAll_cons r4
  obtain ⟨rfl, rfl, rfl⟩ := trodAll_nil r5
  obtain rfl : args = #[v0, v1, v2, v3, v4, v5] := by cases args; simp_all
  obtain ⟨rfl, rfl⟩ := trodVars_none hV
  obtain ⟨a0, len0, cap0, rfl⟩ := okWide_slice Try.underlying61 (hval 0 61 v0 rfl rfl)
  have k0 := h0
  have lt0 : ∀ x ∈ p0, x.block < W.heap.size := by obtain ⟨m, hm⟩ := k0; exact DataW.trod_lt m _ _ _ hm
  obtain ⟨z0, w0⟩ : ∃ zs, IsRow .u16 W a0 len0 cap0 zs := by
    obtain ⟨fuel, hf⟩ := h0
    rcases open_ints Try.underlying61 Try.underlying38 (by kernel_rfl) hf with ⟨hcs, _⟩ | ⟨x, l, c, zs, hcs, _, hl, hm, hz, _, hcell, hwz⟩
    · simp [Value.cells] at hcs
      obtain ⟨rfl, rfl, rfl⟩ := hcs
      exact ⟨[], .inl ⟨rfl, rfl, rfl, rfl⟩⟩
    · simp [Value.cells] at hcs
      obtain ⟨rfl, rfl, rfl⟩ := hcs
      exact ⟨zs, .inr ⟨_, rfl, hl, hm, by simpa using hz, hcell, hwz⟩⟩
  obtain ⟨a1, len1, cap1, rfl⟩ := okWide_slice Try.underlying61 (hval 1 61 v1 rfl rfl)
  have k1 := h1
  have lt1 : ∀ x ∈ p1, x.block < W.heap.size := by obtain ⟨m, hm⟩ := k1; exact DataW.trod_lt m _ _ _ hm
  obtain ⟨z1, w1⟩ : ∃ zs, IsRow .u16 W a1 len1 cap1 zs := by
    obtain ⟨fuel, hf⟩ := h1
    rcases open_ints Try.underlying61 Try.underlying38 (by kernel_rfl) hf with ⟨hcs, _⟩ | ⟨x, l, c, zs, hcs, _, hl, hm, hz, _, hcell, hwz⟩
    · simp [Value.cells] at hcs
      obtain ⟨rfl, rfl, rfl⟩ := hcs
      exact ⟨[], .inl ⟨rfl, rfl, rfl, rfl⟩⟩
    · simp [Value.cells] at hcs
      obtain ⟨rfl, rfl, rfl⟩ := hcs
      exact ⟨zs, .inr ⟨_, rfl, hl, hm, by simpa using hz, hcell, hwz⟩⟩
  obtain ⟨a2, rfl, rfl, rfl, w2⟩ := open_int Try.underlying22 (hval 2 22 v2 rfl rfl) h2
  obtain ⟨a3, rfl, rfl, rfl, w3⟩ := open_int Try.underlying38 (hval 3 38 v3 rfl rfl) h3
  obtain ⟨a4, rfl, rfl, rfl, w4⟩ := open_int Try.underlying5 (hval 4 5 v4 rfl rfl) h4
  obtain ⟨a5, len5, cap5, rfl⟩ := okWide_slice Try.underlying23 (hval 5 23 v5 rfl rfl)
  have k5 := h5
  have lt5 : ∀ x ∈ p5, x.block < W.heap.size := by obtain ⟨m, hm⟩ := k5; exact DataW.trod_lt m _ _ _ hm
  obtain ⟨z5, w5, s5⟩ : ∃ zs, IsRow .u8 W a5 len5 cap5 zs ∧ cap5 ≤ 140737488351232 := by
    obtain ⟨fuel, hf⟩ := h5
    rcases open_ints Try.underlying23 Try.underlying5 (by kernel_rfl) hf with ⟨hcs, _⟩ | ⟨x, l, c, zs, hcs, _, hl, hm, hz, hx, hcell, hwz⟩
    · simp [Value.cells] at hcs
      obtain ⟨rfl, rfl, rfl⟩ := hcs
      exact ⟨[], .inl ⟨rfl, rfl, rfl, rfl⟩, by omega⟩
    · simp [Value.cells] at hcs
      obtain ⟨rfl, rfl, rfl⟩ := hcs
      have hd := (Prod.mk.inj hx).1
      have hr := sized_slice hsz (j := 5) (t := 23) (e := 5) rfl (by rw [← hd]; rfl) Try.underlying23
      rw [show Try.prog.bytesOf 5 = 1 from by kernel_rfl] at hr
      simp only [lits, List.length_map, List.length_take, List.length_drop, reachBytes] at hr
      have hz' : zs.length = cap5 := by simpa using hz
      exact ⟨zs, .inr ⟨_, rfl, hl, hm, hz', hcell, hwz⟩, by omega⟩
  clear hA0 hval0
  refine (walk a0 len0 cap0 z0 a1 len1 cap1 z1 a2 a3 a4 a5 len5 cap5 z5 W w0 w1 (wfU64 w2) (wfU16 w3) (wfU8 w4) w5 s5).mono fun e W' ⟨he, bel⟩ => ?_
  subst he
  exact ⟨_, rfl, _, _, _, [], _, [], hW', trodAll_mk1 (shut_bool Try.underlying4 _), (trodAll_cons_mk (Below.trod laidOut (by kernel_rfl) (of_decide_eq_true (by kernel_rfl)) k0 bel lt0) (trodAll_cons_mk (Below.trod laidOut (by kernel_rfl) (of_decide_eq_true (by kernel_rfl)) k1 bel lt1) (trodAll_cons_mk (shut_int Try.underlying22 w2) (trodAll_cons_mk (shut_int Try.underlying38 w3) (trodAll_cons_mk (shut_int Try.underlying5 w4) (trodAll_cons_mk (Below.trod laidOut (by kernel_rfl) (of_decide_eq_true (by kernel_rfl)) k5 bel lt5) trodAll_mk0)))))), rfl, bel.frame _, fun h => by cases h⟩

theorem over : Rows.ackOneRow.holds Try.pinned (OpenSpec.ofChange Rows.ackOneSpec) :=
  OpenClaim.holds_of_wide 12 Try.f12 rfl rfl rfl rfl rfl rfl rfl ⟨rfl, rfl, rfl, rfl, rfl⟩ rfl rfl rfl rfl rfl (by kernel_rfl) Try.func12 (by kernel_rfl)
    (of_decide_eq_true (by kernel_rfl)) (by unfold Func.isWrapper; first | (rw [if_pos (by decide +kernel)]; kernel_rfl) | (rw [if_neg (by decide +kernel)]; exact ⟨rfl, rfl⟩))
    (fun os started H enc _ => lifted os started H enc)

/-- THE STATEMENT -/
theorem proved : Rows.AckOneSaid := over
end Go.Proofs.Ytofggpmllfhgaaa.ackOne
