/- package ack: Decode, for all bytes. -/
import Derived.Test.YtofggpmllfhgaaaInside
namespace Go.Proofs.Ytofggpmllfhgaaa
open Go.RowKit Go.Lib
set_option linter.unusedVariables false
set_option maxRecDepth 100000

theorem AckAt.kept {w w' : World} {D : Nat} {c0 c1 c2 c3 c4 : Value} (h : AckAt w D c0 c1 c2 c3 c4) {p : Nat} (hp : D ≠ p) (k : Kept p w w') : AckAt w' D c0 c1 c2 c3 c4 := by
  unfold AckAt
  rw [k D hp h.lt]
  exact h
theorem AckAt.noByte {w : World} {D : Nat} {c0 c1 c2 c3 c4 : Value} (h : AckAt w D c0 c1 c2 c3 c4) (n : ∀ x, c0 ≠ .int .u8 x ∧ c1 ≠ .int .u8 x ∧ c2 ≠ .int .u8 x ∧ c3 ≠ .int .u8 x ∧ c4 ≠ .int .u8 x) : ∀ j x, w.cell? ⟨D, j, none⟩ ≠ some (.int .u8 x) := by
  intro j x
  obtain ⟨h0, h1, h2, h3, h4⟩ := n x
  rw [cell_of_row w D j _ _ _ h]
  match j with
  | 0 => simpa using h0
  | 1 => simpa using h1
  | 2 => simpa using h2
  | 3 => simpa using h3
  | 4 => simpa using h4
  | j + 5 => simp

/-- a row of its own, from a block on -/
def SIn (w : World) (B : Nat) (x : Option Addr) (l : List (Int × Int)) : Prop := l = [] ∨ ∃ g, B ≤ g ∧ x = some ⟨g, 0, none⟩ ∧ SpansAt w g 0 l
theorem SIn.row {w : World} {B : Nat} {x : Option Addr} {l : List (Int × Int)} (h : SIn w B x l) : SRow w x l := by
  rcases h with h | ⟨g, _, h1, h2⟩
  · exact .inl h
  · exact .inr ⟨g, 0, h1, h2⟩
theorem SIn.kept {w w' : World} {B p : Nat} {x : Option Addr} {l : List (Int × Int)} (h : SIn w B x l) (hp : p < B) (k : Kept p w w') (hs : w.heap.size ≤ w'.heap.size) : SIn w' B x l := by
  rcases h with h | ⟨g, h0, h1, h2, h3⟩
  · exact .inl h
  · have e : ∀ i, w'.cell? ⟨g, i, none⟩ = w.cell? ⟨g, i, none⟩ := fun i => by
      unfold World.cell?
      rw [k g (by omega) h2]
    exact .inr ⟨g, h0, h1, Nat.lt_of_lt_of_le h2 hs, fun i hi => by rw [e, e]; exact h3 i hi⟩
theorem SIn.set {w : World} {B D : Nat} {x : Option Addr} {l : List (Int × Int)} (h : SIn w B x l) (hD : D < B) (i : Nat) (v : Value) : SIn (w.setCell ⟨D, i, none⟩ v) B x l := by
  rcases h with h | ⟨g, h0, h1, h2, h3⟩
  · exact .inl h
  · have e : ∀ k, (w.setCell ⟨D, i, none⟩ v).cell? ⟨g, k, none⟩ = w.cell? ⟨g, k, none⟩ := fun k => World.cell?_setCell_other _ _ _ _ (by intro e; injection e with e1; omega)
    exact .inr ⟨g, h0, h1, by simpa using h2, fun i hi => by rw [e, e]; exact h3 i hi⟩
theorem SIn.below {w w' : World} {B : Nat} {x : Option Addr} {l : List (Int × Int)} (h : SIn w B x l) (hb : Below w.heap.size w w') : SIn w' B x l := by
  rcases h with h | ⟨g, h0, h1, h2⟩
  · exact .inl h
  · exact .inr ⟨g, h0, h1, h2.below hb⟩
theorem SIn.ofOwn {w : World} {B : Nat} {v : Value} {l : List (Int × Int)} (h : w.ownsRow B 84 2 v l.length (flatS l)) : ∃ x c, v = .slice x l.length c ∧ SIn w B x l := by
  obtain ⟨x, c, hv, hS⟩ := rowAt_own h
  refine ⟨x, c, hv, ?_⟩
  rcases hS with hS | ⟨g, o, rfl, hS⟩
  · exact .inl hS
  · obtain ⟨_, ⟨h2, _⟩ | ⟨g', c', cur, h2, h3, _⟩⟩ := h
    · rw [hv] at h2
      simp at h2
    · rw [hv] at h2
      injection h2 with e1 e2 e3
      injection e1 with e1
      injection e1 with e4 e5 e6
      subst e4 e5
      exact .inr ⟨g, h3, rfl, hS⟩

theorem withinAll_of {m s : List (Int × Int)} (hm : goodAll m) (hs : goodAll s) : decide (insideAll m s) = true ↔ withinAll m s := by
  rw [decide_eq_true_iff]
  exact ⟨fun h => ⟨hm, hs, h⟩, fun h => h.2.2⟩

set_option maxHeartbeats 16000000 in
set_option maxRecDepth 100000 in
theorem aDecode (bv : Value) (bs : List Int) (hb : ∀ x ∈ bs, 0 ≤ x ∧ x ≤ 255) (hlen : bs.length ≤ 140737488351232) (w : World) (hB : BodyAt w bv bs) (E : Int) (d : AckD) (hG : getA bs = (E, d)) :
    Calls Try.prog 32 #[bv] w fun e w' => ∃ v u, e = .returned (.tuple #[ackV d v u, .int .i64 E]) ∧ Below w.heap.size w w' ∧ RowAt w' v d.spans ∧ RowAt w' u d.marked := by
  go_enter Try.func32, Try.ntmps32
  go_wp2_with fail
  refine (oNewAny bv bs hlen _ (hB.below ((Below.refl _ _).alloc (Nat.le_refl _) _))).mono ?_; rintro e' w1 ⟨p, rfl, hp, hp1, b1, R1⟩
  have H1 : AckAt w1 w.heap.size (.slice none 0 0) (.slice none 0 0) (.int .u64 0) (.int .u64 0) (.bool false) := AckAt.belowB (AckAt.alloc w _ _ _ _ _) (by simp) b1
  have b01 : Below w.heap.size w w1 := ((Below.refl _ _).alloc (Nat.le_refl _) _).trans (b1.mono (by simp))
  rw [show (w.alloc (.cells #[.slice none 0 0, .slice none 0 0, .int .u64 0, .int .u64 0, .bool false] 52 (0, 0))).heap.size = w.heap.size + 1 by simp] at hp
  clear b1 hB
  obtain ⟨b0, hb0⟩ : ∃ n, n = w.heap.size := ⟨_, rfl⟩
  rw [← hb0] at hp H1
  rcases bs with _ | ⟨k, bs⟩
  · rw [getA, Prod.mk.injEq] at hG
    obtain ⟨rfl, rfl⟩ := hG
    go_wp2_with fail
    refine (takeShort [] 1 (by simp) _ p R1).mono ?_; rintro e' w' ⟨rfl, rfl⟩
    obtain ⟨⟨a0, a1, a2, a3, a4⟩, fz⟩ := H1.cells
    have z0 := fz 0
    have z1 := fz 1
    have z2 := fz 2
    have z3 := fz 3
    have z4 := fz 4
    rw [hb0] at a0 a1 a2 a3 a4 z0 z1 z2 z3 z4
    go_wp2_with fail
    refine bodyPost_ret (v := .tuple #[.agg #[.slice none 0 0, .slice none 0 0, .int .u64 0, .int .u64 0, .bool false], .int .i64 2]) (by simp [results, Try.results32, go_sem, a0, a1, a2, a3, a4]) rfl ⟨.slice none 0 0, .slice none 0 0, rfl, by repeat (first | with_reducible exact b01 | with_reducible refine Below.setCell ?_ (by first | (simp; done) | (simp; omega) | omega) _), RowAt.nil _, RowAt.nil _⟩
  have hk := hb k (by simp)
  have hz : ∀ x ∈ bs, 0 ≤ x ∧ x ≤ 255 := fun x hx => hb x (by simp [hx])
  simp only [List.length_cons] at hlen
  go_wp2_with fail
  refine (takeHere (k :: bs) 1 (by omega) (by simp) (by simp only [List.length_cons]; omega) _ p R1).mono ?_; rintro e' w2 ⟨q, qc, rfl, BQ, b2, R2, _⟩
  have R2 : RdAt w2 p bs := R2
  have H2 := H1.belowB (by omega) b2
  have b02 : Below w.heap.size w w2 := b01.trans (b2.mono (by omega))
  have ck : w2.cell? ⟨q, 0, none⟩ = some (.int .u8 k) := by simpa using BQ.at 0 k rfl
  have p2 := R2.1
  clear BQ b2 R1 H1 b01 hp1
  by_cases hk1 : k = 2
  case neg =>
    rw [getA, if_neg hk1, Prod.mk.injEq] at hG
    obtain ⟨rfl, rfl⟩ := hG
    have hd : (k != 2) = true := by rw [bne_iff_ne]; exact hk1
    obtain ⟨⟨a0, a1, a2, a3, a4⟩, fz⟩ := H2.cells
    have z0 := fz 0
    have z1 := fz 1
    have z2 := fz 2
    have z3 := fz 3
    have z4 := fz 4
    rw [hb0] at a0 a1 a2 a3 a4 z0 z1 z2 z3 z4
    go_wp2_with fail
    refine bodyPost_ret (v := .tuple #[.agg #[.slice none 0 0, .slice none 0 0, .int .u64 0, .int .u64 0, .bool false], .int .i64 4]) (by simp [results, Try.results32, go_sem, a0, a1, a2, a3, a4]) rfl ⟨.slice none 0 0, .slice none 0 0, rfl, by repeat (first | with_reducible exact b02 | with_reducible refine Below.setCell ?_ (by first | (simp; done) | (simp; omega) | omega) _), RowAt.nil _, RowAt.nil _⟩
  subst hk1
  rw [getA, if_pos rfl] at hG
  go_wp2_with fail
  obtain ⟨w3, hw3⟩ : ∃ w3, w3 = w2.alloc (.cells #[.slice none 0 0, .slice none 0 0, .int .u64 0, .int .u64 0, .bool false] 52 (0, 0)) := ⟨_, rfl⟩
  have b3 : Below w2.heap.size w2 w3 := by rw [hw3]; exact (Below.refl _ _).alloc (Nat.le_refl _) _
  have b03 : Below w.heap.size w w3 := b02.trans (b3.mono b02.size)
  have R3 := R2.below b3
  have H3 := H2.belowB H2.lt b3
  have D3 : AckAt w3 w2.heap.size (.slice none 0 0) (.slice none 0 0) (.int .u64 0) (.int .u64 0) (.bool false) := by rw [hw3]; exact AckAt.alloc w2 _ _ _ _ _
  rw [← hw3]
  clear hw3 b3 R2 H2 ck b02
  obtain ⟨D, hD⟩ : ∃ n, n = w2.heap.size := ⟨_, rfl⟩
  rw [← hD] at p2 D3
  rw [← hD]
  clear hD
  have hpD : p ≠ D := by omega
  have hDp : D ≠ p := by omega
  have hbD : b0 ≠ D := by omega
  have hDb : D ≠ b0 := by omega
  have hpb : b0 < p := by omega
  have hpb2 : b0 ≤ p := by omega
  have hwD : w.heap.size ≠ D := by omega
  have hDw : D ≠ w.heap.size := by omega
  obtain ⟨es, s, ss, hRs⟩ : ∃ e s r, getRowF 1 bs = (e, s, r) := ⟨_, _, _, rfl⟩
  rw [getA1, hRs] at hG
  simp only at hG
  refine (aSpans p 1 (by omega) bs hz (by omega) es s ss hRs _ R3).mono ?_; rintro e' w4 ⟨vs, rfl, b4, K4, ns, os⟩
  have H4 := H3.belowB hpb b4
  have D4 := D3.kept hDp K4
  have b04 : Below w.heap.size w w4 := b03.trans (b4.mono (by omega))
  obtain ⟨Bs, hBs⟩ : ∃ n, n = w3.heap.size := ⟨_, rfl⟩
  have hDs : D < Bs := by rw [hBs]; exact D3.lt
  have hps : p < Bs := by rw [hBs]; exact R3.1
  have hbs : b0 < Bs := by rw [hBs]; exact H3.lt
  rw [← hBs] at os
  clear hBs b4 K4 R3 H3 D3 b03
  obtain ⟨⟨d0, d1, d2, d3, d4⟩, dz⟩ := D4.cells
  have y0 := dz 0
  obtain ⟨⟨a0, a1, a2, a3, a4⟩, fz⟩ := H4.cells
  have x0 := fz 0
  have x1 := fz 1
  have x2 := fz 2
  have x3 := fz 3
  have x4 := fz 4
  rw [hb0] at a0 a1 a2 a3 a4 x0 x1 x2 x3 x4
  by_cases he : es = 0
  case neg =>
    rw [if_neg he, Prod.mk.injEq] at hG
    obtain ⟨rfl, rfl⟩ := hG
    obtain rfl := ns he
    have hd : (es != 0) = true := by rw [bne_iff_ne]; exact he
    go_wp2_with fail
    refine bodyPost_ret (v := .tuple #[.agg #[.slice none 0 0, .slice none 0 0, .int .u64 0, .int .u64 0, .bool false], .int .i64 es]) (by simp [results, Try.results32, go_sem, a0, a1, a2, a3, a4]) rfl ⟨.slice none 0 0, .slice none 0 0, rfl, by repeat (first | with_reducible exact b04 | with_reducible refine Below.setCell ?_ (by first | (simp; done) | (simp; omega) | omega) _), RowAt.nil _, RowAt.nil _⟩
  subst he
  rw [if_pos rfl] at hG
  obtain ⟨R4, own⟩ := os rfl
  obtain ⟨xas, cas, rfl, Ss4⟩ := SIn.ofOwn own
  obtain ⟨gs, _, ls, gg, zs⟩ := getRowF_ok 1 bs ss s hz hRs
  have qs : ss.length ≤ 140737488351232 := by
    have := congrArg List.length gg
    rw [List.length_append] at this
    omega
  have Gs := Lib.hid gs
  clear os ns own hRs gg gs
  go_wp2_with fail
  obtain ⟨w5, hw5⟩ : ∃ w5, w5 = w4.setCell ⟨D, 0, none⟩ (.slice xas s.length cas) := ⟨_, rfl⟩
  have R5 := RdAt.set R4 (⟨D, 0, none⟩ : Addr) hDp (D4.noByte (fun x => ⟨by simp, by simp, by simp, by simp, by simp⟩)) (.slice xas s.length cas)
  rw [← hw5] at R5
  have H5 : AckAt w5 b0 (.slice none 0 0) (.slice none 0 0) (.int .u64 0) (.int .u64 0) (.bool false) := by unfold AckAt; rw [hw5, kept_set _ _ _ _ hbD]; exact H4
  have D5 : AckAt w5 D (.slice xas s.length cas) (.slice none 0 0) (.int .u64 0) (.int .u64 0) (.bool false) := by rw [hw5]; exact heap_set_self _ _ _ _ _ _ _ D4
  have b05 : Below w.heap.size w w5 := by rw [hw5]; exact Below.setCell b04 (by simp; omega) _
  have Ss5 : SIn w5 Bs xas s := by rw [hw5]; exact Ss4.set hDs _ _
  rw [← hw5]
  clear d0 d1 d2 d3 d4 dz a0 a1 a2 a3 a4 fz x0 x1 x2 x3 x4
  clear y0
  clear hw5 R4 H4 D4 b04 Ss4
  obtain ⟨em, m, ms, hRm⟩ : ∃ e s r, getRowF 0 ss = (e, s, r) := ⟨_, _, _, rfl⟩
  rw [getA2, hRm] at hG
  simp only at hG
  refine (aSpans p 0 (by omega) ss zs (by omega) em m ms hRm _ R5).mono ?_; rintro e' w6 ⟨vm, rfl, b6, K6, nm, om⟩
  have H6 := H5.belowB hpb b6
  have D6 := D5.kept hDp K6
  have b06 : Below w.heap.size w w6 := b05.trans (b6.mono (by omega))
  have Ss6 := Ss5.kept hps K6 b6.size
  obtain ⟨Bm, hBm⟩ : ∃ n, n = w5.heap.size := ⟨_, rfl⟩
  have hDm : D < Bm := by rw [hBm]; exact D5.lt
  have hpm : p < Bm := by rw [hBm]; exact R5.1
  have hbm : b0 < Bm := by rw [hBm]; exact H5.lt
  rw [← hBm] at om
  clear hBm b6 K6 R5 H5 D5 b05 Ss5
  obtain ⟨⟨d0, d1, d2, d3, d4⟩, dz⟩ := D6.cells
  have y1 := dz 1
  obtain ⟨⟨a0, a1, a2, a3, a4⟩, fz⟩ := H6.cells
  have x0 := fz 0
  have x1 := fz 1
  have x2 := fz 2
  have x3 := fz 3
  have x4 := fz 4
  rw [hb0] at a0 a1 a2 a3 a4 x0 x1 x2 x3 x4
  by_cases he : em = 0
  case neg =>
    rw [if_neg he, Prod.mk.injEq] at hG
    obtain ⟨rfl, rfl⟩ := hG
    obtain rfl := nm he
    have hd : (em != 0) = true := by rw [bne_iff_ne]; exact he
    go_wp2_with fail
    refine bodyPost_ret (v := .tuple #[.agg #[.slice none 0 0, .slice none 0 0, .int .u64 0, .int .u64 0, .bool false], .int .i64 em]) (by simp [results, Try.results32, go_sem, a0, a1, a2, a3, a4]) rfl ⟨.slice none 0 0, .slice none 0 0, rfl, by repeat (first | with_reducible exact b06 | with_reducible refine Below.setCell ?_ (by first | (simp; done) | (simp; omega) | omega) _), RowAt.nil _, RowAt.nil _⟩
  subst he
  rw [if_pos rfl] at hG
  obtain ⟨R6, own⟩ := om rfl
  obtain ⟨xam, cam, rfl, Sm6⟩ := SIn.ofOwn own
  obtain ⟨gm, _, lm, gg, zm⟩ := getRowF_ok 0 ss ms m zs hRm
  have qm : ms.length ≤ 140737488351232 := by
    have := congrArg List.length gg
    rw [List.length_append] at this
    omega
  have Gm := Lib.hid gm
  clear om nm own hRm gg gm
  go_wp2_with fail
  obtain ⟨w7, hw7⟩ : ∃ w7, w7 = w6.setCell ⟨D, 1, none⟩ (.slice xam m.length cam) := ⟨_, rfl⟩
  have R7 := RdAt.set R6 (⟨D, 1, none⟩ : Addr) hDp (D6.noByte (fun x => ⟨by simp, by simp, by simp, by simp, by simp⟩)) (.slice xam m.length cam)
  rw [← hw7] at R7
  have H7 : AckAt w7 b0 (.slice none 0 0) (.slice none 0 0) (.int .u64 0) (.int .u64 0) (.bool false) := by unfold AckAt; rw [hw7, kept_set _ _ _ _ hbD]; exact H6
  have D7 : AckAt w7 D (.slice xas s.length cas) (.slice xam m.length cam) (.int .u64 0) (.int .u64 0) (.bool false) := by rw [hw7]; exact heap_set_self _ _ _ _ _ _ _ D6
  have b07 : Below w.heap.size w w7 := by rw [hw7]; exact Below.setCell b06 (by simp; omega) _
  have Ss7 : SIn w7 Bs xas s := by rw [hw7]; exact Ss6.set hDs _ _
  have Sm7 : SIn w7 Bm xam m := by rw [hw7]; exact Sm6.set hDm _ _
  rw [← hw7]
  clear d0 d1 d2 d3 d4 dz a0 a1 a2 a3 a4 fz x0 x1 x2 x3 x4
  clear y1
  clear hw7 R6 H6 D6 b06 Ss6 Sm6
  obtain ⟨hH, hK⟩ := wordHere ms zm (by omega)
  have hZ := wordF_zero ms zm
  refine (hH _ p R7).mono ?_; rintro e' w8 ⟨rfl, b8, R8, K8⟩
  have H8 := H7.belowB hpb b8
  have D8 := D7.kept hDp K8
  have b08 : Below w.heap.size w w8 := b07.trans (b8.mono (by omega))
  have Ss8 := Ss7.kept hps K8 b8.size
  have Sm8 := Sm7.kept hpm K8 b8.size
  clear hH b8 K8 R7 H7 D7 b07 Ss7 Sm7
  rw [getA3] at hG
  obtain ⟨⟨d0, d1, d2, d3, d4⟩, dz⟩ := D8.cells
  have y2 := dz 2
  obtain ⟨⟨a0, a1, a2, a3, a4⟩, fz⟩ := H8.cells
  have x0 := fz 0
  have x1 := fz 1
  have x2 := fz 2
  have x3 := fz 3
  have x4 := fz 4
  rw [hb0] at a0 a1 a2 a3 a4 x0 x1 x2 x3 x4
  by_cases he : (wordF ms).2.2 = 0
  case neg =>
    rw [if_neg he, Prod.mk.injEq] at hG
    obtain ⟨hE, rfl⟩ := hG
    have hd : ((wordF ms).2.2 != 0) = true := by rw [bne_iff_ne]; exact he
    clear hZ hK
    generalize (wordF ms).2.2 = er at *
    generalize (wordF ms).1 = N at *
    subst hE
    go_wp2_with fail
    refine bodyPost_ret (v := .tuple #[.agg #[.slice none 0 0, .slice none 0 0, .int .u64 0, .int .u64 0, .bool false], .int .i64 er]) (by simp [results, Try.results32, go_sem, a0, a1, a2, a3, a4]) rfl ⟨.slice none 0 0, .slice none 0 0, rfl, by repeat (first | with_reducible exact b08 | with_reducible refine Below.setCell ?_ (by first | (simp; done) | (simp; omega) | omega) _), RowAt.nil _, RowAt.nil _⟩
  rw [if_pos he] at hG
  rw [he]
  obtain ⟨nt, hnt⟩ : ∃ n, n = (wordF ms).1 := ⟨_, rfl⟩
  obtain ⟨ts, hts⟩ : ∃ l, l = ms.drop (wordF ms).2.1 := ⟨_, rfl⟩
  have zt : ∀ x ∈ ts, 0 ≤ x ∧ x ≤ 255 := by rw [hts]; exact byte_drop zm _
  have qt : ts.length ≤ 140737488351232 := by rw [hts, List.length_drop]; omega
  rw [← hnt, ← hts] at hG
  rw [← hts] at R8
  rw [← hnt]
  clear hZ he hK hts hnt
  go_wp2_with fail
  obtain ⟨w9, hw9⟩ : ∃ w9, w9 = w8.setCell ⟨D, 2, none⟩ (.int .u64 nt) := ⟨_, rfl⟩
  have R9 := RdAt.set R8 (⟨D, 2, none⟩ : Addr) hDp (D8.noByte (fun x => ⟨by simp, by simp, by simp, by simp, by simp⟩)) (.int .u64 nt)
  rw [← hw9] at R9
  have H9 : AckAt w9 b0 (.slice none 0 0) (.slice none 0 0) (.int .u64 0) (.int .u64 0) (.bool false) := by unfold AckAt; rw [hw9, kept_set _ _ _ _ hbD]; exact H8
  have D9 : AckAt w9 D (.slice xas s.length cas) (.slice xam m.length cam) (.int .u64 nt) (.int .u64 0) (.bool false) := by rw [hw9]; exact heap_set_self _ _ _ _ _ _ _ D8
  have b09 : Below w.heap.size w w9 := by rw [hw9]; exact Below.setCell b08 (by simp; omega) _
  have Ss9 : SIn w9 Bs xas s := by rw [hw9]; exact Ss8.set hDs _ _
  have Sm9 : SIn w9 Bm xam m := by rw [hw9]; exact Sm8.set hDm _ _
  rw [← hw9]
  clear d0 d1 d2 d3 d4 dz a0 a1 a2 a3 a4 fz x0 x1 x2 x3 x4
  clear y2
  clear hw9 R8 H8 D8 b08 Ss8 Sm8
  obtain ⟨hH, hK⟩ := wordHere ts zt (by omega)
  have hZ := wordF_zero ts zt
  refine (hH _ p R9).mono ?_; rintro e' w10 ⟨rfl, b10, R10, K10⟩
  have H10 := H9.belowB hpb b10
  have D10 := D9.kept hDp K10
  have b010 : Below w.heap.size w w10 := b09.trans (b10.mono (by omega))
  have Ss10 := Ss9.kept hps K10 b10.size
  have Sm10 := Sm9.kept hpm K10 b10.size
  clear hH b10 K10 R9 H9 D9 b09 Ss9 Sm9
  rw [getA4] at hG
  obtain ⟨⟨d0, d1, d2, d3, d4⟩, dz⟩ := D10.cells
  have y3 := dz 3
  obtain ⟨⟨a0, a1, a2, a3, a4⟩, fz⟩ := H10.cells
  have x0 := fz 0
  have x1 := fz 1
  have x2 := fz 2
  have x3 := fz 3
  have x4 := fz 4
  rw [hb0] at a0 a1 a2 a3 a4 x0 x1 x2 x3 x4
  by_cases he : (wordF ts).2.2 = 0
  case neg =>
    rw [if_neg he, Prod.mk.injEq] at hG
    obtain ⟨hE, rfl⟩ := hG
    have hd : ((wordF ts).2.2 != 0) = true := by rw [bne_iff_ne]; exact he
    clear hZ hK
    generalize (wordF ts).2.2 = er at *
    generalize (wordF ts).1 = N at *
    subst hE
    go_wp2_with fail
    refine bodyPost_ret (v := .tuple #[.agg #[.slice none 0 0, .slice none 0 0, .int .u64 0, .int .u64 0, .bool false], .int .i64 er]) (by simp [results, Try.results32, go_sem, a0, a1, a2, a3, a4]) rfl ⟨.slice none 0 0, .slice none 0 0, rfl, by repeat (first | with_reducible exact b010 | with_reducible refine Below.setCell ?_ (by first | (simp; done) | (simp; omega) | omega) _), RowAt.nil _, RowAt.nil _⟩
  rw [if_pos he] at hG
  rw [he]
  obtain ⟨nx, hnx⟩ : ∃ n, n = (wordF ts).1 := ⟨_, rfl⟩
  obtain ⟨xs, hxs⟩ : ∃ l, l = ts.drop (wordF ts).2.1 := ⟨_, rfl⟩
  have zx : ∀ x ∈ xs, 0 ≤ x ∧ x ≤ 255 := by rw [hxs]; exact byte_drop zt _
  have qx : xs.length ≤ 140737488351232 := by rw [hxs, List.length_drop]; omega
  rw [← hnx, ← hxs] at hG
  rw [← hxs] at R10
  rw [← hnx]
  clear hZ he hK hxs hnx
  go_wp2_with fail
  obtain ⟨w11, hw11⟩ : ∃ w11, w11 = w10.setCell ⟨D, 3, none⟩ (.int .u64 nx) := ⟨_, rfl⟩
  have R11 := RdAt.set R10 (⟨D, 3, none⟩ : Addr) hDp (D10.noByte (fun x => ⟨by simp, by simp, by simp, by simp, by simp⟩)) (.int .u64 nx)
  rw [← hw11] at R11
  have H11 : AckAt w11 b0 (.slice none 0 0) (.slice none 0 0) (.int .u64 0) (.int .u64 0) (.bool false) := by unfold AckAt; rw [hw11, kept_set _ _ _ _ hbD]; exact H10
  have D11 : AckAt w11 D (.slice xas s.length cas) (.slice xam m.length cam) (.int .u64 nt) (.int .u64 nx) (.bool false) := by rw [hw11]; exact heap_set_self _ _ _ _ _ _ _ D10
  have b011 : Below w.heap.size w w11 := by rw [hw11]; exact Below.setCell b010 (by simp; omega) _
  have Ss11 : SIn w11 Bs xas s := by rw [hw11]; exact Ss10.set hDs _ _
  have Sm11 : SIn w11 Bm xam m := by rw [hw11]; exact Sm10.set hDm _ _
  rw [← hw11]
  clear d0 d1 d2 d3 d4 dz a0 a1 a2 a3 a4 fz x0 x1 x2 x3 x4
  clear y3
  clear hw11 R10 H10 D10 b010 Ss10 Sm10
  rcases xs with _ | ⟨pb, us⟩
  · rw [getA5, Prod.mk.injEq] at hG
    obtain ⟨rfl, rfl⟩ := hG
    refine (takeShort [] 1 (by simp) _ p R11).mono ?_; rintro e' w' ⟨rfl, rfl⟩
    obtain ⟨⟨a0, a1, a2, a3, a4⟩, fz⟩ := H11.cells
    have z0 := fz 0
    have z1 := fz 1
    have z2 := fz 2
    have z3 := fz 3
    have z4 := fz 4
    rw [hb0] at a0 a1 a2 a3 a4 z0 z1 z2 z3 z4
    go_wp2_with fail
    refine bodyPost_ret (v := .tuple #[.agg #[.slice none 0 0, .slice none 0 0, .int .u64 0, .int .u64 0, .bool false], .int .i64 2]) (by simp [results, Try.results32, go_sem, a0, a1, a2, a3, a4]) rfl ⟨.slice none 0 0, .slice none 0 0, rfl, by repeat (first | with_reducible exact b011 | with_reducible refine Below.setCell ?_ (by first | (simp; done) | (simp; omega) | omega) _), RowAt.nil _, RowAt.nil _⟩
  have hpb8 := zx pb (by simp)
  simp only [List.length_cons] at qx
  refine (takeHere (pb :: us) 1 (by omega) (by simp) (by simp only [List.length_cons]; omega) _ p R11).mono ?_; rintro e' w12 ⟨q, qc, rfl, BQ, b12, R12, K12, _⟩
  have R12 : RdAt w12 p us := R12
  have H12 := H11.belowB hpb b12
  have D12 := D11.kept hDp K12
  have b012 : Below w.heap.size w w12 := b011.trans (b12.mono (by omega))
  have Ss12 := Ss11.kept hps K12 b12.size
  have Sm12 := Sm11.kept hpm K12 b12.size
  have ck : w12.cell? ⟨q, 0, none⟩ = some (.int .u8 pb) := by simpa using BQ.at 0 pb rfl
  have hqb : q ≠ w.heap.size := fun e => by
    rw [← hb0] at e
    subst e
    exact H12.noByte (fun x => ⟨by simp, by simp, by simp, by simp, by simp⟩) 0 _ ck
  have hqD : q ≠ D := fun e => by
    subst e
    exact D12.noByte (fun x => ⟨by simp, by simp, by simp, by simp, by simp⟩) 0 _ ck
  clear BQ b12 K12 R11 H11 D11 b011 Ss11 Sm11
  rw [getA5] at hG
  obtain ⟨⟨d0, d1, d2, d3, d4⟩, dz⟩ := D12.cells
  have y4 := dz 4
  obtain ⟨⟨a0, a1, a2, a3, a4⟩, fz⟩ := H12.cells
  have x0 := fz 0
  have x1 := fz 1
  have x2 := fz 2
  have x3 := fz 3
  have x4 := fz 4
  rw [hb0] at a0 a1 a2 a3 a4 x0 x1 x2 x3 x4
  by_cases hx : 1 < pb
  · rw [if_pos hx, Prod.mk.injEq] at hG
    obtain ⟨rfl, rfl⟩ := hG
    go_wp2_with fail
    refine bodyPost_ret (v := .tuple #[.agg #[.slice none 0 0, .slice none 0 0, .int .u64 0, .int .u64 0, .bool false], .int .i64 5]) (by simp [results, Try.results32, go_sem, a0, a1, a2, a3, a4]) rfl ⟨.slice none 0 0, .slice none 0 0, rfl, by repeat (first | with_reducible exact b012 | with_reducible refine Below.setCell ?_ (by first | (simp; done) | (simp; omega) | omega) _), RowAt.nil _, RowAt.nil _⟩
  rw [if_neg hx] at hG
  have hd : decide (1 < pb) = false := decide_eq_false hx
  go_wp2_with fail
  obtain ⟨w13, hw13⟩ : ∃ w13, w13 = w12.setCell ⟨D, 4, none⟩ (.bool (pb == 1)) := ⟨_, rfl⟩
  have R13 := RdAt.set R12 (⟨D, 4, none⟩ : Addr) hDp (D12.noByte (fun x => ⟨by simp, by simp, by simp, by simp, by simp⟩)) (.bool (pb == 1))
  rw [← hw13] at R13
  have H13 : AckAt w13 b0 (.slice none 0 0) (.slice none 0 0) (.int .u64 0) (.int .u64 0) (.bool false) := by unfold AckAt; rw [hw13, kept_set _ _ _ _ hbD]; exact H12
  have D13 : AckAt w13 D (.slice xas s.length cas) (.slice xam m.length cam) (.int .u64 nt) (.int .u64 nx) (.bool (pb == 1)) := by rw [hw13]; exact heap_set_self _ _ _ _ _ _ _ D12
  have b013 : Below w.heap.size w w13 := by rw [hw13]; exact Below.setCell b012 (by simp; omega) _
  have Ss13 : SIn w13 Bs xas s := by rw [hw13]; exact Ss12.set hDs _ _
  have Sm13 : SIn w13 Bm xam m := by rw [hw13]; exact Sm12.set hDm _ _
  rw [← hw13]
  clear d0 d1 d2 d3 d4 dz a0 a1 a2 a3 a4 fz x0 x1 x2 x3 x4
  clear y4
  clear hw13 R12 H12 D12 b012 Ss12 Sm12
  clear hd hx ck hqb hqD
  refine (leftHere _ _ p R13).mono ?_; rintro e' w' ⟨rfl, rfl⟩
  obtain ⟨⟨d0, d1, d2, d3, d4⟩, dz⟩ := D13.cells
  obtain ⟨⟨a0, a1, a2, a3, a4⟩, fz⟩ := H13.cells
  have x0 := fz 0
  have x1 := fz 1
  have x2 := fz 2
  have x3 := fz 3
  have x4 := fz 4
  rw [hb0] at a0 a1 a2 a3 a4 x0 x1 x2 x3 x4
  obtain ⟨L, hL⟩ : ∃ L, us.length = L := ⟨_, rfl⟩
  rw [hL] at hG ⊢
  by_cases hlong : 0 < L
  · rw [if_pos hlong, Prod.mk.injEq] at hG
    obtain ⟨rfl, rfl⟩ := hG
    have hL3 : (0 : Int) < (L : Int) := by omega
    go_wp2_with fail
    refine bodyPost_ret (v := .tuple #[.agg #[.slice none 0 0, .slice none 0 0, .int .u64 0, .int .u64 0, .bool false], .int .i64 3]) (by simp [results, Try.results32, go_sem, a0, a1, a2, a3, a4]) rfl ⟨.slice none 0 0, .slice none 0 0, rfl, by repeat (first | with_reducible exact b013 | with_reducible refine Below.setCell ?_ (by first | (simp; done) | (simp; omega) | omega) _), RowAt.nil _, RowAt.nil _⟩
  rw [if_neg hlong] at hG
  obtain rfl : L = 0 := by omega
  clear hlong hL
  obtain ⟨gam, gwm, _⟩ := goodL_all m 0 (by omega) Gm.out
  obtain ⟨gas, gws, _⟩ := goodL_all s 0 (by omega) Gs.out
  go_wp2_with fail
  refine (sWithin xam xas cam cas m s gwm gws (by omega) (by omega) (decide (insideAll m s)) (withinAll_of gam gas) _ Sm13.row Ss13.row).mono ?_; rintro e' w14 ⟨rfl, b14⟩
  have H14 := H13.belowB H13.lt b14
  have D14 := D13.belowB D13.lt b14
  have b014 : Below w.heap.size w w14 := b013.trans (b14.mono b013.size)
  have Ss14 := Ss13.below b14
  have Sm14 := Sm13.below b14
  clear d0 d1 d2 d3 d4 dz a0 a1 a2 a3 a4 fz x0 x1 x2 x3 x4
  clear gam gwm gas gws b14 R13 H13 D13 b013 Ss13 Sm13
  obtain ⟨⟨d0, d1, d2, d3, d4⟩, dz⟩ := D14.cells
  obtain ⟨⟨a0, a1, a2, a3, a4⟩, fz⟩ := H14.cells
  have x0 := fz 0
  have x1 := fz 1
  have x2 := fz 2
  have x3 := fz 3
  have x4 := fz 4
  rw [hb0] at a0 a1 a2 a3 a4 x0 x1 x2 x3 x4
  by_cases hi : insideAll m s
  case neg =>
    rw [if_neg hi, Prod.mk.injEq] at hG
    obtain ⟨rfl, rfl⟩ := hG
    rw [decide_eq_false hi]
    go_wp2_with fail
    refine bodyPost_ret (v := .tuple #[.agg #[.slice none 0 0, .slice none 0 0, .int .u64 0, .int .u64 0, .bool false], .int .i64 5]) (by simp [results, Try.results32, go_sem, a0, a1, a2, a3, a4]) rfl ⟨.slice none 0 0, .slice none 0 0, rfl, by repeat (first | with_reducible exact b014 | with_reducible refine Below.setCell ?_ (by first | (simp; done) | (simp; omega) | omega) _), RowAt.nil _, RowAt.nil _⟩
  rw [if_pos hi, Prod.mk.injEq] at hG
  obtain ⟨rfl, rfl⟩ := hG
  rw [decide_eq_true hi]
  go_wp2_with fail
  rw [← hb0]
  refine bodyPost_ret (v := .tuple #[.agg #[.slice xas s.length cas, .slice xam m.length cam, .int .u64 nt, .int .u64 nx, .bool (pb == 1)], .int .i64 0]) (by rw [hb0]; simp [results, Try.results32, go_sem, a0, a1, a2, a3, a4]) rfl ⟨.slice xas s.length cas, .slice xam m.length cam, rfl, by rw [hb0]; repeat (first | with_reducible exact b014 | with_reducible refine Below.setCell ?_ (by first | (simp; done) | (simp; omega) | omega) _), ⟨xas, cas, rfl, SIn.row (B := Bs) (by repeat (first | with_reducible exact Ss14 | with_reducible refine SIn.set ?_ hbs _ _))⟩, ⟨xam, cam, rfl, SIn.row (B := Bm) (by repeat (first | with_reducible exact Sm14 | with_reducible refine SIn.set ?_ hbm _ _))⟩⟩

end Go.Proofs.Ytofggpmllfhgaaa
